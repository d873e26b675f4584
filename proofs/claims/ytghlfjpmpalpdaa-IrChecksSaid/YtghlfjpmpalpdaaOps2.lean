/- More operations: builds, slices, lengths; objects of the call's own: made, stored into, appended to. -/
import Derived.Test.YtghlfjpmpalpdaaOps
import Derived.Great.BuildSlice
namespace Go.Proofs.Ytghlfjpmpalpdaa
open Go.RowKit

section cells
variable {γ : Nat → Option Value} {X : Nat → Nat → Prop} {w : World} {v : Value}

theorem DRep.one {x : DV} (h : DRep X w v x) (hc : x.cell = true) : v.oneCell' = true := by
  cases h with
  | lit => exact hc
  | nil => rfl
  | emp => rfl
  | sl => rfl
  | cref => rfl
  | fn => rfl
  | _ => simp [DV.cell] at hc
theorem cells_one (h : v.oneCell' = true) : v.cells = #[v] := by
  cases v <;> first | rfl | simp [Value.oneCell'] at h
theorem Rep.cellsD {x : DV} (h : DRep X w v x) (n : Nat) (ok : (AV.d x).cellOk n = true) :
    v.cells.size = n ∧ Reps γ X w v.cells.toList (AV.d x).cells ∧ ∀ u ∈ v.cells.toList, u.oneCell' = true := by
  cases h with
  | agg vs cs hl hr =>
    simp only [AV.cellOk, Bool.and_eq_true, beq_iff_eq, List.all_eq_true] at ok
    refine ⟨?_, ?_, ?_⟩
    · simp [Value.cells, hl, ok.1]
    · exact DReps.reps ⟨hl, hr⟩
    · intro u hu
      obtain ⟨i, hi, rfl⟩ := List.getElem_of_mem hu
      exact (hr i hi (hl ▸ hi)).one (ok.2 _ (List.getElem_mem _))
  | top v => simp [AV.cellOk, AV.cell, DV.cell] at ok
  | tup => simp [AV.cellOk, AV.cell, DV.cell] at ok
  | sn => simp [AV.cellOk, AV.cell, DV.cell] at ok
  | lit v =>
    simp only [AV.cellOk, Bool.and_eq_true, beq_iff_eq] at ok
    have h1 : v.oneCell' = true := ok.2
    rw [cells_one h1]
    exact ⟨ok.1.symm, Reps.cons (.ofLit v) (Reps.nil _ _ _), by simpa using h1⟩
  | nil n row =>
    simp only [AV.cellOk, Bool.and_eq_true, beq_iff_eq] at ok
    exact ⟨ok.1.symm, Reps.cons (.d _ _ (.nil n row)) (Reps.nil _ _ _), by simp [Value.cells, Value.oneCell']⟩
  | emp a n row =>
    simp only [AV.cellOk, Bool.and_eq_true, beq_iff_eq] at ok
    exact ⟨ok.1.symm, Reps.cons (.d _ _ (.emp a n row)) (Reps.nil _ _ _), by simp [Value.cells, Value.oneCell']⟩
  | sl b off cap n' len row vals h1 h2 hb hX hl hc hr =>
    simp only [AV.cellOk, Bool.and_eq_true, beq_iff_eq] at ok
    exact ⟨ok.1.symm, Reps.cons (.d _ _ (.sl b off cap n' len row vals h1 h2 hb hX hl hc hr)) (Reps.nil _ _ _), by simp [Value.cells, Value.oneCell']⟩
  | cref b base off cs vs hb hX hl hc hr =>
    simp only [AV.cellOk, Bool.and_eq_true, beq_iff_eq] at ok
    exact ⟨ok.1.symm, Reps.cons (.d _ _ (.cref b base off cs vs hb hX hl hc hr)) (Reps.nil _ _ _), by simp [Value.cells, Value.oneCell']⟩
  | fn f vs caps hl hr =>
    simp only [AV.cellOk, Bool.and_eq_true, beq_iff_eq] at ok
    exact ⟨ok.1.symm, Reps.cons (.d _ _ (.fn f vs caps hl hr)) (Reps.nil _ _ _), by simp [Value.cells, Value.oneCell']⟩

theorem blk_own {γ : Nat → Option Value} {X0 : Nat → Nat → Prop} {W0 : World} {w : World} {H : Heap} (hS : St X0 W0 γ w H) {id : Nat} {o : AObj} {v : Value} (ho : hget H id = some o) (hv : γ id = some v) : v.oneCell' = true := by
  obtain ⟨u, hu, hr⟩ := hS.obj id o ho
  rw [hv] at hu
  injection hu with hu
  subst hu
  cases o with
  | box cs => obtain ⟨b, arr, t, rfl, _⟩ := hr; rfl
  | row e n len row =>
    obtain ⟨xs, hown, _⟩ := hr
    rcases hown.2 with ⟨rfl, _⟩ | ⟨g, cap, cur, rfl, _⟩ <;> rfl
  | map kd n f => obtain ⟨b, ent, clock, rfl, _⟩ := hr; rfl

/-- In states own slices are told by objects that are there. -/
def AV.there (H : Heap) : AV → Bool
  | .own id _ => (hget H id).isSome
  | _ => true

theorem Rep.oneA {γ : Nat → Option Value} {X0 : Nat → Nat → Prop} {W0 : World} {w : World} {H : Heap} (hS : St X0 W0 γ w H) {X : Nat → Nat → Prop} {v : Value} {a : AV} (h : Rep γ X w v a) (hc : a.cell = true) (ht : a.there H = true) : v.oneCell' = true := by
  cases h with
  | d _ x h => exact h.one hc
  | ptr => rfl
  | mp => rfl
  | fn => rfl
  | own v id len h =>
    simp only [AV.there] at ht
    cases ho : hget H id with
    | none => simp [ho] at ht
    | some o => exact blk_own hS ho h
  | _ => simp [AV.cell] at hc

theorem Rep.cells {γ : Nat → Option Value} {X0 : Nat → Nat → Prop} {W0 : World} {w : World} {H : Heap} (hS : St X0 W0 γ w H) {X : Nat → Nat → Prop} {v : Value} {a : AV} (h : Rep γ X w v a) (n : Nat) (ok : a.cellOk n = true) (ht : a.cells.all (·.there H) = true) :
    v.cells.size = n ∧ Reps γ X w v.cells.toList a.cells ∧ ∀ u ∈ v.cells.toList, u.oneCell' = true := by
  cases h with
  | d _ x h => exact Rep.cellsD h n ok
  | agg vs cs hl hr =>
    simp only [AV.cellOk, Bool.and_eq_true, beq_iff_eq, List.all_eq_true] at ok
    refine ⟨by simp [Value.cells, hl, ok.1], ⟨hl, hr⟩, ?_⟩
    intro u hu
    obtain ⟨i, hi, rfl⟩ := List.getElem_of_mem hu
    have hi' : i < cs.length := hl ▸ hi
    simp only [AV.cells, List.all_eq_true] at ht
    exact (hr i hi hi').oneA hS (ok.2 _ (List.getElem_mem hi')) (ht _ (List.getElem_mem hi'))
  | ptr b id off h =>
    simp only [AV.cellOk, Bool.and_eq_true, beq_iff_eq] at ok
    exact ⟨ok.1.symm, Reps.cons (.ptr b id off h) (Reps.nil _ _ _), by simp [Value.cells, Value.oneCell']⟩
  | own v id len h =>
    simp only [AV.cellOk, Bool.and_eq_true, beq_iff_eq] at ok
    have h1 : v.oneCell' = true := Rep.oneA hS (X := X) (.own v id len h) ok.2 (by simpa [AV.cells] using ht)
    rw [cells_one h1]
    exact ⟨ok.1.symm, Reps.cons (.own v id len h) (Reps.nil _ _ _), by simpa using h1⟩
  | mp b id h =>
    simp only [AV.cellOk, Bool.and_eq_true, beq_iff_eq] at ok
    exact ⟨ok.1.symm, Reps.cons (.mp b id h) (Reps.nil _ _ _), by simp [Value.cells, Value.oneCell']⟩
  | fn f vs caps hl hr =>
    simp only [AV.cellOk, Bool.and_eq_true, beq_iff_eq] at ok
    exact ⟨ok.1.symm, Reps.cons (.fn f vs caps hl hr) (Reps.nil _ _ _), by simp [Value.cells, Value.oneCell']⟩
  | whn v g x h => simp [AV.cellOk, AV.cell] at ok
  | tup => simp [AV.cellOk, AV.cell] at ok

end cells

/-- Cells from 'off' on replaced. -/
def spl {α : Type} (cs : List α) (off : Nat) (l : List α) : List α := cs.take off ++ l ++ cs.drop (off + l.length)

theorem spl_length {α : Type} {cs l : List α} {off : Nat} (h : off + l.length ≤ cs.length) : (spl cs off l).length = cs.length := by
  simp only [spl, List.length_append, List.length_take, List.length_drop]; omega

section spl
variable {γ : Nat → Option Value} {X : Nat → Nat → Prop} {w : World}
theorem Reps.take {vs : List Value} {as : List AV} (h : Reps γ X w vs as) (k : Nat) : Reps γ X w (vs.take k) (as.take k) :=
  ⟨by simp [h.1], fun i hi hi' => by simp only [List.getElem_take]; exact h.2 _ _ _⟩
theorem Reps.drop {vs : List Value} {as : List AV} (h : Reps γ X w vs as) (k : Nat) : Reps γ X w (vs.drop k) (as.drop k) :=
  ⟨by simp [h.1], fun i hi hi' => by simp only [List.getElem_drop]; exact h.2 _ _ _⟩
theorem Reps.spl {vs us : List Value} {as bs : List AV} (h : Reps γ X w vs as) (k : Reps γ X w us bs) (off : Nat) : Reps γ X w (spl vs off us) (spl as off bs) := by
  unfold Proofs.Ytghlfjpmpalpdaa.spl
  rw [k.1]
  exact ((h.take off).append k).append (h.drop _)
theorem Reps.lits (zs : List Value) : Reps γ X w zs (zs.map fun z => .d (.lit z)) :=
  ⟨by simp, fun i hi hi' => by simp only [List.getElem_map]; exact .ofLit _⟩
end spl

/-- The fill of a literal's parts, one behind the other. -/
def fillV (zs : List AV) : List (Nat × AV) → List AV
  | [] => zs
  | (off, a) :: r => fillV (spl zs off a.cells) r
def fillOk (H : Heap) (n : Nat) : List (Nat × Nat × AV) → Prop
  | [] => True
  | (off, size, a) :: r => a.cellOk size = true ∧ a.cells.all (·.there H) = true ∧ off + size ≤ n ∧ fillOk H n r

theorem foldl_spl (off : Nat) (l : List Value) (cs : Array Value) (h : off + l.length ≤ cs.size) :
    ((l.zipIdx 0).foldl (fun cs (x : Value × Nat) => cs.setIfInBounds (off + x.2) x.1) cs).toList = spl cs.toList off l := by
  obtain ⟨h1, h2⟩ := Great.foldl_set off l 0 cs
  apply List.ext_getElem?
  intro k
  have e := h2 k
  rw [Array.getElem?_toList, e]
  simp only [Nat.add_zero]
  unfold spl
  by_cases hk : k < off
  · rw [if_neg (by omega), List.append_assoc, List.getElem?_append_left (by simp; omega), List.getElem?_take, if_pos hk]
    simp
  · by_cases hk2 : k < off + l.length
    · rw [if_pos ⟨by omega, hk2, by omega⟩, List.append_assoc, List.getElem?_append_right (by simp; omega), List.getElem?_append_left (by simp; omega)]
      simp only [List.length_take, Array.length_toList]
      rw [Nat.min_eq_left (by omega)]
    · rw [if_neg (by omega), List.getElem?_append_right (by simp; omega), List.getElem?_drop]
      simp only [List.length_append, List.length_take, Array.length_toList]
      rw [Nat.min_eq_left (by omega)]
      rw [show off + l.length + (k - (off + l.length)) = k by omega]
      simp

theorem fill_rep {γ : Nat → Option Value} {X0 : Nat → Nat → Prop} {W0 : World} {w : World} {H : Heap} (hS : St X0 W0 γ w H) (place : Nat → Option (Nat × Nat)) : ∀ (parts : List (Nat × Value)) (as : List (Nat × Nat × AV)) (cells : Array Value) (zs : List AV),
    parts.length = as.length → (∀ i (h : i < parts.length) (h' : i < as.length), place parts[i].1 = some (as[i].1, as[i].2.1) ∧ Rep γ (XOf X0 γ H) w parts[i].2 as[i].2.2) → fillOk H cells.size as → Reps γ (XOf X0 γ H) w cells.toList zs →
    ∃ r, Instr.fill place cells parts = some r ∧ r.size = cells.size ∧ Reps γ (XOf X0 γ H) w r.toList (fillV zs (as.map fun x => (x.1, x.2.2)))
  | [], as, cells, zs, hl, _, _, hz => by
    have : as = [] := by simpa using hl.symm
    subst this
    exact ⟨cells, rfl, rfl, hz⟩
  | (i, v) :: parts, [], cells, zs, hl, _, _, _ => by simp at hl
  | (i, v) :: parts, (off, size, a) :: as, cells, zs, hl, hp, hok, hz => by
    obtain ⟨h1, ht, h2, h3⟩ := hok
    obtain ⟨hp1, hp2⟩ := hp 0 (by simp) (by simp)
    simp only [List.getElem_cons_zero] at hp1 hp2
    obtain ⟨k1, k2, k3⟩ := hp2.cells hS size h1 ht
    have hfl := foldl_spl off v.cells.toList cells (by simp [k1]; omega)
    have hsz : ((v.cells.toList.zipIdx 0).foldl (fun cs (x : Value × Nat) => cs.setIfInBounds (off + x.2) x.1) cells).size = cells.size := (Great.foldl_set off v.cells.toList 0 cells).1
    obtain ⟨r, hr, hrs, hrr⟩ := fill_rep hS place parts as ((v.cells.toList.zipIdx 0).foldl (fun cs (x : Value × Nat) => cs.setIfInBounds (off + x.2) x.1) cells) (spl zs off a.cells) (by simpa using hl)
      (fun j hj hj' => by have := hp (j + 1) (by simpa using hj) (by simpa using hj'); simp only [List.getElem_cons_succ] at this; exact this) (by rw [hsz]; exact h3) (by rw [hfl]; exact hz.spl k2 off)
    refine ⟨r, ?_, hrs.trans hsz, hrr⟩
    unfold Instr.fill
    simp only [hp1]
    rw [if_neg (by simp; omega)]
    rw [← hr]
    congr 1
    rw [← Array.foldl_toList, Array.toList_zipIdx]

section misc
variable {P : Program} {γ : Nat → Option Value} {X : Nat → Nat → Prop} {w : World} {v u : Value}

def lenV : AV → AV
  | .d (.sl _ len _) => .int len
  | .d (.lit (.string s)) => .int s.size
  | .d (.lit (.slice _ len _)) => .int len
  | .own _ len => .int len
  | _ => .d .top

def notV : AV → AV
  | .d (.lit (.bool b)) => .bool (!b)
  | _ => .d .top

def extV (i : Nat) : AV → AV
  | .d (.tup cs) => .d (cs.getD i .top)
  | .tup cs => cs.getD i (.d .top)
  | _ => .d .top
def extOk (i : Nat) : AV → Prop
  | .d (.tup cs) => i < cs.length
  | .tup cs => i < cs.length
  | _ => False

theorem run_ext {i : Nat} {a : AV} (hv : Rep γ X w v a) (hok : extOk i a) : ∃ v', (Instr.extract v i).run P w = .ok v' w ∧ Rep γ X w v' (extV i a) := by
  cases hv with
  | d _ x h =>
    cases h with
    | tup vs cs hl hr =>
      have hi : i < cs.length := hok
      refine ⟨vs[i]'(by omega), by simp [Instr.extract, show i < vs.length by omega], ?_⟩
      simp only [extV, List.getD, List.getElem?_eq_getElem hi, Option.getD_some]
      exact .d _ _ (hr i (by omega) hi)
    | _ => simp [extOk] at hok
  | tup vs cs hl hr =>
    have hi : i < cs.length := hok
    refine ⟨vs[i]'(by omega), by simp [Instr.extract, show i < vs.length by omega], ?_⟩
    simp only [extV, List.getD, List.getElem?_eq_getElem hi, Option.getD_some]
    exact hr i (by omega) hi
  | _ => simp [extOk] at hok

def slcV (a : AV) (lo hi : Int) : AV :=
  match a with
  | .d (.sl n _ row) => .d (.sl n (hi.toNat - lo.toNat) fun i => row (lo.toNat + i))
  | _ => .d .top
def slcOk (n : Nat) (a : AV) (lo hi : Int) : Prop :=
  match a with
  | .d (.sl n' len _) => n' = n ∧ 0 ≤ lo ∧ lo ≤ hi ∧ hi ≤ len
  | _ => False

theorem run_slc {t e : TypeId} {inf : TypeInfo} {a : AV} {lo hi : Option Value} {l h : Int} (hu : P.underlying t = some (.slice e)) (hi' : P.info? e = some inf)
    (hv : Rep γ X w v a) (hlo : lo = some (.int .i64 l) ∨ (lo = none ∧ l = 0)) (hhi : hi = some (.int .i64 h) ∨ (hi = none ∧ ∃ n len row, a = .d (.sl n len row) ∧ h = len)) (hok : slcOk inf.size a l h) :
    ∃ v', (Instr.sliceAt t v lo hi none).run P w = .ok v' w ∧ Rep γ X w v' (slcV a l h) := by
  unfold slcOk at hok
  split at hok
  · rename_i n' len row
    obtain ⟨rfl, h0, h1, h2⟩ := hok
    have hhi' : hi = some (.int .i64 h) ∨ (hi = none ∧ h = len) := by
      rcases hhi with h | ⟨h, n, len', row', e1, e2⟩
      · exact .inl h
      · injection e1 with e1; injection e1 with e1 e3 e4; subst e3; exact .inr ⟨h, e2⟩
    cases hv with | d _ _ hd =>
    obtain ⟨ln, rfl⟩ := Int.eq_ofNat_of_zero_le h0
    obtain ⟨hn, rfl⟩ := Int.eq_ofNat_of_zero_le (show 0 ≤ h by omega)
    cases hd with
    | nil n row =>
      have e1 : ln = 0 := by omega
      have e2 : hn = 0 := by omega
      subst e1; subst e2
      refine ⟨.slice none 0 0, ?_, ?_⟩
      · rcases hlo with rfl | ⟨rfl, _⟩ <;> rcases hhi' with rfl | ⟨rfl, _⟩ <;> simp [Instr.sliceAt, run_underlying hu, Instr.slice, Instr.sliceBounds, Instr.sliceBound, asIntOf, sizeOf, typeInfo, hi']
      · exact .d _ _ (.nil _ _)
    | emp a n row =>
      have e1 : ln = 0 := by omega
      have e2 : hn = 0 := by omega
      subst e1; subst e2
      refine ⟨.slice (some a) 0 0, ?_, ?_⟩
      · rcases hlo with rfl | ⟨rfl, _⟩ <;> rcases hhi' with rfl | ⟨rfl, _⟩ <;> simp [Instr.sliceAt, run_underlying hu, Instr.slice, Instr.sliceBounds, Instr.sliceBound, asIntOf, sizeOf, typeInfo, hi', Addr.add]
      · exact .d _ _ (.emp _ _ _)
    | sl b off cap n _ _ vals hc1 hc2 hb hX hl hc hr =>
      have k1 : ln ≤ hn := by omega
      have k2 : hn ≤ len := by omega
      refine ⟨.slice (some ⟨b, if cap = ln then off else off + ln * inf.size, none⟩) (hn - ln) (cap - ln), ?_, ?_⟩
      · have k3 : hn ≤ cap := by omega
        rcases hlo with rfl | ⟨rfl, e0⟩ <;> rcases hhi' with rfl | ⟨rfl, e1⟩
        all_goals
          (try have e0' : ln = 0 := by omega)
          (try have e1' : hn = len := by omega)
          (try subst e0')
          (try subst e1')
          simp [Instr.sliceAt, run_underlying hu, Instr.slice, Instr.sliceBounds, Instr.sliceBound, asIntOf, sizeOf, typeInfo, hi', addr_add, k1, k3]
          try (split <;> simp_all)
      · refine .d _ _ ?_
        simp only [Int.toNat_natCast]
        by_cases hcap : cap = ln
        · have hz : hn - ln = 0 := by omega
          rw [if_pos hcap, hz]
          refine .sl b off (cap - ln) inf.size 0 _ vals (by omega) (by omega) hb (fun i hi => by omega) (fun i hi => by omega) (fun i hi => by omega) (fun i hi => by omega)
        · rw [if_neg hcap]
          refine .sl b (off + ln * inf.size) (cap - ln) inf.size (hn - ln) _ (fun i => vals (ln + i)) (by omega) (by omega) hb (fun i hi j hj h => hX (ln + i) (by omega) j hj (by rw [Nat.add_mul, ← Nat.add_assoc]; exact h)) (fun i hi => hl _ (by omega)) (fun i hi j v hv => ?_) (fun i hi j hj hj' => hr _ (by omega) j hj hj')
          have := hc (ln + i) (by omega) j v hv
          rw [Nat.add_mul, ← Nat.add_assoc] at this
          exact this
  · exact hok.elim

end misc

end Go.Proofs.Ytghlfjpmpalpdaa
