/- What each operation makes of what is read: pure functions on the evaluator's values; and that the model does so. -/
import Derived.Test.YtghlfjpmpalpdaaAbs
namespace Go.Proofs.Ytghlfjpmpalpdaa
open Go.RowKit

abbrev DV.int (n : Int) : DV := .lit (.int .i64 n)
abbrev DV.bool (b : Bool) : DV := .lit (.bool b)
abbrev DV.str (s : ByteArray) : DV := .lit (.string s)
abbrev AV.int (n : Int) : AV := .d (.lit (.int .i64 n))
abbrev AV.bool (b : Bool) : AV := .d (.lit (.bool b))

section inv
variable {γ : Nat → Option Value} {X : Nat → Nat → Prop} {w : World} {v : Value}
theorem Rep.lit {u : Value} (h : Rep γ X w v (.d (.lit u))) : v = u := by
  cases h with | d _ _ h => cases h with | lit => rfl
theorem Rep.dv {x : DV} (h : Rep γ X w v (.d x)) : DRep X w v x := by
  cases h with | d _ _ h => exact h
theorem Rep.ofLit (u : Value) : Rep γ X w u (.d (.lit u)) := .d u _ (.lit u)
end inv

/-- The known lists of plain data, all or none. -/
def allD : List AV → Option (List DV)
  | [] => some []
  | .d x :: r => match allD r with | some l => some (x :: l) | none => none
  | _ :: _ => none
def mkAgg (cs : List AV) : AV := match allD cs with | some ds => .d (.agg ds) | none => .agg cs
def mkTup (cs : List AV) : AV := match allD cs with | some ds => .d (.tup ds) | none => .tup cs
def mkFn (F : FuncId) (cs : List AV) : AV := match allD cs with | some ds => .d (.fn F ds) | none => .fn F cs

theorem allD_some : ∀ {cs : List AV} {ds : List DV}, allD cs = some ds → cs = ds.map AV.d
  | [], ds, h => by simp [allD] at h; simp [← h]
  | .d x :: r, ds, h => by
    cases hr : allD r with
    | none => simp [allD, hr] at h
    | some l =>
      simp [allD, hr] at h
      rw [allD_some hr, ← h]; rfl
  | .whn g x :: r, ds, h => by simp [allD] at h
  | .ptr i o :: r, ds, h => by simp [allD] at h
  | .own i o :: r, ds, h => by simp [allD] at h
  | .fn i o :: r, ds, h => by simp [allD] at h
  | .agg i :: r, ds, h => by simp [allD] at h
  | .tup i :: r, ds, h => by simp [allD] at h

section mk
variable {γ : Nat → Option Value} {X : Nat → Nat → Prop} {w : World}
theorem Reps.allD {vs : List Value} {cs : List AV} {ds : List DV} (h : Reps γ X w vs cs) (hd : Proofs.Ytghlfjpmpalpdaa.allD cs = some ds) : DReps X w vs ds := by
  have e := allD_some hd
  subst e
  refine ⟨by simpa using h.1, fun i hi hi' => ?_⟩
  have := h.2 i hi (by simpa using hi')
  simp only [List.getElem_map] at this
  exact this.dv
theorem Rep.mkAgg {vs : List Value} {cs : List AV} (h : Reps γ X w vs cs) : Rep γ X w (.agg vs.toArray) (mkAgg cs) := by
  unfold Proofs.Ytghlfjpmpalpdaa.mkAgg
  cases hd : allD cs with
  | none => exact .agg vs cs h.1 h.2
  | some ds => have := h.allD hd; exact .d _ _ (.agg vs ds this.1 this.2)
theorem Rep.mkTup {vs : List Value} {cs : List AV} (h : Reps γ X w vs cs) : Rep γ X w (.tuple vs.toArray) (mkTup cs) := by
  unfold Proofs.Ytghlfjpmpalpdaa.mkTup
  cases hd : allD cs with
  | none => exact .tup vs cs h.1 h.2
  | some ds => have := h.allD hd; exact .d _ _ (.tup vs ds this.1 this.2)
theorem Rep.mkFn {F : FuncId} {vs : List Value} {cs : List AV} (h : Reps γ X w vs cs) : Rep γ X w (.func (.func F) #[] vs.toArray) (mkFn F cs) := by
  unfold Proofs.Ytghlfjpmpalpdaa.mkFn
  cases hd : allD cs with
  | none => exact .fn F vs cs h.1 h.2
  | some ds => have := h.allD hd; exact .d _ _ (.fn F vs ds this.1 this.2)
theorem DReps.reps {vs : List Value} {ds : List DV} (h : DReps X w vs ds) : Reps γ X w vs (ds.map AV.d) :=
  ⟨by simpa using h.1, fun i hi hi' => by simp only [List.getElem_map]; exact .d _ _ (h.2 i hi (by simpa using hi'))⟩
/-- A struct's cells. -/
theorem Rep.unAgg {v : Value} {cs : List AV} (h : Rep γ X w v (.agg cs)) : ∃ vs, v = .agg vs ∧ Reps γ X w vs.toList cs := by
  cases h with | agg vs _ hl hr => exact ⟨_, rfl, hl, hr⟩
theorem DRep.unAgg {v : Value} {cs : List DV} (h : DRep X w v (.agg cs)) : ∃ vs, v = .agg vs ∧ DReps X w vs.toList cs := by
  cases h with | agg vs _ hl hr => exact ⟨_, rfl, hl, hr⟩
end mk

/-- Is it surely one cell? -/
def DV.cell : DV → Bool
  | .lit v => v.oneCell'
  | .sl .. | .cref .. | .fn .. => true
  | _ => false
def AV.cell : AV → Bool
  | .d x => x.cell
  | .ptr .. | .fn .. | .own .. | .mp .. => true
  | _ => false
/-- The cells of a value. -/
def AV.cells : AV → List AV
  | .d (.agg cs) => cs.map .d
  | .agg cs => cs
  | a => [a]
def AV.cellOk (n : Nat) : AV → Bool
  | .d (.agg cs) => cs.length == n && cs.all DV.cell
  | .agg cs => cs.length == n && cs.all AV.cell
  | a => n == 1 && a.cell

section field
variable {P : Program} {γ : Nat → Option Value} {X : Nat → Nat → Prop} {w : World} {v : Value}

def fldV (off : Nat) : AV → AV
  | .d (.cref cs o) => .d (.cref cs (o + off))
  | .ptr id o => .ptr id (o + off)
  | _ => .d .top
def isPtr : AV → Bool
  | .d (.cref _ _) => true
  | .ptr _ _ => true
  | _ => false

theorem addr_add (b o n : Nat) : (⟨b, o, none⟩ : Addr).add n = ⟨b, o + n, none⟩ := by
  unfold Addr.add; split <;> simp_all

theorem run_field {t : TypeId} {i : Nat} {fs : Array Field} {f : Field} {inf : TypeInfo} {a : AV} (hu : P.underlying t = some (.struct fs)) (hf : fs[i]? = some f) (hi : P.info? f.type = some inf) (hz : inf.size ≠ 0)
    (hv : Rep γ X w v a) (hok : isPtr a = true) : ∃ v', (Instr.fieldAt t v i).run P w = .ok v' w ∧ Rep γ X w v' (fldV f.offset a) := by
  have hrun : ∀ b o, (Instr.fieldAt t (.pointer (some ⟨b, o, none⟩)) i).run P w = .ok (.pointer (some ⟨b, o + f.offset, none⟩)) w := by
    intro b o
    simp [Instr.fieldAt, run_underlying hu, hf, Instr.sureAddr, fieldPlace, sizeOf, typeInfo, hi, hz, addr_add]
  cases hv with
  | d _ x h =>
    cases h with
    | cref b base off cs vs hb hX hl hc hr =>
      refine ⟨_, hrun _ _, ?_⟩
      have := DRep.cref b base (off + f.offset) cs vs hb hX hl hc hr
      rw [← Nat.add_assoc] at this
      exact .d _ _ this
    | _ => simp [isPtr] at hok
  | ptr b id off h => exact ⟨_, hrun _ _, .ptr b id (off + f.offset) h⟩
  | _ => simp [isPtr] at hok

end field

section load
variable {P : Program} {X0 : Nat → Nat → Prop} {W0 : World} {γ : Nat → Option Value} {w : World} {H : Heap} {v : Value}

def ldV (H : Heap) (k : Option Nat) : AV → AV
  | .d (.cref cs o) => match k with
    | none => .d (cs.getD o .top)
    | some k => .d (.agg ((cs.drop o).take k))
  | .ptr id o => match hget H id with
    | some (.box cs) => match k with
      | none => cs.getD o (.d .top)
      | some k => mkAgg ((cs.drop o).take k)
    | _ => .d .top
  | _ => .d .top
def ldOk (H : Heap) (k : Option Nat) : AV → Prop
  | .d (.cref cs o) => o + k.getD 1 ≤ cs.length
  | .ptr id o => match hget H id with
    | some (.box cs) => o + k.getD 1 ≤ cs.length
    | _ => False
  | _ => False

theorem run_load_cells {t : TypeId} {b o : Nat} {vs : List Value} {inf : TypeInfo} {d : TypeDesc} (hu : P.underlying t = some d) (hd : (∃ fs, d = .struct fs) ∨ (∃ n e, d = .array n e)) (hi : P.info? t = some inf) (hn : inf.size = vs.length)
    (hc : ∀ j u, vs[j]? = some u → w.cell? ⟨b, o + j, none⟩ = some u) : (Instr.loadAt t (.pointer (some ⟨b, o, none⟩))).run P w = .ok (.agg vs.toArray) w := by
  have h := run_loadCells_list (P := P) (w := w) ⟨b, o, none⟩ vs (fun j u hj => by rw [addr_add]; exact hc j u hj)
  rcases hd with ⟨fs, rfl⟩ | ⟨n, e, rfl⟩ <;> simp [Instr.loadAt, Instr.sureAddr, loadVar, isAgg, run_underlying hu, sizeOf, typeInfo, hi, hn, h]

theorem run_load_cell {t : TypeId} {b o : Nat} {u : Value} {d : TypeDesc} (hu : P.underlying t = some d) (hd : (match d with | .struct _ | .array _ _ => true | _ => false) = false)
    (hc : w.cell? ⟨b, o, none⟩ = some u) : (Instr.loadAt t (.pointer (some ⟨b, o, none⟩))).run P w = .ok u w := by
  cases d <;> simp at hd <;> simp [Instr.loadAt, Instr.sureAddr, loadVar, isAgg, run_underlying hu, hc]

theorem Reps.sub {X : Nat → Nat → Prop} {vs : List Value} {as : List AV} (h : Reps γ X w vs as) (o k : Nat) : Reps γ X w ((vs.drop o).take k) ((as.drop o).take k) := by
  refine ⟨by simp [h.1], fun i hi hi' => ?_⟩
  simp only [List.getElem_take, List.getElem_drop]
  exact h.2 _ _ _
theorem DReps.sub {X : Nat → Nat → Prop} {vs : List Value} {as : List DV} (h : DReps X w vs as) (o k : Nat) : DReps X w ((vs.drop o).take k) ((as.drop o).take k) := by
  refine ⟨by simp [h.1], fun i hi hi' => ?_⟩
  simp only [List.getElem_take, List.getElem_drop]
  exact h.2 _ _ _

theorem sub_cells {vs : List Value} {b o : Nat} (hc : ∀ j u, vs[j]? = some u → w.cell? ⟨b, o + j, none⟩ = some u) (off k : Nat) : ∀ j u, ((vs.drop off).take k)[j]? = some u → w.cell? ⟨b, o + off + j, none⟩ = some u := by
  intro j u hj
  rw [List.getElem?_take] at hj
  split at hj
  · rw [List.getElem?_drop] at hj
    have := hc _ _ hj
    rwa [← Nat.add_assoc] at this
  · cases hj

theorem box_cells {b : Nat} {arr : Array Value} {t : TypeId} {fr : Nat × Nat} (hh : w.heap[b]? = some (.cells arr t fr)) : ∀ j u, arr.toList[j]? = some u → w.cell? ⟨b, 0 + j, none⟩ = some u := by
  intro j u hj
  simp only [World.cell?, hh, Nat.zero_add]
  simpa using hj

theorem run_ld1 {t : TypeId} {d : TypeDesc} {a : AV} (hu : P.underlying t = some d) (hd : (match d with | .struct _ | .array _ _ => true | _ => false) = false)
    (hS : St X0 W0 γ w H) (hv : Rep γ (XOf X0 γ H) w v a) (hok : ldOk H none a) : ∃ v', (Instr.loadAt t v).run P w = .ok v' w ∧ Rep γ (XOf X0 γ H) w v' (ldV H none a) := by
  cases hv with
  | d _ x h =>
    cases h with
    | cref b base off cs vs hb hX hl hc hr =>
      simp only [ldOk, Option.getD_none] at hok
      have hlt : off < vs.length := by omega
      refine ⟨vs[off], run_load_cell hu hd (hc off _ (List.getElem?_eq_getElem hlt)), ?_⟩
      have := hr off hlt (by omega)
      simp only [ldV, List.getD, List.getElem?_eq_getElem (show off < cs.length by omega), Option.getD_some]
      exact .d _ _ this
    | _ => simp [ldOk] at hok
  | ptr b id off h =>
    simp only [ldOk] at hok
    cases ho : hget H id with
    | none => simp [ho] at hok
    | some o =>
      cases o with
      | row => simp [ho] at hok
      | map => simp [ho] at hok
      | box cs =>
        simp only [ho, Option.getD_none] at hok
        obtain ⟨u, hu', b', arr, t', rfl, hB, hh, hr⟩ := hS.obj id _ ho
        rw [h] at hu'
        injection hu' with hu'
        injection hu' with hu'
        injection hu' with hu'
        injection hu' with hu'
        subst hu'
        have hl := hr.1
        have hlt : off < arr.toList.length := by omega
        refine ⟨arr.toList[off], run_load_cell hu hd (by have := box_cells hh off _ (List.getElem?_eq_getElem hlt); simpa using this), ?_⟩
        have := hr.2 off hlt (by omega)
        simp only [ldV, ho, List.getD, List.getElem?_eq_getElem (show off < cs.length by omega), Option.getD_some]
        exact this
  | _ => simp [ldOk] at hok

theorem run_ldk {t : TypeId} {k : Nat} {d : TypeDesc} {inf : TypeInfo} {a : AV} (hu : P.underlying t = some d) (hd : (∃ fs, d = .struct fs) ∨ (∃ n e, d = .array n e)) (hi : P.info? t = some inf) (hk : inf.size = k)
    (hS : St X0 W0 γ w H) (hv : Rep γ (XOf X0 γ H) w v a) (hok : ldOk H (some k) a) : ∃ v', (Instr.loadAt t v).run P w = .ok v' w ∧ Rep γ (XOf X0 γ H) w v' (ldV H (some k) a) := by
  cases hv with
  | d _ x h =>
    cases h with
    | cref b base off cs vs hb hX hl hc hr =>
      simp only [ldOk, Option.getD_some] at hok
      have hds : DReps (XOf X0 γ H) w vs cs := ⟨hl, hr⟩
      refine ⟨_, run_load_cells hu hd hi (vs := (vs.drop off).take k) (by rw [hk]; simp; omega) (sub_cells hc off k), ?_⟩
      have := hds.sub off k
      exact .d _ _ (.agg _ _ this.1 this.2)
    | _ => simp [ldOk] at hok
  | ptr b id off h =>
    simp only [ldOk] at hok
    cases ho : hget H id with
    | none => simp [ho] at hok
    | some o =>
      cases o with
      | row => simp [ho] at hok
      | map => simp [ho] at hok
      | box cs =>
        simp only [ho, Option.getD_some] at hok
        obtain ⟨u, hu', b', arr, t', rfl, hB, hh, hr⟩ := hS.obj id _ ho
        rw [h] at hu'
        injection hu' with hu'
        injection hu' with hu'
        injection hu' with hu'
        injection hu' with hu'
        subst hu'
        have hl := hr.1
        refine ⟨_, run_load_cells hu hd hi (vs := (arr.toList.drop off).take k) (by rw [hk]; simp at hl ⊢; omega) (by have := sub_cells (box_cells hh) off k; simpa using this), ?_⟩
        simp only [ldV, ho]
        exact Rep.mkAgg (hr.sub off k)
  | _ => simp [ldOk] at hok

end load

section index
variable {P : Program} {γ : Nat → Option Value} {X : Nat → Nat → Prop} {w : World} {v u : Value}

def idxV (a i : AV) : AV :=
  match a, i with
  | .d (.sl _ _ row), .d (.lit (.int _ i)) => .d (.cref (row i.toNat) 0)
  | _, _ => .d .top
def idxOk (n : Nat) (a i : AV) : Prop :=
  match a, i with
  | .d (.sl n' len _), .d (.lit (.int _ i)) => n' = n ∧ 0 ≤ i ∧ i < len
  | _, _ => False

theorem run_index {t e : TypeId} {inf : TypeInfo} {a i : AV} (hu : P.underlying t = some (.slice e)) (hi : P.info? e = some inf)
    (hv : Rep γ X w v a) (hj : Rep γ X w u i) (hok : idxOk inf.size a i) : ∃ v', (Instr.indexAt t v u).run P w = .ok v' w ∧ Rep γ X w v' (idxV a i) := by
  unfold idxOk at hok
  split at hok
  · rename_i n' len row k i
    obtain ⟨rfl, h0, h1⟩ := hok
    obtain rfl := hj.lit
    cases hv with | d _ _ h =>
    cases h with
    | nil n row => exfalso; omega
    | emp a n row => exfalso; omega
    | sl b off cap n _ _ vals hc1 hc2 hb hX hl hc hr =>
      have hlt : i.toNat < len := by omega
      refine ⟨.pointer (some ⟨b, off + i.toNat * inf.size, none⟩), ?_, ?_⟩
      · simp [Instr.indexAt, asIntOf, run_underlying hu, h0, h1, sizeOf, typeInfo, hi, addr_add]
      · have := DRep.cref (X := X) (w := w) b (off + i.toNat * inf.size) 0 (row i.toNat) (vals i.toNat) hb (fun j hj => hX _ hlt j (by have := (hl _ hlt).1; omega)) ((hl _ hlt).2.trans (hl _ hlt).1.symm) (hc _ hlt) (hr _ hlt)
        exact .d _ _ this
  · exact hok.elim

end index

section compute
variable {P : Program} {γ : Nat → Option Value} {X : Nat → Nat → Prop} {w : World} {v u : Value}

def binV (o : BinOp) : Value → Value → Option Value
  | .int k a, .int k' b => if k = k' then (match o with
    | .add => some (.int k (k.wrap (a + b)))
    | .sub => some (.int k (k.wrap (a - b)))
    | .mul => some (.int k (k.wrap (a * b)))
    | .eql => some (.bool (decide (a = b)))
    | .neq => some (.bool (!decide (a = b)))
    | .lss => some (.bool (decide (a < b)))
    | .leq => some (.bool (decide (a ≤ b)))
    | .gtr => some (.bool (decide (b < a)))
    | .geq => some (.bool (decide (b ≤ a)))
    | _ => none) else none
  | .bool a, .bool b => match o with
    | .eql => some (.bool (a == b))
    | .neq => some (.bool (!(a == b)))
    | _ => none
  | .string a, .string b => match o with
    | .eql => some (.bool (decide (a = b)))
    | .neq => some (.bool (!decide (a = b)))
    | _ => none
  | _, _ => none

theorem str_eq (a b : ByteArray) : (a.toList == b.toList) = decide (a = b) := by
  rw [Bool.eq_iff_iff]
  simp only [beq_iff_eq, decide_eq_true_eq]
  constructor
  · intro h
    rw [ByteArray.toList_eq, ByteArray.toList_eq] at h
    exact ByteArray.ext (Array.toList_inj.1 h)
  · rintro rfl; rfl

theorem run_equal_bool {t : TypeId} (ht : P.underlying t = some .bool) (a b : Bool) : (Op.equal t (.bool a) (.bool b)).run P w = .ok (a == b) w := by
  unfold Op.equal
  rw [show Op.maxDepth = (Op.maxDepth - 1) + 1 from rfl]
  generalize Op.maxDepth - 1 = k
  simp only [Op.equalIn, Sem.run_bind, run_underlying ht, Result.andThen_ok, Sem.run_pure]

theorem run_bin {o : BinOp} {t : TypeId} {r : Value} (ho : ∀ a b, binV o (.bool a) (.bool b) ≠ none → P.underlying t = some .bool ∨ (∀ x y, v ≠ .bool x ∨ u ≠ .bool y)) (h : binV o v u = some r) : (binOp o t v u).run P w = .ok r w := by
  unfold binV at h
  split at h
  · rename_i k a k' b
    split at h
    · rename_i hk
      subst hk
      cases o <;> simp at h <;> subst h <;> simp [binOp, Op.intArith, Op.intCmp] <;> (try rfl) <;> (rw [Bool.eq_iff_iff]; simp)
    · simp at h
  · rename_i a b
    have hb : P.underlying t = some .bool := by
      rcases ho a b (by cases o <;> simp [binV] at h ⊢) with h | h
      · exact h
      · rcases h a b with h | h <;> exact absurd rfl h
    cases o <;> simp at h <;> subst h <;> simp only [binOp, Sem.run_bind, run_equal_bool hb, Result.andThen_ok, Sem.run_pure]
  · rename_i a b
    cases o <;> simp at h <;> subst h <;> simp [binOp, Op.stringOp, str_eq]
  · simp at h

end compute

end Go.Proofs.Ytghlfjpmpalpdaa
