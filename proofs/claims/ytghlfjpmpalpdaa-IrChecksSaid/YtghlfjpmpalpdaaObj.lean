/- Objects of the call's own: made, stored into, appended to; slices made by a literal. -/
import Derived.Test.YtghlfjpmpalpdaaOps2
namespace Go.Proofs.Ytghlfjpmpalpdaa
open Go.RowKit

def upd (γ : Nat → Option Value) (id : Nat) (v : Value) : Nat → Option Value := fun k => if k = id then some v else γ k
theorem upd_knows {γ : Nat → Option Value} {id : Nat} (v : Value) (h : γ id = none) : Knows γ (upd γ id v) := by
  intro k u hk
  unfold upd
  split
  · rename_i e; subst e; rw [h] at hk; cases hk
  · exact hk

section
variable {P : Program} {X0 : Nat → Nat → Prop} {W0 : World} {γ : Nat → Option Value} {w : World} {H : Heap}

/-- The blocks of the call's own objects are there, from W0's end on. -/
theorem St.blk_lt (hS : St X0 W0 γ w H) {id : Nat} {o : AObj} {v : Value} {b : Nat} (ho : hget H id = some o) (hv : γ id = some v) (hb : blk v = some b) : W0.heap.size ≤ b ∧ b < w.heap.size := by
  obtain ⟨u, hu, hr⟩ := hS.obj id o ho
  rw [hv] at hu
  injection hu with hu
  subst hu
  cases o with
  | box cs =>
    obtain ⟨b', arr, t, rfl, h1, h2, _⟩ := hr
    simp [blk] at hb
    subst hb
    exact ⟨h1, (Array.getElem?_eq_some_iff.1 h2).1⟩
  | row e n len row =>
    obtain ⟨xs, hown, _⟩ := hr
    refine hown.lt b ?_
    rcases hown.2 with ⟨rfl, _⟩ | ⟨g, cap, cur, rfl, _⟩
    · simp [blk] at hb
    · simpa [blk, Value.ownBlock] using hb
  | map kd n f =>
    obtain ⟨b', ent, clock, rfl, h1, h2, _⟩ := hr
    simp [blk] at hb
    subst hb
    exact ⟨h1, (Array.getElem?_eq_some_iff.1 h2).1⟩

theorem XOf.lt (hS : St X0 W0 γ w H) {b q : Nat} (h : XOf X0 γ H b q) : b < w.heap.size := by
  rcases h with h | ⟨id, o, v, ho, hv, hb, _⟩
  · exact Nat.lt_of_lt_of_le (hS.hx b q h) hS.ext.size
  · exact (hS.blk_lt ho hv hb).2

/-- Objects are as they were where memory stays. -/
theorem ORep.mono {γ' : Nat → Option Value} {X X' : Nat → Nat → Prop} {w' : World} {B : Nat} (hγ : Knows γ γ') (k : Keeps X X' w w') {v : Value} {o : AObj} (h : ORep γ X B w v o) (hb : ∀ b, blk v = some b → b < w.heap.size → w'.heap[b]? = w.heap[b]?) : ORep γ' X' B w' v o := by
  cases o with
  | box cs =>
    obtain ⟨b, arr, t, rfl, h1, h2, h3⟩ := h
    exact ⟨b, arr, t, rfl, h1, (hb b rfl (Array.getElem?_eq_some_iff.1 h2).1).trans h2, h3.mono hγ k⟩
  | row e n len row =>
    obtain ⟨xs, hown, hr⟩ := h
    refine ⟨xs, ⟨hown.1, ?_⟩, fun i hi => ⟨(hr i hi).1, (hr i hi).2.mono k⟩⟩
    rcases hown.2 with hn | ⟨g, cap, cur, rfl, hg, hh, rest⟩
    · exact .inl hn
    · exact .inr ⟨g, cap, cur, rfl, hg, (hb g rfl (Array.getElem?_eq_some_iff.1 hh).1).trans hh, rest⟩
  | map kd n f =>
    obtain ⟨b, ent, clock, rfl, h1, h2, h3⟩ := h
    exact ⟨b, ent, clock, rfl, h1, (hb b rfl (Array.getElem?_eq_some_iff.1 h2).1).trans h2, h3⟩

/-- Nothing of the call's own is touched. -/
theorem St.stay {w' : World} (hS : St X0 W0 γ w H) (he : Ext w w') : St X0 W0 γ w' H :=
  ⟨hS.hx, hS.ext.trans he, fun id o ho => by
    obtain ⟨v, hv, hr⟩ := hS.obj id o ho
    exact ⟨v, hv, hr.mono (Knows.refl γ) (.of_ext he) (fun b _ hb => he.block b hb)⟩, hS.dis⟩

/-- One new object, held by a block that is new. -/
theorem St.new {γ' : Nat → Option Value} {w' : World} (hS : St X0 W0 γ w H) (he : Ext w w') (id : Nat) (hid : γ id = none) (v : Value) (hγ : γ' = upd γ id v) (o : AObj) (hb : ∀ b, blk v = some b → w.heap.size ≤ b)
    (ho : ORep γ' (XOf X0 γ' (hadd id o H)) W0.heap.size w' v o) :
    St X0 W0 γ' w' (hadd id o H) ∧ Knows γ γ' ∧ Keeps (XOf X0 γ H) (XOf X0 γ' (hadd id o H)) w w' := by
  subst hγ
  have hk := upd_knows v hid
  have hne : ∀ k o, hget H k = some o → k ≠ id := fun k o' hk' e => by
    obtain ⟨u, hu, _⟩ := hS.obj k o' hk'
    rw [e, hid] at hu; cases hu
  have hK : Keeps (XOf X0 γ H) (XOf X0 (upd γ id v) (hadd id o H)) w w' := by
    refine .of_blocks he.size (fun b hb' => .inr (he.block b hb')) (fun b q hb' h => ?_)
    rcases h with h | ⟨k, o', u, h1, h2, h3, h4⟩
    · exact .inl h
    · by_cases e : id = k
      · subst e
        simp [upd] at h2
        subst h2
        have := hb _ h3
        omega
      · simp only [hget_add, if_neg e] at h1
        refine .inr ⟨k, o', u, h1, ?_, h3, h4⟩
        simpa [upd, Ne.symm e] using h2
  refine ⟨⟨hS.hx, hS.ext.trans he, fun k o' hk' => ?_, fun k k' o1 o2 v1 v2 b h1 h2 g1 g2 b1 b2 => ?_⟩, hk, hK⟩
  · by_cases e : id = k
    · subst e
      simp only [hget_add, if_true] at hk'
      injection hk' with hk'
      subst hk'
      exact ⟨v, by simp [upd], ho⟩
    · simp only [hget_add, if_neg e] at hk'
      obtain ⟨u, hu, hr⟩ := hS.obj k o' hk'
      exact ⟨u, hk _ _ hu, hr.mono hk hK (fun b _ hb => he.block b hb)⟩
  · have old : ∀ k o1 u, id ≠ k → hget (hadd id o H) k = some o1 → upd γ id v k = some u → ∀ b, blk u = some b → b < w.heap.size := by
      intro k o1 u e h1 h2 b hb'
      simp only [hget_add, if_neg e] at h1
      simp only [upd, if_neg (Ne.symm e)] at h2
      exact (hS.blk_lt h1 h2 hb').2
    by_cases e1 : id = k <;> by_cases e2 : id = k'
    · exact e1.symm.trans e2
    · subst e1
      simp [upd] at g1
      subst g1
      have a1 := hb _ b1
      have a2 := old k' o2 v2 e2 h2 g2 b b2
      omega
    · subst e2
      simp [upd] at g2
      subst g2
      have a1 := hb _ b2
      have a2 := old k o1 v1 e1 h1 g1 b b1
      omega
    · simp only [hget_add, if_neg e1] at h1
      simp only [hget_add, if_neg e2] at h2
      simp only [upd, if_neg (Ne.symm e1)] at g1
      simp only [upd, if_neg (Ne.symm e2)] at g2
      exact hS.dis k k' o1 o2 v1 v2 b h1 h2 g1 g2 b1 b2

theorem St.alloc (hS : St X0 W0 γ w H) (id : Nat) (hid : γ id = none) (arr : Array Value) (t : TypeId) (cs : List AV) (hr : Reps γ (XOf X0 γ H) w arr.toList cs) :
    ∃ γ', γ' = upd γ id (.pointer (some ⟨w.heap.size, 0, none⟩)) ∧ St X0 W0 γ' (w.alloc (.cells arr t)) (hadd id (.box cs) H) ∧ Knows γ γ' ∧ Keeps (XOf X0 γ H) (XOf X0 γ' (hadd id (.box cs) H)) w (w.alloc (.cells arr t)) := by
  refine ⟨_, rfl, ?_⟩
  have hK : Keeps (XOf X0 γ H) (XOf X0 (upd γ id (.pointer (some ⟨w.heap.size, 0, none⟩))) (hadd id (.box cs) H)) w (w.alloc (.cells arr t)) := by
    refine .of_blocks (Ext.alloc w _).size (fun b hb => .inr ((Ext.alloc w _).block b hb)) (fun b q hb h => ?_)
    rcases h with h | ⟨k, o', u, h1, h2, h3, h4⟩
    · exact .inl h
    · by_cases e : id = k
      · subst e
        simp [upd] at h2
        subst h2
        simp [blk] at h3
        omega
      · simp only [hget_add, if_neg e] at h1
        refine .inr ⟨k, o', u, h1, ?_, h3, h4⟩
        simpa [upd, Ne.symm e] using h2
  refine hS.new (Ext.alloc w _) id hid _ rfl _ (fun b hb => by simp [blk] at hb; omega) ?_
  exact ⟨w.heap.size, arr, t, rfl, hS.ext.size, heap_alloc_new w _, hr.mono (upd_knows _ hid) hK⟩

theorem St.newRow {γ' : Nat → Option Value} {w' : World} (hS : St X0 W0 γ w H) (he : Ext w w') (id : Nat) (hid : γ id = none) (v : Value) (hγ : γ' = upd γ id v) (te : TypeId) (n len : Nat) (row : Nat → List DV) (hb : ∀ b, blk v = some b → w.heap.size ≤ b)
    (xs : Nat → List Value) (hown : w'.ownsRow W0.heap.size te n v len ((List.range len).flatMap xs)) (hxs : ∀ i, i < len → (xs i).length = n ∧ DReps (XOf X0 γ' (hadd id (.row te n len row) H)) w' (xs i) (row i)) :
    St X0 W0 γ' w' (hadd id (.row te n len row) H) ∧ Knows γ γ' ∧ Keeps (XOf X0 γ H) (XOf X0 γ' (hadd id (.row te n len row) H)) w w' :=
  hS.new he id hid v hγ _ hb ⟨xs, hown, hxs⟩

theorem setRow_ext {W : World} {b : Nat} (cs : Array Value) (h : Ext W w) (hb : W.heap.size ≤ b) : Ext W (w.setRow b cs) :=
  ⟨h.os, h.tape, h.output, by rw [setRow_size]; exact h.size, fun k hk => (setRow_other w b k cs (by omega)).trans (h.block k hk)⟩

/-- A store of some cells into an object. -/
theorem St.store (hS : St X0 W0 γ w H) {id : Nat} {cs : List AV} {b : Nat} {arr : Array Value} {t : TypeId} (ho : hget H id = some (.box cs)) (hv : γ id = some (.pointer (some ⟨b, 0, none⟩))) (hh : w.heap[b]? = some (.cells arr t (0, 0)))
    (hr : Reps γ (XOf X0 γ H) w arr.toList cs) (off : Nat) (us : List Value) (as : List AV) (hu : Reps γ (XOf X0 γ H) w us as) :
    St X0 W0 γ (w.setRow b (spl arr.toList off us).toArray) (hset H id (.box (spl cs off as))) ∧ Keeps (XOf X0 γ H) (XOf X0 γ (hset H id (.box (spl cs off as)))) w (w.setRow b (spl arr.toList off us).toArray) := by
  have hbX : ∀ q, XOf X0 γ H b q := fun q => .inr ⟨id, _, _, ho, hv, rfl, trivial⟩
  have hlt := (hS.blk_lt ho hv (b := b) rfl)
  have hgs : ∀ k o, hget (hset H id (.box (spl cs off as))) k = some o → (k = id ∧ o = .box (spl cs off as)) ∨ (k ≠ id ∧ hget H k = some o) := by
    intro k o hk
    rw [hget_set] at hk
    by_cases e : id = k
    · subst e
      rw [if_pos rfl, ho] at hk
      simp at hk
      exact .inl ⟨rfl, hk.symm⟩
    · rw [if_neg e] at hk
      exact .inr ⟨Ne.symm e, hk⟩
  have hK : Keeps (XOf X0 γ H) (XOf X0 γ (hset H id (.box (spl cs off as)))) w (w.setRow b (spl arr.toList off us).toArray) := by
    refine .of_blocks (by rw [setRow_size]; exact Nat.le_refl _) (fun k hk => ?_) (fun k q hk h => ?_)
    · by_cases e : k = b
      · exact .inl fun q => e ▸ hbX q
      · exact .inr (setRow_other w b k _ e)
    rcases h with h | ⟨j, o, v, h1, h2, h3, h4⟩
    · exact .inl h
    · rcases hgs j o h1 with ⟨rfl, _⟩ | ⟨_, h1'⟩
      · exact .inr ⟨j, _, v, ho, h2, h3, trivial⟩
      · exact .inr ⟨j, o, v, h1', h2, h3, h4⟩
  refine ⟨⟨hS.hx, setRow_ext _ hS.ext hlt.1, fun k o hk => ?_, fun k k' o o' v v' c h1 h2 g1 g2 b1 b2 => ?_⟩, hK⟩
  · rcases hgs k o hk with ⟨rfl, rfl⟩ | ⟨hne, hk'⟩
    · refine ⟨_, hv, b, _, t, rfl, hlt.1, setRow_heap w b arr _ t (0, 0) hh, ?_⟩
      have := (hr.spl hu off).mono (Knows.refl γ) hK
      simpa using this
    · obtain ⟨u, hu', hr'⟩ := hS.obj k o hk'
      refine ⟨u, hu', hr'.mono (Knows.refl γ) hK (fun c hc _ => setRow_other w b c _ (fun e => hne ?_))⟩
      exact hS.dis k id o _ u _ b hk' ho hu' hv (e ▸ hc) rfl
  · rcases hgs k o h1 with ⟨rfl, _⟩ | ⟨_, h1'⟩ <;> rcases hgs k' o' h2 with ⟨rfl, _⟩ | ⟨_, h2'⟩
    · rfl
    · exact hS.dis _ _ _ _ _ _ c ho h2' g1 g2 b1 b2
    · exact hS.dis _ _ _ _ _ _ c h1' ho g1 g2 b1 b2
    · exact hS.dis _ _ _ _ _ _ c h1' h2' g1 g2 b1 b2

def stH (H : Heap) (a x : AV) : Heap :=
  match a with
  | .ptr id off => match hget H id with
    | some (.box cs) => hset H id (.box (spl cs off x.cells))
    | _ => H
  | _ => H
def stOk (H : Heap) (k : Nat) (a x : AV) : Prop :=
  x.cellOk k = true ∧ x.cells.all (·.there H) = true ∧ match a with
  | .ptr id off => match hget H id with
    | some (.box cs) => off + k ≤ cs.length
    | _ => False
  | _ => False

theorem run_st {t : TypeId} {k : Nat} {inf : TypeInfo} {v u : Value} {a x : AV} (hi : P.info? t = some inf) (hk : inf.size = k) (hS : St X0 W0 γ w H) (hv : Rep γ (XOf X0 γ H) w v a) (hu : Rep γ (XOf X0 γ H) w u x) (hok : stOk H k a x) :
    ∃ w', (Instr.storeAt t v u).run P w = .ok () w' ∧ St X0 W0 γ w' (stH H a x) ∧ Keeps (XOf X0 γ H) (XOf X0 γ (stH H a x)) w w' := by
  obtain ⟨h1, ht, h2⟩ := hok
  obtain ⟨k1, k2, k3⟩ := hu.cells hS k h1 ht
  cases hv with
  | ptr b id off h =>
    simp only at h2
    cases ho : hget H id with
    | none => simp [ho] at h2
    | some o =>
      cases o with
      | row => simp [ho] at h2
      | map => simp [ho] at h2
      | box cs =>
        simp only [ho] at h2
        obtain ⟨u', hu', b', arr, t', rfl, hB, hh, hr⟩ := hS.obj id _ ho
        rw [h] at hu'
        injection hu' with hu'
        injection hu' with hu'
        injection hu' with hu'
        injection hu' with hu'
        subst hu'
        have hl := hr.1
        have hs := run_storeCells_at P b off t' u.cells.toList 0 arr w hh (by simp at hl ⊢; omega) k3
        obtain ⟨g1, g2⟩ := hS.store ho h hh hr off u.cells.toList x.cells k2
        refine ⟨w.setRow b (spl arr.toList off u.cells.toList).toArray, ?_, ?_, ?_⟩
        · simp only [Nat.add_zero] at hs
          simp only [Instr.storeAt, Instr.sureAddr, Sem.run_bind, Sem.run_pure, Result.andThen_ok, storeVar, sizeOf, typeInfo, run_program, hi]
          simp [k1, hk, hs, spl]
        · simp only [stH, ho]; exact g1
        · simp only [stH, ho]; exact g2
  | _ => exact h2.elim

end

end Go.Proofs.Ytghlfjpmpalpdaa
