/- From a contract of the evaluator to a claim's own form: what an argument reads as; the call. -/
import Derived.Test.YtghlfjpmpalpdaaOpenD
import Derived.ProofKit
import Derived.Carry
namespace Go.Proofs.Ytghlfjpmpalpdaa
open Go.RowKit

theorem own : ownKnob Try.prog.godebug = none := by kernel_rfl
theorem laid : laidOutB Try.prog = true := by kernel_rfl

theorem APure.yes {P : Program} {F : FuncId} {ds : List DV} (h : APure P F ds (.bool true)) {W : World} {args : Array Value} (hv : DReps xNone W args.toList ds) : Calls P F args W fun e w' => e = .returned (.bool true) ∧ Ext W w' := by
  refine (h.2 xNone W args (fun _ _ h => h.elim) hv).mono ?_
  rintro e w' ⟨hx, v, rfl, hv⟩
  cases hv
  exact ⟨rfl, hx⟩

section
variable {P : Program} {H : Type} {enc : TypeId × Value → H} {W : World} {α : Type} {t : TypeId} {n : Nat} {C : α → List DV} {B : α → Prop} {S : α → Nat} {v : Value} {d : DataW H} {ps : List MemPlace}

/-- A struct handed as an argument. -/
theorem open_aggS {fs : Array Field} (h : RdT enc P W t n C B S) (ht : P.underlying t = some (.struct fs)) (hval : Value.okWide P W .any 0 t v) (hd : DataW.Trod enc P W 0 (fun _ => true) true t v d ps) (hl : Light P d t) :
    ∃ a, DRep xNone W v (.agg (C a)) ∧ B a ∧ S a ≤ Rows.uptoBulk d := by
  obtain ⟨fuel, hd⟩ := hd
  obtain ⟨a, h1, h2⟩ := h.2 fuel _ _ hd hl
  unfold Value.okWide at hval
  rw [ht] at hval
  obtain ⟨cs, rfl, _⟩ := hval
  exact ⟨a, .agg cs.toList (C a) h1.1 h1.2, h2⟩

/-- A struct handed as an argument, its weight left out. -/
theorem open_agg {fs : Array Field} (h : RdT enc P W t n C B S) (ht : P.underlying t = some (.struct fs)) (hval : Value.okWide P W .any 0 t v) (hd : DataW.Trod enc P W 0 (fun _ => true) true t v d ps) (hl : Light P d t) :
    ∃ a, DRep xNone W v (.agg (C a)) ∧ B a := by
  obtain ⟨a, h1, h2, _⟩ := open_aggS h ht hval hd hl
  exact ⟨a, h1, h2⟩

/-- One cell handed as an argument. -/
theorem open_cellS {c : α → DV} (h : RdT enc P W t 1 (fun a => [c a]) B S) (ht : match P.underlying t with | some (.struct _) | some (.array _ _) => False | _ => True) (hval : Value.okWide P W .any 0 t v) (hd : DataW.Trod enc P W 0 (fun _ => true) true t v d ps) (hl : Light P d t) :
    ∃ a, DRep xNone W v (c a) ∧ B a ∧ S a ≤ Rows.uptoBulk d := by
  obtain ⟨fuel, hd⟩ := hd
  obtain ⟨a, h1, h2⟩ := h.2 fuel _ _ hd hl
  refine ⟨a, ?_, h2⟩
  have hc : v.cells = #[v] := by
    cases v with
    | agg cs =>
      unfold Value.okWide at hval
      split at hval
      · rename_i e; rw [e] at ht; exact ht.elim
      · rename_i e; rw [e] at ht; exact ht.elim
      · unfold Cell.okWide Cell.ok at hval
        generalize P.underlying t = u at hval
        cases u with
        | none => exact hval.elim
        | some u => cases u <;> exact hval.elim
    | _ => rfl
  rw [hc] at h1
  exact h1.2 0 (by simp) (by simp)

/-- One cell handed as an argument, its weight left out. -/
theorem open_cell {c : α → DV} (h : RdT enc P W t 1 (fun a => [c a]) B S) (ht : match P.underlying t with | some (.struct _) | some (.array _ _) => False | _ => True) (hval : Value.okWide P W .any 0 t v) (hd : DataW.Trod enc P W 0 (fun _ => true) true t v d ps) (hl : Light P d t) :
    ∃ a, DRep xNone W v (c a) ∧ B a := by
  obtain ⟨a, h1, h2, _⟩ := open_cellS h ht hval hd hl
  exact ⟨a, h1, h2⟩

theorem light_of {ts : List TypeId} {ds : List (DataW H)} (h : (DataW.weightsEach P ts ds).all (· ≤ reachBytes) = true) {j : Nat} (h1 : ts[j]? = some t) (h2 : ds[j]? = some d) : Light P d t := by
  intro n hn
  have := List.all_eq_true.1 h n (DataW.weights_mem_each h1 h2 n hn)
  simpa using this

end

end Go.Proofs.Ytghlfjpmpalpdaa
