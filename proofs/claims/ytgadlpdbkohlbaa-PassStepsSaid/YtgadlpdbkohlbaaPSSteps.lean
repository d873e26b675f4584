/-
  Whatever input there is: the statement PassSteps answers true, and leaves its argument alone.
  Conditions: none beyond the form's own (each string and slice takes at most 2^47 - 4096 bytes).
-/
import Derived.Test.YtgadlpdbkohlbaaPSG
namespace Go.Proofs.Ytgadlpdbkohlbaa.passSteps
open Go.ChangeShapes Go.WideShapes Go.ChangeAt Go.RowKit

set_option maxRecDepth 100000 in
theorem rdIn {H : Type} {enc : TypeId × Value → H} {W : World} : RdT enc Try.prog W 34 5 (fun p : Module × (List Int) × (List Int) × Int => moduleC p.1 ++ [intsD p.2.1] ++ [intsD p.2.2.1] ++ [.int p.2.2.2]) (fun p => bModule p.1 ∧ p.2.1.length ≤ 17592186044416 ∧ p.2.2.1.length ≤ 17592186044416 ∧ (-9223372036854775808 ≤ p.2.2.2 ∧ p.2.2.2 ≤ 9223372036854775807)) (fun p => szModule p.1 + p.2.1.length + 1 + p.2.2.1.length + 1 + 1) := by
  have h := rd_struct (enc := enc) (W := W) (n := 5) Try.underlying34 rfl (by kernel_rfl) (rd_cons (n := 2) (m := 3) rfl rdModule (rd_cons (n := 1) (m := 2) rfl rdInts (rd_cons (n := 1) (m := 1) rfl rdInts (rd_cons (n := 1) (m := 0) rfl rdInt (rd_nil 5)))))
  exact h.map (fun p => (p.1, p.2.1, p.2.2.1, p.2.2.2.1)) (fun p => by simp) (fun p h => ⟨h.1, h.2.1, h.2.2.1, h.2.2.2.1⟩) (fun p => by simp only []; omega)

set_option maxRecDepth 100000 in
theorem lifted (os : Os) (started : os.Started) (H : Type) (enc : TypeId × Value → H) :
    ReturnsInHanded {} Try.checked os 4 .any (Rows.passStepsSpec.pre6 enc Try.prog Try.f4 Rows.passStepsRow.domain false) (Rows.passStepsSpec.post enc Try.prog Try.f4 false true false false) := by
  refine returnsInHanded_of_change_sized (C := Try.checked) own started (by kernel_rfl) Try.func4
    (ChangeSpec.witness6 (enc := enc) (C := Try.checked) false ⟨#[], #[.agg #[.slice none 0 0, .slice none 0 0, .slice none 0 0, .slice none 0 0, .int .i64 0]], []⟩ 8 (by kernel_rfl) (by kernel_rfl) (by kernel_rfl) (by kernel_rfl)) ?_
  intro W base args ds gs before hval0 hW hcnd hsz0 _
  have hval : ∀ (j : Nat) t v, Try.f4.params[j]? = some t → args[j]? = some v → Value.okWide Try.prog W .any base t v := hval0
  have hsz : (DataW.weightsEach Try.prog (Try.f4.params.toList ++ Rows.passStepsSpec.plain.varTypes Try.prog) (ds ++ gs)).all (· ≤ reachBytes) = true := hsz0
  have hW' := hW
  obtain ⟨p, q, hA0, hV, rfl, hfz, hnd⟩ := hW
  have hA : DataW.TrodAll enc Try.prog W 0 (fun _ => true) true Try.f4.params.toList args.toList ds p := hA0
  rw [Try.params4] at hA hval hsz
  obtain ⟨v0, vs0, d0, ds0, p0, q0, hargs, rfl, rfl, h0, r0⟩ := trodAll_cons hA
  obtain ⟨rfl, rfl, rfl⟩ := trodAll_nil r0
  obtain rfl : args = #[v0] := by cases args; simp_all
  obtain ⟨rfl, rfl⟩ := trodVars_none hV
  have hlt : ∀ x ∈ p0, x.block < W.heap.size := fun x hx => by simpa using hW'.lt x (by simpa using hx)
  obtain ⟨a0, hr0, hb0⟩ := open_agg rdIn Try.underlying34 (hval 0 34 v0 rfl rfl) h0 (light_of hsz (j := 0) rfl rfl)
  clear hA0 hval0
  simp only [List.append_nil] at hW'
  refine ((passSteps_pure a0.1 (fun f hf b hb i hi => (((hb0.1.1 f hf).1 b hb).1 i hi).1) (fun f hf b hb i hi => (((hb0.1.1 f hf).1 b hb).1 i hi).2) a0.2.1 a0.2.2.1 hb0.2.1 hb0.2.2.1 a0.2.2.2).yes (W := W) (args := #[v0]) (DReps.cons hr0 (DReps.nil _ _))).mono fun e W' ⟨he, hg⟩ => ?_
  subst he
  exact ⟨_, rfl, _, _, _, [], _, [], hW', trodAll_mk1 (shut_bool Try.underlying4 _), trodAll_mk1 (Below.trod laid (by kernel_rfl) (of_decide_eq_true (by kernel_rfl)) h0 hg.below (fun x hx => hlt x (by simp [hx]))), rfl, hg.below.frame _, fun h => by cases h⟩

theorem over : Rows.passStepsRow.holds Try.pinned (OpenSpec.ofChange Rows.passStepsSpec) :=
  OpenClaim.holds_of_wide 4 Try.f4 rfl rfl rfl rfl rfl rfl rfl ⟨rfl, rfl, rfl, rfl, rfl⟩ rfl rfl rfl rfl rfl (by kernel_rfl) Try.func4 (by kernel_rfl)
    (of_decide_eq_true (by kernel_rfl)) (by unfold Func.isWrapper; first | (rw [if_pos (by decide +kernel)]; kernel_rfl) | (rw [if_neg (by decide +kernel)]; exact ⟨rfl, rfl⟩))
    (fun os started H enc _ => lifted os started H enc)

theorem proved : Rows.PassStepsSaid := over

end Go.Proofs.Ytgadlpdbkohlbaa.passSteps
