/-
  Whatever module and row of numbers there are: the statement PassSmall answers true, and leaves its arguments alone.
  Conditions: none beyond the form's own (each string and slice takes at most 2^47 - 4096 bytes).
-/
import Derived.Test.YtgadlpdbkohlbaaPQG
namespace Go.Proofs.Ytgadlpdbkohlbaa.passSmall
open Go.ChangeShapes Go.WideShapes Go.ChangeAt Go.RowKit

set_option maxRecDepth 100000 in
theorem lifted (os : Os) (started : os.Started) (H : Type) (enc : TypeId × Value → H) :
    ReturnsInHanded {} Try.checked os 3 .any (Rows.passSmallSpec.pre6 enc Try.prog Try.f3 Rows.passSmallRow.domain false) (Rows.passSmallSpec.post enc Try.prog Try.f3 false true false false) := by
  refine returnsInHanded_of_change_sized (C := Try.checked) own started (by kernel_rfl) Try.func3
    (ChangeSpec.witness6 (enc := enc) (C := Try.checked) false ⟨#[], #[.agg #[.slice none 0 0, .slice none 0 0], .slice none 0 0], []⟩ 8 (by kernel_rfl) (by kernel_rfl) (by kernel_rfl) (by kernel_rfl)) ?_
  intro W base args ds gs before hval0 hW hcnd hsz0 _
  have hval : ∀ (j : Nat) t v, Try.f3.params[j]? = some t → args[j]? = some v → Value.okWide Try.prog W .any base t v := hval0
  have hsz : (DataW.weightsEach Try.prog (Try.f3.params.toList ++ Rows.passSmallSpec.plain.varTypes Try.prog) (ds ++ gs)).all (· ≤ reachBytes) = true := hsz0
  have hW' := hW
  obtain ⟨p, q, hA0, hV, rfl, hfz, hnd⟩ := hW
  have hA : DataW.TrodAll enc Try.prog W 0 (fun _ => true) true Try.f3.params.toList args.toList ds p := hA0
  rw [Try.params3] at hA hval hsz
  obtain ⟨v0, vs0, d0, ds0, p0, q0, hargs, rfl, rfl, h0, r0⟩ := trodAll_cons hA
  obtain ⟨v1, vs1, d1, ds1, p1, q1, rfl, rfl, rfl, h1, r1⟩ := trodAll_cons r0
  obtain ⟨rfl, rfl, rfl⟩ := trodAll_nil r1
  obtain rfl : args = #[v0, v1] := by cases args; simp_all
  obtain ⟨rfl, rfl⟩ := trodVars_none hV
  have hlt : ∀ x ∈ p0 ++ p1, x.block < W.heap.size := fun x hx => by simpa using hW'.lt x (by simpa using hx)
  obtain ⟨a0, hr0, hb0⟩ := open_agg rdModule Try.underlying25 (hval 0 25 v0 rfl rfl) h0 (light_of hsz (j := 0) rfl rfl)
  obtain ⟨a1, hr1, hb1⟩ := open_cell (c := fun xs : List Int => intsD xs) rdInts (by rw [Try.underlying26]; trivial) (hval 1 26 v1 rfl rfl) h1 (light_of hsz (j := 1) rfl rfl)
  clear hA0 hval0
  simp only [List.append_nil] at hW'
  refine ((passSmall_pure a0 (fun f hf b hb i hi => (((hb0.1 f hf).1 b hb).1 i hi).1) (fun f hf b hb i hi => (((hb0.1 f hf).1 b hb).1 i hi).2) a1).yes (W := W) (args := #[v0, v1]) (DReps.cons hr0 (DReps.cons hr1 (DReps.nil _ _)))).mono fun e W' ⟨he, hg⟩ => ?_
  subst he
  exact ⟨_, rfl, _, _, _, [], _, [], hW', trodAll_mk1 (shut_bool Try.underlying4 _), trodAll_mk2 (Below.trod laid (by kernel_rfl) (of_decide_eq_true (by kernel_rfl)) h0 hg.below (fun x hx => hlt x (by simp [hx]))) (Below.trod laid (by kernel_rfl) (of_decide_eq_true (by kernel_rfl)) h1 hg.below (fun x hx => hlt x (by simp [hx]))), rfl, hg.below.frame _, fun h => by cases h⟩

theorem over : Rows.passSmallRow.holds Try.pinned (OpenSpec.ofChange Rows.passSmallSpec) :=
  OpenClaim.holds_of_wide 3 Try.f3 rfl rfl rfl rfl rfl rfl rfl ⟨rfl, rfl, rfl, rfl, rfl⟩ rfl rfl rfl rfl rfl (by kernel_rfl) Try.func3 (by kernel_rfl)
    (of_decide_eq_true (by kernel_rfl)) (by unfold Func.isWrapper; first | (rw [if_pos (by decide +kernel)]; kernel_rfl) | (rw [if_neg (by decide +kernel)]; exact ⟨rfl, rfl⟩))
    (fun os started H enc _ => lifted os started H enc)

theorem proved : Rows.PassSmallSaid := over

end Go.Proofs.Ytgadlpdbkohlbaa.passSmall
