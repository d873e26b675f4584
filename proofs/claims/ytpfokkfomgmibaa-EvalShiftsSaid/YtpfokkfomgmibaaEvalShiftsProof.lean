/-
  Whatever number and number and number there are: the statement EvalShifts answers true, and leaves its arguments alone.
  Conditions: none beyond the form's own (each string and slice takes at most 2^47 - 4096 bytes).
-/
import Derived.Test.YtpfokkfomgmibaaSI
import Derived.Test.YtpfokkfomgmibaaOP
namespace Go.Proofs.Ytpfokkfomgmibaa.evalShifts
open Go.ChangeShapes Go.WideShapes Go.ChangeAt Go.RowKit

set_option maxRecDepth 100000 in
theorem lifted (os : Os) (started : os.Started) (H : Type) (enc : TypeId × Value → H) :
    ReturnsInHanded {} Try.checked os 10 .any (Rows.evalShiftsSpec.pre6 enc Try.prog Try.f10 Rows.evalShiftsRow.domain false) (Rows.evalShiftsSpec.post enc Try.prog Try.f10 false true false false) := by
  refine returnsInHanded_of_change_sized (C := Try.checked) own started (by kernel_rfl) Try.func10
    (ChangeSpec.witness6 (enc := enc) (C := Try.checked) false ⟨#[], #[.int .u64 0, .int .u64 0, .int .u64 0], []⟩ 8 (by kernel_rfl) (by kernel_rfl) (by kernel_rfl) (by kernel_rfl)) ?_
  intro W base args ds gs before hval0 hW hcnd hsz0 _
  have hval : ∀ (j : Nat) t v, Try.f10.params[j]? = some t → args[j]? = some v → Value.okWide Try.prog W .any base t v := hval0
  have hsz : (DataW.weightsEach Try.prog (Try.f10.params.toList ++ Rows.evalShiftsSpec.plain.varTypes Try.prog) (ds ++ gs)).all (· ≤ reachBytes) = true := hsz0
  have hW' := hW
  obtain ⟨p, q, hA0, hV, rfl, hfz, hnd⟩ := hW
  have hA : DataW.TrodAll enc Try.prog W 0 (fun _ => true) true Try.f10.params.toList args.toList ds p := hA0
  rw [Try.params10] at hA hval hsz
  obtain ⟨v0, vs0, d0, ds0, p0, q0, hargs, rfl, rfl, h0, r0⟩ := trodAll_cons hA
  obtain ⟨v1, vs1, d1, ds1, p1, q1, rfl, rfl, rfl, h1, r1⟩ := trodAll_cons r0
  obtain ⟨v2, vs2, d2, ds2, p2, q2, rfl, rfl, rfl, h2, r2⟩ := trodAll_cons r1
  obtain ⟨rfl, rfl, rfl⟩ := trodAll_nil r2
  obtain rfl : args = #[v0, v1, v2] := by cases args; simp_all
  obtain ⟨rfl, rfl⟩ := trodVars_none hV
  have hlt : ∀ x ∈ p0 ++ (p1 ++ p2), x.block < W.heap.size := fun x hx => by simpa using hW'.lt x (by simpa using hx)
  obtain ⟨a0, hr0, hb0⟩ := open_cell (c := fun n : Nat => DV.lit (.int .u64 n)) rdU64 (by rw [Try.underlying29]; trivial) (hval 0 29 v0 rfl rfl) h0 (light_of hsz (j := 0) rfl rfl)
  obtain ⟨a1, hr1, hb1⟩ := open_cell (c := fun n : Nat => DV.lit (.int .u64 n)) rdU64 (by rw [Try.underlying29]; trivial) (hval 1 29 v1 rfl rfl) h1 (light_of hsz (j := 1) rfl rfl)
  obtain ⟨a2, hr2, hb2⟩ := open_cell (c := fun n : Nat => DV.lit (.int .u64 n)) rdU64 (by rw [Try.underlying29]; trivial) (hval 2 29 v2 rfl rfl) h2 (light_of hsz (j := 2) rfl rfl)
  clear hA0 hval0
  simp only [List.append_nil] at hW'
  refine ((evalShifts_pure a0 a1 a2 (by omega) (by omega) (by omega)).yes (W := W) (args := #[v0, v1, v2]) (DReps.cons hr0 (DReps.cons hr1 (DReps.cons hr2 (DReps.nil _ _))))).mono fun e W' ⟨he, hg⟩ => ?_
  subst he
  exact ⟨_, rfl, _, _, _, [], _, [], hW', trodAll_mk1 (shut_bool Try.underlying4 _), trodAll_mk3 (Below.trod laid (by kernel_rfl) (of_decide_eq_true (by kernel_rfl)) h0 hg.below (fun x hx => hlt x (by simp [hx]))) (Below.trod laid (by kernel_rfl) (of_decide_eq_true (by kernel_rfl)) h1 hg.below (fun x hx => hlt x (by simp [hx]))) (Below.trod laid (by kernel_rfl) (of_decide_eq_true (by kernel_rfl)) h2 hg.below (fun x hx => hlt x (by simp [hx]))), rfl, hg.below.frame _, fun h => by cases h⟩

theorem over : Rows.evalShiftsRow.holds Try.pinned (OpenSpec.ofChange Rows.evalShiftsSpec) :=
  OpenClaim.holds_of_wide 10 Try.f10 rfl rfl rfl rfl rfl rfl rfl ⟨rfl, rfl, rfl, rfl, rfl⟩ rfl rfl rfl rfl rfl (by kernel_rfl) Try.func10 (by kernel_rfl)
    (of_decide_eq_true (by kernel_rfl)) (by unfold Func.isWrapper; first | (rw [if_pos (by decide +kernel)]; kernel_rfl) | (rw [if_neg (by decide +kernel)]; exact ⟨rfl, rfl⟩))
    (fun os started H enc _ => lifted os started H enc)

theorem proved : Rows.EvalShiftsSaid := over

end Go.Proofs.Ytpfokkfomgmibaa.evalShifts
