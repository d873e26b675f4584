/-
  Whatever functions f and g, place i, and number at there are: the statement InlineGone answers true, and leaves its argument alone.
  Conditions: none beyond the form's own (each string and slice takes at most 2^47 - 4096 bytes).
-/
import Derived.Test.YtghlfjpmpalpdaaC8
import Derived.Test.YtghlfjpmpalpdaaLift
namespace Go.Proofs.Ytghlfjpmpalpdaa.inlineGone
open Go.ChangeShapes Go.WideShapes Go.ChangeAt Go.RowKit

theorem rdIn {H : Type} {enc : TypeId × Value → H} {W : World} : RdT enc Try.prog W 63 10 (fun p : Func × Func × Int × Int => funcC p.1 ++ funcC p.2.1 ++ [.int p.2.2.1, .int p.2.2.2]) (fun p => bFunc p.1 ∧ bFunc p.2.1) := by
  have h := rd_struct (enc := enc) (W := W) (n := 10) Try.underlying63 rfl (by kernel_rfl) (rd_cons (n := 4) (m := 6) rfl rdFunc (rd_cons (n := 4) (m := 2) rfl rdFunc (rd_cons (n := 1) (m := 1) rfl rdInt (rd_cons (n := 1) (m := 0) rfl rdInt (rd_nil 10)))))
  exact h.map (fun p => (p.1, p.2.1, p.2.2.1, p.2.2.2.1)) (fun p => by simp) (fun p h => ⟨h.1, h.2.1⟩)

theorem bounds {f : Func} (h : bFunc f) : ∀ b ∈ f.blocks, ∀ i ∈ b.ins, i.args.length ≤ 17592186044416 := fun b hb i hi => (h.1 b hb).1 i hi

set_option maxRecDepth 100000 in
theorem lifted (os : Os) (started : os.Started) (H : Type) (enc : TypeId × Value → H) :
    ReturnsInHanded {} Try.checked os 13 .any (Rows.inlineGoneSpec.pre6 enc Try.prog Try.f13 Rows.inlineGoneRow.domain false) (Rows.inlineGoneSpec.post enc Try.prog Try.f13 false true false false) := by
  refine returnsInHanded_of_change_sized (C := Try.checked) own started (by kernel_rfl) Try.func13
    (ChangeSpec.witness6 (enc := enc) (C := Try.checked) false ⟨#[], #[.agg #[.string ByteArray.empty, .int .i64 0, .int .i64 0, .slice none 0 0, .string ByteArray.empty, .int .i64 0, .int .i64 0, .slice none 0 0, .int .i64 0, .int .i64 0]], []⟩ 8 (by kernel_rfl) (by kernel_rfl) (by kernel_rfl) (by kernel_rfl)) ?_
  intro W base args ds gs before hval0 hW hcnd hsz0 _
  have hval : ∀ (j : Nat) t v, Try.f13.params[j]? = some t → args[j]? = some v → Value.okWide Try.prog W .any base t v := hval0
  have hsz : (DataW.weightsEach Try.prog (Try.f13.params.toList ++ Rows.inlineGoneSpec.plain.varTypes Try.prog) (ds ++ gs)).all (· ≤ reachBytes) = true := hsz0
  have hW' := hW
  obtain ⟨p, q, hA0, hV, rfl, hfz, hnd⟩ := hW
  have hA : DataW.TrodAll enc Try.prog W 0 (fun _ => true) true Try.f13.params.toList args.toList ds p := hA0
  rw [Try.params13] at hA hval hsz
  obtain ⟨v0, vs0, d0, ds0, p0, q0, hargs, rfl, rfl, h0, r0⟩ := trodAll_cons hA
  obtain ⟨rfl, rfl, rfl⟩ := trodAll_nil r0
  obtain rfl : args = #[v0] := by cases args; simp_all
  obtain ⟨rfl, rfl⟩ := trodVars_none hV
  have hlt : ∀ x ∈ p0, x.block < W.heap.size := fun x hx => by simpa using hW'.lt x (by simpa using hx)
  obtain ⟨a, hr, hb⟩ := open_agg rdIn Try.underlying63 (hval 0 63 v0 rfl rfl) h0 (light_of hsz (j := 0) rfl rfl)
  clear hA0 hval0
  simp only [List.append_nil] at hW'
  refine ((gone_pure a.1 a.2.1 a.2.2.1 a.2.2.2 (bounds hb.1) (bounds hb.2)).yes (W := W) (args := #[v0]) (DReps.one hr)).mono fun e W' ⟨he, hg⟩ => ?_
  subst he
  exact ⟨_, rfl, _, _, _, [], _, [], hW', trodAll_mk1 (shut_bool Try.underlying4 _), trodAll_mk1 (Below.trod laid (by kernel_rfl) (of_decide_eq_true (by kernel_rfl)) h0 hg.below hlt), rfl, hg.below.frame _, fun h => by cases h⟩

theorem over : Rows.inlineGoneRow.holds Try.pinned (OpenSpec.ofChange Rows.inlineGoneSpec) :=
  OpenClaim.holds_of_wide 13 Try.f13 rfl rfl rfl rfl rfl rfl rfl ⟨rfl, rfl, rfl, rfl, rfl⟩ rfl rfl rfl rfl rfl (by kernel_rfl) Try.func13 (by kernel_rfl)
    (of_decide_eq_true (by kernel_rfl)) (by unfold Func.isWrapper; first | (rw [if_pos (by decide +kernel)]; kernel_rfl) | (rw [if_neg (by decide +kernel)]; exact ⟨rfl, rfl⟩))
    (fun os started H enc _ => lifted os started H enc)

theorem proved : Rows.InlineGoneSaid := over

end Go.Proofs.Ytghlfjpmpalpdaa.inlineGone
