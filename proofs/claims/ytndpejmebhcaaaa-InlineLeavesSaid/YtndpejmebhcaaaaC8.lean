/- Contracts by the evaluator: the laws of layer 14 on Put. -/
import Derived.Test.YtndpejmebhcaaaaC7
import Derived.Test.YtndpejmebhcaaaaNumQ
namespace Go.Proofs.Ytndpejmebhcaaaa
open Go.RowKit

/-- The document's example. -/
def b0 : Block := ⟨0, [⟨1, 0, 0, 2, ⟨#[]⟩, []⟩, ⟨14, 0, 0, 0, ⟨#[102]⟩, [0]⟩], 3, 1, 0, [], 0, []⟩
def l0 : Block := ⟨1, [], 3, 0, 0, [], 0, []⟩
def r0 : Block := ⟨0, [⟨1, 0, 0, 2, ⟨#[]⟩, []⟩], 3, 0, 0, [], 0, []⟩
theorem nums_l0 : NumsOk l0 := ⟨by decide, by decide, by decide, fun k h => by simp [l0] at h, fun k h => by simp [l0] at h, fun _ => by simp [l0, upTo], all_nil rfl, all_nil rfl, by decide, by decide⟩
theorem nums_b0 : NumsOk b0 := by
  refine ⟨by decide, by decide, by decide, fun k h => ?_, fun k h => ?_, fun _ => by simp [b0, upTo], all_nil rfl, all_nil rfl, by decide, by decide⟩
  · rcases (by simp [b0] at h; omega : k = 0 ∨ k = 1) with rfl | rfl
    · exact ⟨fun h => by simp [b0, isOne, isTwo] at h, fun h => by simp [b0, isTwo] at h, all_nil rfl⟩
    · exact ⟨fun h => by simp [b0, isOne, isTwo] at h, fun h => by simp [b0, isTwo] at h, fun j hj => by
        obtain rfl : j = 0 := by simpa [b0] using hj
        simp [b0, upTo]⟩
  · rcases (by simp [b0] at h; omega : k = 0 ∨ k = 1) with rfl | rfl <;> simp [b0]

set_option maxHeartbeats 2000000 in
set_option maxRecDepth 10000 in
theorem shown14_pure : APure Try.prog 18 [] (.bool true) := by
  refine apureG _ [] Try.func18 (by kernel_rfl) t_marlinelaw14_shown u_marlinelaw14_shown rfl rfl (fun _ => ?_)
  simp [c_marlinelaw14_shown, r_marlinelaw14_shown]
  have e : putYes b0 l0 1 = true := by decide
  have e2 : putB b0 l0 1 = r0 := by rfl
  have hc := putI_pure b0 l0 1 nums_b0 nums_l0
  rw [e, e2, if_pos rfl] at hc
  refine call_arg (ds := ?ds) hc (by simp) (by simp) (fun _ => ?_) (fun _ => ?_) ?_
  rotate_left
  · simp; rfl
  · refine ⟨DLe_agg ⟨DLe.refl _, insD_cells rfl fun k hk => ?_, DLe.refl _, DLe.refl _, DLe.refl _, intsD_nil, DLe.refl _, intsD_nil, trivial⟩, DLe_agg ⟨DLe.refl _, insD_nil, DLe.refl _, DLe.refl _, DLe.refl _, intsD_nil, DLe.refl _, intsD_nil, trivial⟩, DLe.refl _, trivial⟩
    rcases (by simp [b0] at hk; omega : k = 0 ∨ k = 1) with rfl | rfl
    · exact ⟨DLe.refl _, DLe.refl _, DLe.refl _, DLe.refl _, DLe.refl _, intsD_nil, trivial⟩
    · exact ⟨DLe.refl _, DLe.refl _, DLe.refl _, DLe.refl _, DLe.refl _, intsD_le rfl (fun k hk => by
        obtain rfl : k = 0 := by
          have hk' : k < 1 := hk
          omega
        rfl), trivial⟩
  simp [r0]

end Go.Proofs.Ytndpejmebhcaaaa
