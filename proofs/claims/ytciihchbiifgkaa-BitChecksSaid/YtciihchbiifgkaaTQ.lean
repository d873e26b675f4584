/- Contracts by the evaluator: layer 6's statement BitApart. -/
import Derived.Test.YtciihchbiifgkaaTM
import Derived.Test.YtciihchbiifgkaaTN
import Derived.Test.YtciihchbiifgkaaTP
import Derived.Test.YtciihchbiifgkaaE19
namespace Go.Proofs.Ytciihchbiifgkaa
open Go.RowKit

theorem shown06_pure : APure Try.prog 8 [] (.bool true) := by
  refine ⟨⟨_, _, Try.func8, by kernel_rfl, rfl⟩, fun X w vs _ hvs => ?_⟩
  obtain rfl : vs = #[] := Array.toList_inj.1 (by simpa using hvs.unnil)
  refine (shown06 w).mono ?_
  rintro e w' ⟨rfl, hw⟩
  exact ⟨hw, _, rfl, .lit _⟩
theorem bytesE_ok {m : Module} (h : bytesE m = 0) : ModOk m := by
  unfold bytesE at h
  by_cases hc : checkE m = 0
  · exact checkE_zero.1 hc
  · rw [if_neg hc] at h; exact absurd h hc

set_option maxRecDepth 10000 in
theorem bitApart_pure (a b : Module) (ha : BitFit a) (hb : BitFit b) : APure Try.prog 3 [.agg (moduleC a), .agg (moduleC b)] (.bool true) := by
  refine apureG _ _ Try.func3 (by kernel_rfl) t_marlinelaw06_BitApart u_marlinelaw06_BitApart rfl rfl (fun hx => ?_)
  clear hx
  simp [c_marlinelaw06_BitApart, r_marlinelaw06_BitApart]
  refine call_plain (ds := []) _ (by simp) (by simp) (fun _ => rfl) (fun _ => shown06_pure) ?_
  simp
  refine call_plain (ds := [.agg (moduleC a)]) _ (by simp) (by simp) (fun _ => by simp; rfl) (fun _ => bytes_pure a ha) ?_
  simp
  refine call_plain (ds := [.agg (moduleC b)]) _ (by simp) (by simp) (fun _ => by simp; rfl) (fun _ => bytes_pure b hb) ?_
  simp
  refine call_plain (ds := [.agg (moduleC a), .agg (moduleC b)]) _ (by simp) (by simp) (fun _ => by simp; exact ⟨rfl, rfl⟩) (fun _ => refSame_pure a b) ?_
  simp
  refine DLe_bool ?_
  by_cases h1 : bytesE a = 0
  · by_cases h2 : bytesE b = 0
    · have h3 : bytesM a = encMod a := by unfold bytesM; rw [if_pos h1]
      have h4 : bytesM b = encMod b := by unfold bytesM; rw [if_pos h2]
      have key : decide (encMod a = encMod b) = sameMod a b := by
        rw [Bool.eq_iff_iff, decide_eq_true_eq, sameMod_iff]
        exact ⟨encMod_inj (bytesE_ok h1) (bytesE_ok h2) ha hb, fun h => by rw [h]⟩
      simp [h1, h2, h3, h4, key]
    · simp [h2]
  · simp [h1]

end Go.Proofs.Ytciihchbiifgkaa
