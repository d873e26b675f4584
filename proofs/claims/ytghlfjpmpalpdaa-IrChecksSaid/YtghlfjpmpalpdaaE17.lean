/- Contracts by the evaluator: the statement IrChecks. -/
import Derived.Test.YtghlfjpmpalpdaaB8
import Derived.Test.YtghlfjpmpalpdaaE8
import Derived.Test.YtghlfjpmpalpdaaE15
import Derived.Test.YtghlfjpmpalpdaaE16
namespace Go.Proofs.Ytghlfjpmpalpdaa
open Go.RowKit

set_option maxRecDepth 10000 in
theorem irChecks_pure (m x : Module) (hi : ∀ f ∈ m.funcs, ∀ b ∈ f.blocks, ∀ i ∈ b.ins, i.args.length ≤ 17592186044416) : APure Try.prog 11 [.agg (moduleC m), .agg (moduleC x)] (.bool true) := by
  refine apureG _ _ Try.func11 (by kernel_rfl) t_marlinelaw05_IrChecks u_marlinelaw05_IrChecks rfl rfl (fun _ => ?_)
  simp [c_marlinelaw05_IrChecks, r_marlinelaw05_IrChecks]
  refine call_plain (ds := []) _ (by simp) (by simp) (fun _ => rfl) (fun _ => shown5_pure) ?_
  simp
  refine call_plain (ds := [.agg (moduleC m)]) _ (by simp) (by simp) (fun _ => rfl) (fun _ => check_pure m hi) ?_
  simp
  refine call_plain (ds := [.agg (moduleC m)]) _ (by simp) (by simp) (fun _ => rfl) (fun _ => refCheck_pure m hi) ?_
  simp
  refine call_plain (ds := [.agg (moduleC m), .agg (moduleC x)]) _ (by simp) (by simp) (fun _ => rfl) (fun _ => irSame_pure m x) ?_
  simp
  refine call_plain (ds := [.agg (moduleC m), .agg (moduleC x)]) _ (by simp) (by simp) (fun _ => rfl) (fun _ => refSame_pure m x) ?_
  simp
  refine call_plain (ds := [.agg (moduleC m), .agg (moduleC m)]) _ (by simp) (by simp) (fun _ => rfl) (fun _ => irSame_pure m m) ?_
  simp
  exact DLe_bool ((sameMod_iff m m).2 rfl)

end Go.Proofs.Ytghlfjpmpalpdaa
