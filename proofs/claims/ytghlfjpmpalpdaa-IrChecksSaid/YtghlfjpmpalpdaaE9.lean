/- Contracts by the evaluator: layer 5's statements on instructions and functions. -/
import Derived.Test.YtghlfjpmpalpdaaE8
namespace Go.Proofs.Ytghlfjpmpalpdaa
open Go.RowKit

set_option maxRecDepth 10000 in
theorem irInsts_pure (i : Inst) (n : Int) (b : Block) (hl : i.args.length ≤ 17592186044416) : APure Try.prog 3 [.agg (instC i), .int n, .agg (blockC b)] (.bool true) := by
  refine apureG _ _ Try.func3 (by kernel_rfl) t_marlinelaw05_IrInsts u_marlinelaw05_IrInsts rfl rfl (fun _ => ?_)
  simp [c_marlinelaw05_IrInsts, r_marlinelaw05_IrInsts]
  refine call_plain (ds := []) _ (by simp) (by simp) (fun _ => rfl) (fun _ => shown5_pure) ?_
  simp
  refine call_plain (ds := [.agg (instC i)]) _ (by simp) (by simp) (fun _ => rfl) (fun _ => uses_pure i hl) ?_
  simp
  refine call_plain (ds := [.agg (instC i)]) _ (by simp) (by simp) (fun _ => rfl) (fun _ => refUses_pure i hl) ?_
  simp
  refine call_plain (ds := [intsD (uses i), intsD (uses i)]) _ (by simp) (by simp) (fun _ => rfl) (fun _ => ints_pure (uses i) (uses i)) ?_
  simp
  refine call_plain (ds := [.agg (instC i), .int n]) _ (by simp) (by simp) (fun _ => rfl) (fun _ => inst_pure i n hl) ?_
  simp
  refine call_plain (ds := [.agg (instC i), .int n]) _ (by simp) (by simp) (fun _ => rfl) (fun _ => refInst_pure i n hl) ?_
  simp
  refine call_plain (ds := [.agg (blockC b)]) _ (by simp) (by simp) (fun _ => rfl) (fun _ => values_pure b) ?_
  simp

end Go.Proofs.Ytghlfjpmpalpdaa
