/- Contracts by the evaluator: the statement IrFuncs. -/
import Derived.Test.YtghlfjpmpalpdaaB8
import Derived.Test.YtghlfjpmpalpdaaE8
import Derived.Test.YtghlfjpmpalpdaaE11
import Derived.Test.YtghlfjpmpalpdaaC2
import Derived.Test.YtghlfjpmpalpdaaOpenM
namespace Go.Proofs.Ytghlfjpmpalpdaa
open Go.RowKit

theorem sum_le {α : Type} (f g : α → Nat) (h : ∀ x, f x ≤ g x) : ∀ l : List α, (l.map f).sum ≤ (l.map g).sum
  | [] => Nat.le_refl _
  | x :: l => by
    have h1 := h x
    have h2 := sum_le f g h l
    simp only [List.map_cons, List.sum_cons]
    omega
theorem szBlock_ins (b : Block) : b.ins.length ≤ szBlock b := by
  have h := sum_le (fun _ => 1) szInst (fun i => by unfold szInst; omega) b.ins
  rw [sum_ones] at h
  unfold szBlock
  omega
theorem allIns_length (f : Func) : (allIns f).length = (f.blocks.map fun b => b.ins.length).sum := by
  unfold allIns
  rw [List.length_flatMap]
theorem szFunc_ins (f : Func) : (allIns f).length ≤ szFunc f := by
  have h := sum_le (fun b => b.ins.length) szBlock szBlock_ins f.blocks
  rw [← allIns_length] at h
  unfold szFunc
  omega

set_option maxRecDepth 10000 in
theorem irFuncs_pure (f : Func) (hl : (allIns f).length ≤ 1048576) (hi : ∀ b ∈ f.blocks, ∀ i ∈ b.ins, i.args.length ≤ 17592186044416) : APure Try.prog 7 [.agg (funcC f)] (.bool true) := by
  refine apureG _ _ Try.func7 (by kernel_rfl) t_marlinelaw05_IrFuncs u_marlinelaw05_IrFuncs rfl rfl (fun _ => ?_)
  simp [c_marlinelaw05_IrFuncs, r_marlinelaw05_IrFuncs]
  refine call_plain (ds := []) _ (by simp) (by simp) (fun _ => rfl) (fun _ => shown5_pure) ?_
  simp
  refine call_plain (ds := [.agg (funcC f)]) _ (by simp) (by simp) (fun _ => rfl) (fun _ => refs_pure f (by omega)) ?_
  simp
  refine call_plain (ds := [.agg (funcC f)]) _ (by simp) (by simp) (fun _ => rfl) (fun _ => refRefs_pure f (by omega)) ?_
  simp
  refine call_plain (ds := [strsD (namesOf (allIns f)), strsD (namesOf (allIns f))]) _ (by simp) (by simp) (fun _ => rfl) (fun _ => strings_pure _ _) ?_
  simp
  refine call_plain (ds := [.agg (funcC f)]) _ (by simp) (by simp) (fun _ => rfl) (fun _ => func_pure f hi) ?_
  simp
  refine call_plain (ds := [.agg (funcC f)]) _ (by simp) (by simp) (fun _ => rfl) (fun _ => refFunc_pure f hi) ?_
  simp

end Go.Proofs.Ytghlfjpmpalpdaa
