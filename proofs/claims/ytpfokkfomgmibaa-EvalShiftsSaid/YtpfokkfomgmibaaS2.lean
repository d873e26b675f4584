/- Contracts by the evaluator: layer 7, open calls: another block goes on. -/
import Derived.Test.YtpfokkfomgmibaaS1
namespace Go.Proofs.Ytpfokkfomgmibaa
open Go.RowKit

/-- A call that is open: its function, block, place, values. -/
structure Fr where
  f : Func
  blk : Nat
  pos : Nat
  vals : List Int

def valsR (vals : List Int) : Nat → List DV := fun i => u64C (vals[i]?.getD 0)
@[simp] theorem valsR_len (vals : List Int) (i : Nat) : (valsR vals i).length = 1 := rfl
@[simp] theorem valsR_0 (vals : List Int) (i : Nat) : (valsR vals i)[0]? = some (.lit (.int .u64 (vals[i]?.getD 0))) := rfl
def frC (fr : Fr) (v : AV) : List AV := [.d (.str fr.f.name), .d (.int fr.f.bind), .d (.int fr.f.params), .d (blocksD fr.f.blocks), .int fr.blk, .int fr.pos, v]
/-- A call's box, and its values' row. -/
def LF (i j : Nat) (fr : Fr) : List (Nat × AObj) := [(i, .box (frC fr (.own j fr.vals.length))), (j, .row 29 1 fr.vals.length (valsR fr.vals))]

theorem pick_row {vals l : List Int} : (fun i => u64C ((pickI vals l)[i]?.getD 0)) = valsR (pickI vals l) := rfl

set_option maxRecDepth 10000 in
theorem goes_eff (fr : Fr) (to : Nat) (l : List Int) (hl : ∀ v ∈ l, 0 ≤ v ∧ v < fr.vals.length) (hlen : l.length ≤ 1000) :
    AEff Try.prog 22 [.ptr 1000003 0, .int to, .d (intsD l)] (LF 1000003 1000004 fr) (.tup []) (LF 1000003 999999 ⟨fr.f, to, 0, pickI fr.vals l⟩) := by
  refine aeffG _ _ Try.func22 (by kernel_rfl) t___eval_frame__goes u___eval_frame__goes rfl rfl (by simp [LF]) (by simp [LF, idsOk]) (fun _ => ?_)
  simp [c___eval_frame__goes, r___eval_frame__goes, LF, frC, hof]
  refine callor_k (ds := [.cref [.str fr.f.name, .int fr.f.bind, .int fr.f.params, blocksD fr.f.blocks, .int fr.blk, .int fr.pos, .sl 1 fr.vals.length fun k => u64C (fr.vals[k]?.getD 0)] 0, intsD l]) _ _ (by simp) (by simp) (by simp; rfl) (some_own fr.vals l fr.blk fr.pos fr.f hl hlen) (fun i hi => rfl) ?_
  simp
  exact ⟨.id 3, by simp [gE, pick_row], by simp [gE]⟩

end Go.Proofs.Ytpfokkfomgmibaa
