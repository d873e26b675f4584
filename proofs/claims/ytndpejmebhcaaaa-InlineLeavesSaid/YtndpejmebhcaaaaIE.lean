/- The bodies of some functions, as the evaluator has them (printed by program), and that they are the program's own. -/
import Derived.Test.YtndpejmebhcaaaaKE
namespace Go.Proofs.Ytndpejmebhcaaaa
open Go.RowKit

/-- slices.Clone[[]marline/api.Func,marline/api.Func] -/
def c_slices_Clone___api_Func_api_Func_ : ACode :=
  (.seq (.reg [⟨(some (sl 2)), none, (.mv (.c (.slice none 0 0))), none⟩])
  (.seq (.seq (.reg [⟨(some (sl 3)), none, (.mv (.s (sl 0))), none⟩, ⟨(some (sl 4)), none, (.isnil false (.s (sl 3))), none⟩])
  (.cond (.s (sl 4))
  (.seq (.reg [⟨(some (sl 2)), none, (.mv (.c (.slice none 0 0))), none⟩])
  .ret)
  .skip))
  (.seq (.reg [⟨(some (sl 5)), none, (.nrow 31 4), none⟩, ⟨(some (sl 6)), none, (.mv (.s (sl 0))), none⟩, ⟨(some (sl 7)), none, (.vapp 31 4 56 (.s (sl 5)) (.s (sl 6))), none⟩, ⟨(some (sl 2)), none, (.mv (.s (sl 7))), none⟩])
  .ret)))
def r_slices_Clone___api_Func_api_Func_ : List ARes := [(.tmp (sl 2))]
theorem t_slices_Clone___api_Func_api_Func_ : (Try.f53).body.bind (trCode Try.prog 8 (Try.f53).ntmps [2, 7] [(2000007, 31, 4)] (drOk 8)) = some c_slices_Clone___api_Func_api_Func_ := by kernel_rfl
theorem u_slices_Clone___api_Func_api_Func_ : trRess Try.prog 8 (Try.f53).results.toList = some r_slices_Clone___api_Func_api_Func_ := by kernel_rfl

end Go.Proofs.Ytndpejmebhcaaaa
