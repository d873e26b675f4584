/- The bodies of some functions, as the evaluator has them (printed by program), and that they are the program's own. -/
import Derived.Test.YtndpejmebhcaaaaKE
namespace Go.Proofs.Ytndpejmebhcaaaa
open Go.RowKit

/-- slices.Concat[[]marline/api.Inst,marline/api.Inst] -/
def c_slices_Concat___api_Inst_api_Inst_ : ACode :=
  (.seq (.reg [⟨(some (sl 2)), none, (.mv (.c (.slice none 0 0))), none⟩])
  (.seq (.reg [⟨(some (sl 3)), none, (.mv (.c (.int .i64 0))), none⟩])
  (.seq (.seq (.reg [⟨(some (sl 9)), none, (.mv (.s (sl 0))), none⟩, ⟨(some (sl 10)), none, (.len false (.s (sl 9))), none⟩, ⟨(some (sl 11)), none, (.mv (.c (.int .i64 0))), none⟩])
  (.block 0
  (.loop (.seq (.reg [⟨(some (sl 12)), none, (.bin .lss (.s (sl 11)) (.s (sl 10))), none⟩])
  (.seq (.cond (.s (sl 12))
  .skip
  (.exit 0))
  (.seq (.block 1
  (.seq (.reg [⟨(some (sl 13)), none, (.idx true (.s (sl 9)) (.s (sl 11)) 1), none⟩, ⟨(some (sl 14)), none, (.ld true (.s (sl 13)) none), none⟩, ⟨(some (sl 5)), none, (.mv (.s (sl 14))), none⟩])
  (.seq (.reg [⟨(some (sl 15)), none, (.mv (.s (sl 3))), none⟩, ⟨(some (sl 16)), none, (.mv (.s (sl 5))), none⟩, ⟨(some (sl 17)), none, (.len false (.s (sl 16))), none⟩, ⟨(some (sl 18)), none, (.bin .add (.s (sl 15)) (.s (sl 17))), none⟩, ⟨(some (sl 3)), none, (.mv (.s (sl 18))), none⟩])
  (.seq (.reg [⟨(some (sl 19)), none, (.mv (.s (sl 3))), none⟩, ⟨(some (sl 20)), none, (.bin .lss (.s (sl 19)) (.c (.int .i64 0))), none⟩])
  (.cond (.s (sl 20))
  (.reg [⟨(some (sl 21)), none, .bad, none⟩, ⟨none, none, .bad, none⟩])
  .skip)))))
  (.reg [⟨(some (sl 22)), none, (.bin .add (.s (sl 11)) (.c (.int .i64 1))), none⟩, ⟨(some (sl 11)), none, (.mv (.s (sl 22))), none⟩])))))))
  (.seq (.reg [⟨(some (sl 23)), none, (.mv (.s (sl 3))), none⟩, ⟨(some (sl 24)), none, (.callo 74 6 (.f 103) [(.c (.slice none 0 0)), (.s (sl 23))]), none⟩, ⟨(some (sl 6)), none, (.mv (.s (sl 24))), none⟩])
  (.seq (.seq (.reg [⟨(some (sl 25)), none, (.mv (.s (sl 0))), none⟩, ⟨(some (sl 26)), none, (.len false (.s (sl 25))), none⟩, ⟨(some (sl 27)), none, (.mv (.c (.int .i64 0))), none⟩])
  (.block 2
  (.loop (.seq (.reg [⟨(some (sl 28)), none, (.bin .lss (.s (sl 27)) (.s (sl 26))), none⟩])
  (.seq (.cond (.s (sl 28))
  .skip
  (.exit 2))
  (.seq (.block 3
  (.seq (.reg [⟨(some (sl 29)), none, (.idx true (.s (sl 25)) (.s (sl 27)) 1), none⟩, ⟨(some (sl 30)), none, (.ld true (.s (sl 29)) none), none⟩, ⟨(some (sl 8)), none, (.mv (.s (sl 30))), none⟩])
  (.reg [⟨(some (sl 31)), none, (.mv (.s (sl 6))), none⟩, ⟨(some (sl 32)), none, (.mv (.s (sl 8))), none⟩, ⟨(some (sl 33)), none, (.app 74 6 72 (.s (sl 31)) (.s (sl 32))), none⟩, ⟨(some (sl 6)), none, (.mv (.s (sl 33))), none⟩])))
  (.reg [⟨(some (sl 34)), none, (.bin .add (.s (sl 27)) (.c (.int .i64 1))), none⟩, ⟨(some (sl 27)), none, (.mv (.s (sl 34))), none⟩])))))))
  (.seq (.reg [⟨(some (sl 35)), none, (.mv (.s (sl 6))), none⟩, ⟨(some (sl 2)), none, (.mv (.s (sl 35))), none⟩])
  .ret))))))
def r_slices_Concat___api_Inst_api_Inst_ : List ARes := [(.tmp (sl 2))]
theorem t_slices_Concat___api_Inst_api_Inst_ : (Try.f92).body.bind (trCode Try.prog 8 (Try.f92).ntmps [2, 6, 24, 31, 33, 35] [(103, 74, 6)] (drOk 8)) = some c_slices_Concat___api_Inst_api_Inst_ := by kernel_rfl
theorem u_slices_Concat___api_Inst_api_Inst_ : trRess Try.prog 8 (Try.f92).results.toList = some r_slices_Concat___api_Inst_api_Inst_ := by kernel_rfl

end Go.Proofs.Ytndpejmebhcaaaa
