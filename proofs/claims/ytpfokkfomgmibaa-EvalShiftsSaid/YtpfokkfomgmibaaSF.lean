/- The bodies of some functions, as the evaluator has them (printed by program), and that they are the program's own. -/
import Derived.Test.YtpfokkfomgmibaaKE
namespace Go.Proofs.Ytpfokkfomgmibaa
open Go.RowKit

/-- marline/eval.Whole -/
def c_eval_Whole : ACode :=
  (.seq (.reg [⟨(some (sl 1)), none, (.box true (.s (sl 0))), none⟩, ⟨(some (sl 2)), none, (.mv (.c (.int .i64 0))), none⟩])
  (.seq (.seq (.reg [⟨(some (sl 13)), none, (.ld true (.s (sl 1)) (some 2)), none⟩, ⟨(some (sl 14)), none, (.call true (.f 26) [(.s (sl 13))]), none⟩, ⟨(some (sl 3)), none, (.mv (.s (sl 14))), none⟩])
  (.seq (.reg [⟨(some (sl 15)), none, (.mv (.s (sl 3))), none⟩, ⟨(some (sl 16)), none, (.bin .neq (.s (sl 15)) (.c (.int .i64 0))), none⟩])
  (.cond (.s (sl 16))
  (.seq (.reg [⟨(some (sl 17)), none, (.mv (.s (sl 3))), none⟩, ⟨(some (sl 2)), none, (.mv (.s (sl 17))), none⟩])
  .ret)
  .skip)))
  (.seq (.seq (.seq (.reg [⟨(some (sl 19)), none, (.ld true (.s (sl 1)) (some 2)), none⟩, ⟨(some (sl 20)), none, (.call true (.f 27) [(.s (sl 19)), (.c (.string ⟨#[109, 97, 105, 110]⟩))]), none⟩, ⟨(some (sl 18)), none, (.mv (.s (sl 20))), none⟩, ⟨(some (sl 21)), none, (.ext (.s (sl 18)) 0), none⟩, ⟨(some (sl 22)), none, (.ext (.s (sl 18)) 1), none⟩, ⟨(some (sl 4)), none, (.new [(.string ⟨#[]⟩), (.int .i64 0), (.int .i64 0), (.slice none 0 0)]), none⟩, ⟨none, none, (.ini 1 (.s (sl 4)) (.s (sl 21)) 4), none⟩, ⟨(some (sl 5)), none, (.mv (.s (sl 22))), none⟩])
  (.frz (sl 4)))
  (.seq (.reg [⟨(some (sl 23)), none, (.mv (.s (sl 5))), none⟩, ⟨(some (sl 24)), none, (.not (.s (sl 23))), none⟩, ⟨(some (sl 25)), none, (.mv (.s (sl 24))), none⟩, ⟨(some (sl 26)), (some ((sl 25), false)), (.fld (.s (sl 4)) 3), none⟩, ⟨(some (sl 27)), (some ((sl 25), false)), (.ld true (.s (sl 26)) none), none⟩, ⟨(some (sl 28)), (some ((sl 25), false)), (.len false (.s (sl 27))), none⟩, ⟨(some (sl 29)), (some ((sl 25), false)), (.bin .eql (.s (sl 28)) (.c (.int .i64 0))), none⟩, ⟨(some (sl 30)), none, (.pick (.s (sl 25)) (.c (.bool true)) (.s (sl 29))), none⟩, ⟨(some (sl 31)), none, (.mv (.s (sl 30))), none⟩, ⟨(some (sl 32)), (some ((sl 31), false)), (.fld (.s (sl 4)) 2), none⟩, ⟨(some (sl 33)), (some ((sl 31), false)), (.ld true (.s (sl 32)) none), none⟩, ⟨(some (sl 34)), (some ((sl 31), false)), (.bin .neq (.s (sl 33)) (.c (.int .i64 0))), none⟩, ⟨(some (sl 35)), none, (.pick (.s (sl 31)) (.c (.bool true)) (.s (sl 34))), none⟩])
  (.cond (.s (sl 35))
  (.seq (.reg [⟨(some (sl 2)), none, (.mv (.c (.int .i64 11))), none⟩])
  .ret)
  .skip)))
  (.seq (.reg [⟨(some (sl 36)), none, (.mmk .string), none⟩, ⟨(some (sl 6)), none, (.new [(.map none)]), none⟩, ⟨none, none, (.ini 1 (.s (sl 6)) (.s (sl 36)) 1), none⟩])
  (.seq (.seq (.reg [⟨(some (sl 37)), none, (.fld (.s (sl 1)) 0), none⟩, ⟨(some (sl 38)), none, (.ld true (.s (sl 37)) none), none⟩, ⟨(some (sl 39)), none, (.len false (.s (sl 38))), none⟩, ⟨(some (sl 40)), none, (.mv (.c (.int .i64 0))), none⟩])
  (.block 0
  (.loop (.seq (.reg [⟨(some (sl 41)), none, (.bin .lss (.s (sl 40)) (.s (sl 39))), none⟩])
  (.seq (.cond (.s (sl 41))
  .skip
  (.exit 0))
  (.seq (.block 1
  (.seq (.seq (.reg [⟨(some (sl 42)), none, (.idx true (.s (sl 38)) (.s (sl 40)) 4), none⟩, ⟨(some (sl 43)), none, (.ld true (.s (sl 42)) (some 4)), none⟩, ⟨(some (sl 8)), none, (.new [(.string ⟨#[]⟩), (.int .i64 0), (.int .i64 0), (.slice none 0 0)]), none⟩, ⟨none, none, (.ini 1 (.s (sl 8)) (.s (sl 43)) 4), none⟩])
  (.frz (sl 8)))
  (.reg [⟨(some (sl 44)), none, (.ld false (.s (sl 6)) none), none⟩, ⟨(some (sl 45)), none, (.fld (.s (sl 8)) 0), none⟩, ⟨(some (sl 46)), none, (.ld true (.s (sl 45)) none), none⟩, ⟨(some (sl 47)), none, (.fld (.s (sl 8)) 3), none⟩, ⟨(some (sl 48)), none, (.ld true (.s (sl 47)) none), none⟩, ⟨(some (sl 49)), none, (.len false (.s (sl 48))), none⟩, ⟨(some (sl 50)), none, (.bin .gtr (.s (sl 49)) (.c (.int .i64 0))), none⟩, ⟨none, none, (.mset false (.s (sl 44)) (.s (sl 46)) (.s (sl 50)) .string), none⟩])))
  (.reg [⟨(some (sl 51)), none, (.bin .add (.s (sl 40)) (.c (.int .i64 1))), none⟩, ⟨(some (sl 40)), none, (.mv (.s (sl 51))), none⟩])))))))
  (.seq (.seq (.reg [⟨(some (sl 52)), none, (.fld (.s (sl 1)) 1), none⟩, ⟨(some (sl 53)), none, (.ld true (.s (sl 52)) none), none⟩, ⟨(some (sl 54)), none, (.len false (.s (sl 53))), none⟩, ⟨(some (sl 55)), none, (.mv (.c (.int .i64 0))), none⟩])
  (.block 2
  (.loop (.seq (.reg [⟨(some (sl 56)), none, (.bin .lss (.s (sl 55)) (.s (sl 54))), none⟩])
  (.seq (.cond (.s (sl 56))
  .skip
  (.exit 2))
  (.seq (.block 3
  (.seq (.seq (.reg [⟨(some (sl 57)), none, (.idx true (.s (sl 53)) (.s (sl 55)) 4), none⟩, ⟨(some (sl 58)), none, (.ld true (.s (sl 57)) (some 4)), none⟩, ⟨(some (sl 10)), none, (.new [(.string ⟨#[]⟩), (.int .i64 0), (.bool false), (.int .u64 0)]), none⟩, ⟨none, none, (.ini 1 (.s (sl 10)) (.s (sl 58)) 4), none⟩])
  (.frz (sl 10)))
  (.reg [⟨(some (sl 59)), none, (.ld false (.s (sl 6)) none), none⟩, ⟨(some (sl 60)), none, (.fld (.s (sl 10)) 0), none⟩, ⟨(some (sl 61)), none, (.ld true (.s (sl 60)) none), none⟩, ⟨(some (sl 62)), none, (.fld (.s (sl 10)) 2), none⟩, ⟨(some (sl 63)), none, (.ld true (.s (sl 62)) none), none⟩, ⟨none, none, (.mset false (.s (sl 59)) (.s (sl 61)) (.s (sl 63)) .string), none⟩])))
  (.reg [⟨(some (sl 64)), none, (.bin .add (.s (sl 55)) (.c (.int .i64 1))), none⟩, ⟨(some (sl 55)), none, (.mv (.s (sl 64))), none⟩])))))))
  (.seq (.seq (.reg [⟨(some (sl 65)), none, (.fld (.s (sl 1)) 0), none⟩, ⟨(some (sl 66)), none, (.ld true (.s (sl 65)) none), none⟩, ⟨(some (sl 67)), none, (.len false (.s (sl 66))), none⟩, ⟨(some (sl 68)), none, (.mv (.c (.int .i64 0))), none⟩])
  (.block 4
  (.loop (.seq (.reg [⟨(some (sl 69)), none, (.bin .lss (.s (sl 68)) (.s (sl 67))), none⟩])
  (.seq (.cond (.s (sl 69))
  .skip
  (.exit 4))
  (.seq (.block 5
  (.seq (.seq (.reg [⟨(some (sl 70)), none, (.idx true (.s (sl 66)) (.s (sl 68)) 4), none⟩, ⟨(some (sl 71)), none, (.ld true (.s (sl 70)) (some 4)), none⟩, ⟨(some (sl 12)), none, (.new [(.string ⟨#[]⟩), (.int .i64 0), (.int .i64 0), (.slice none 0 0)]), none⟩, ⟨none, none, (.ini 1 (.s (sl 12)) (.s (sl 71)) 4), none⟩])
  (.frz (sl 12)))
  (.seq (.reg [⟨(some (sl 72)), none, (.ld true (.s (sl 12)) (some 4)), none⟩, ⟨(some (sl 73)), none, (.call true (.f 29) [(.s (sl 72))]), none⟩, ⟨(some (sl 74)), none, (.mkfn 30 [(.s (sl 6))]), none⟩, ⟨(some (sl 75)), none, (.calle (.f 28) [(.s (sl 73)), (.s (sl 74))]), none⟩])
  (.cond (.s (sl 75))
  (.seq (.reg [⟨(some (sl 2)), none, (.mv (.c (.int .i64 8))), none⟩])
  .ret)
  .skip))))
  (.reg [⟨(some (sl 76)), none, (.bin .add (.s (sl 68)) (.c (.int .i64 1))), none⟩, ⟨(some (sl 68)), none, (.mv (.s (sl 76))), none⟩])))))))
  (.seq (.reg [⟨(some (sl 2)), none, (.mv (.c (.int .i64 0))), none⟩])
  .ret))))))))
def r_eval_Whole : List ARes := [(.tmp (sl 2))]
theorem t_eval_Whole : (Try.f15).body.bind (trCode Try.prog 8 (Try.f15).ntmps [6, 44, 59, 74, 75] [(28, 0, 0)] (drOk 8)) = some c_eval_Whole := by kernel_rfl
theorem u_eval_Whole : trRess Try.prog 8 (Try.f15).results.toList = some r_eval_Whole := by kernel_rfl

end Go.Proofs.Ytpfokkfomgmibaa
