/- The bodies of some functions, as the evaluator has them (printed by program), and that they are the program's own. -/
import Derived.Test.YtghlfjpmpalpdaaEv
namespace Go.Proofs.Ytghlfjpmpalpdaa
open Go.RowKit

/-- marline/marlinelaw05.IrMore -/
def c_marlinelaw05_IrMore : ACode :=
  (.seq (.reg [⟨(some (sl 2)), none, (.box true (.s (sl 0))), none⟩, ⟨(some (sl 4)), none, (.mv (.c (.bool false))), none⟩])
  (.seq (.reg [⟨(some (sl 7)), none, (.call true (.f 14) []), none⟩, ⟨(some (sl 5)), none, (.mv (.s (sl 7))), none⟩])
  (.seq (.seq (.reg [⟨(some (sl 8)), none, (.ld true (.s (sl 2)) (some 2)), none⟩, ⟨(some (sl 9)), none, (.call true (.f 22) [(.s (sl 8))]), none⟩, ⟨(some (sl 10)), none, (.bin .neq (.s (sl 9)) (.c (.int .i64 0))), none⟩, ⟨(some (sl 11)), none, (.mv (.s (sl 10))), none⟩, ⟨(some (sl 12)), (some ((sl 11), false)), (.fld (.s (sl 2)) 0), none⟩, ⟨(some (sl 13)), (some ((sl 11), false)), (.ld true (.s (sl 12)) none), none⟩, ⟨(some (sl 14)), (some ((sl 11), false)), (.len false (.s (sl 13))), none⟩, ⟨(some (sl 15)), (some ((sl 11), false)), (.bin .gtr (.s (sl 14)) (.c (.int .i64 15))), none⟩, ⟨(some (sl 16)), none, (.pick (.s (sl 11)) (.c (.bool true)) (.s (sl 15))), none⟩, ⟨(some (sl 17)), none, (.mv (.s (sl 16))), none⟩, ⟨(some (sl 18)), (some ((sl 17), false)), (.mv (.s (sl 1))), none⟩, ⟨(some (sl 19)), (some ((sl 17), false)), (.len true (.s (sl 18))), none⟩, ⟨(some (sl 20)), (some ((sl 17), false)), (.bin .lss (.s (sl 19)) (.c (.int .i64 1))), none⟩, ⟨(some (sl 21)), none, (.pick (.s (sl 17)) (.c (.bool true)) (.s (sl 20))), none⟩, ⟨(some (sl 22)), none, (.mv (.s (sl 21))), none⟩, ⟨(some (sl 23)), (some ((sl 22), false)), (.mv (.s (sl 1))), none⟩, ⟨(some (sl 24)), (some ((sl 22), false)), (.len true (.s (sl 23))), none⟩, ⟨(some (sl 25)), (some ((sl 22), false)), (.bin .gtr (.s (sl 24)) (.c (.int .i64 16))), none⟩, ⟨(some (sl 26)), none, (.pick (.s (sl 22)) (.c (.bool true)) (.s (sl 25))), none⟩, ⟨(some (sl 27)), none, (.mv (.s (sl 26))), none⟩, ⟨(some (sl 28)), (some ((sl 27), false)), (.ld true (.s (sl 2)) (some 2)), none⟩, ⟨(some (sl 29)), (some ((sl 27), false)), (.mv (.s (sl 1))), none⟩, ⟨(some (sl 30)), (some ((sl 27), false)), (.call true (.f 23) [(.s (sl 28)), (.s (sl 29))]), none⟩, ⟨(some (sl 31)), (some ((sl 27), false)), (.bin .geq (.s (sl 30)) (.c (.int .i64 0))), none⟩, ⟨(some (sl 32)), none, (.pick (.s (sl 27)) (.c (.bool true)) (.s (sl 31))), none⟩, ⟨(some (sl 33)), none, (.mv (.s (sl 32))), none⟩, ⟨(some (sl 34)), (some ((sl 33), false)), (.ld true (.s (sl 2)) (some 2)), none⟩, ⟨(some (sl 35)), (some ((sl 33), false)), (.mv (.s (sl 1))), none⟩, ⟨(some (sl 36)), (some ((sl 33), false)), (.call true (.f 24) [(.s (sl 34)), (.s (sl 35))]), none⟩, ⟨(some (sl 37)), (some ((sl 33), false)), (.bin .geq (.s (sl 36)) (.c (.int .i64 0))), none⟩, ⟨(some (sl 38)), none, (.pick (.s (sl 33)) (.c (.bool true)) (.s (sl 37))), none⟩])
  (.cond (.s (sl 38))
  (.seq (.reg [⟨(some (sl 39)), none, (.mv (.s (sl 5))), none⟩, ⟨(some (sl 4)), none, (.mv (.s (sl 39))), none⟩])
  .ret)
  .skip))
  (.seq (.reg [⟨(some (sl 40)), none, (.ld true (.s (sl 2)) (some 2)), none⟩, ⟨(some (sl 6)), none, (.new [(.slice none 0 0), (.slice none 0 0)]), none⟩, ⟨none, none, (.ini 1 (.s (sl 6)) (.s (sl 40)) 2), none⟩])
  (.seq (.reg [⟨(some (sl 41)), none, (.nrow 39 4), none⟩, ⟨(some (sl 42)), none, (.fld (.s (sl 2)) 0), none⟩, ⟨(some (sl 43)), none, (.ld true (.s (sl 42)) none), none⟩, ⟨(some (sl 44)), none, (.app 39 4 56 (.s (sl 41)) (.s (sl 43))), none⟩, ⟨(some (sl 45)), none, (.mv (.s (sl 1))), none⟩, ⟨(some (sl 46)), none, (.bld [(.int .i64 0), (.int .i64 0), (.int .i64 0), (.int .u64 0), (.string ⟨#[]⟩), (.slice none 0 0)] [(0, 1, (.c (.int .i64 15)))]), none⟩, ⟨(some (sl 47)), none, (.mksl 6 1 [(.int .i64 0), (.int .i64 0), (.int .i64 0), (.int .u64 0), (.string ⟨#[]⟩), (.slice none 0 0)] [(0, 6, (.s (sl 46)))]), none⟩, ⟨(some (sl 48)), none, (.bld [(.int .i64 0), (.int .i64 0), (.int .i64 0), (.slice none 0 0), (.int .i64 0), (.slice none 0 0)] [(0, 1, (.c (.int .i64 3)))]), none⟩, ⟨(some (sl 49)), none, (.bld [(.int .i64 0), (.slice none 0 0), (.int .i64 0), (.int .i64 0), (.int .i64 0), (.slice none 0 0), (.int .i64 0), (.slice none 0 0)] [(1, 1, (.s (sl 47))), (2, 6, (.s (sl 48)))]), none⟩, ⟨(some (sl 50)), none, (.mksl 8 1 [(.int .i64 0), (.slice none 0 0), (.int .i64 0), (.int .i64 0), (.int .i64 0), (.slice none 0 0), (.int .i64 0), (.slice none 0 0)] [(0, 8, (.s (sl 49)))]), none⟩, ⟨(some (sl 51)), none, (.bld [(.string ⟨#[]⟩), (.int .i64 0), (.int .i64 0), (.slice none 0 0)] [(0, 1, (.s (sl 45))), (1, 1, (.c (.int .i64 1))), (3, 1, (.s (sl 50)))]), none⟩, ⟨(some (sl 52)), none, (.mksl 4 1 [(.string ⟨#[]⟩), (.int .i64 0), (.int .i64 0), (.slice none 0 0)] [(0, 4, (.s (sl 51)))]), none⟩, ⟨(some (sl 53)), none, (.app 39 4 56 (.s (sl 44)) (.s (sl 52))), none⟩, ⟨(some (sl 54)), none, (.fld (.s (sl 6)) 0), none⟩, ⟨none, none, (.st (.s (sl 54)) (.s (sl 53)) 1), none⟩])
  (.seq (.reg [⟨(some (sl 55)), none, (.mv (.s (sl 5))), none⟩, ⟨(some (sl 56)), none, (.mv (.s (sl 55))), none⟩, ⟨(some (sl 57)), (some ((sl 56), true)), (.ld false (.s (sl 6)) (some 2)), none⟩, ⟨(some (sl 58)), (some ((sl 56), true)), (.call false (.f 22) [(.s (sl 57))]), none⟩, ⟨(some (sl 59)), (some ((sl 56), true)), (.bin .eql (.s (sl 58)) (.c (.int .i64 0))), none⟩, ⟨(some (sl 60)), none, (.pick (.s (sl 56)) (.s (sl 59)) (.c (.bool false))), none⟩, ⟨(some (sl 4)), none, (.mv (.s (sl 60))), none⟩])
  .ret))))))
def r_marlinelaw05_IrMore : List ARes := [(.tmp (sl 4))]
theorem t_marlinelaw05_IrMore : (Try.f6).body.bind (trCode Try.prog 8 (Try.f6).ntmps [6, 44, 53, 54, 57] [(61, 3, 1), (79, 25, 6)] (drOk 8)) = some c_marlinelaw05_IrMore := by kernel_rfl
theorem u_marlinelaw05_IrMore : trRess Try.prog 8 (Try.f6).results.toList = some r_marlinelaw05_IrMore := by kernel_rfl

/-- marline/marlinelaw05.IrLess -/
def c_marlinelaw05_IrLess : ACode :=
  (.seq (.reg [⟨(some (sl 2)), none, (.box true (.s (sl 0))), none⟩, ⟨(some (sl 4)), none, (.mv (.c (.bool false))), none⟩])
  (.seq (.reg [⟨(some (sl 10)), none, (.call true (.f 14) []), none⟩, ⟨(some (sl 5)), none, (.mv (.s (sl 10))), none⟩])
  (.seq (.seq (.reg [⟨(some (sl 11)), none, (.ld true (.s (sl 2)) (some 2)), none⟩, ⟨(some (sl 12)), none, (.call true (.f 22) [(.s (sl 11))]), none⟩, ⟨(some (sl 13)), none, (.bin .neq (.s (sl 12)) (.c (.int .i64 0))), none⟩, ⟨(some (sl 14)), none, (.mv (.s (sl 13))), none⟩, ⟨(some (sl 15)), (some ((sl 14), false)), (.mv (.s (sl 1))), none⟩, ⟨(some (sl 16)), (some ((sl 14), false)), (.bin .lss (.s (sl 15)) (.c (.int .i64 0))), none⟩, ⟨(some (sl 17)), none, (.pick (.s (sl 14)) (.c (.bool true)) (.s (sl 16))), none⟩, ⟨(some (sl 18)), none, (.mv (.s (sl 17))), none⟩, ⟨(some (sl 19)), (some ((sl 18), false)), (.mv (.s (sl 1))), none⟩, ⟨(some (sl 20)), (some ((sl 18), false)), (.fld (.s (sl 2)) 0), none⟩, ⟨(some (sl 21)), (some ((sl 18), false)), (.ld true (.s (sl 20)) none), none⟩, ⟨(some (sl 22)), (some ((sl 18), false)), (.len false (.s (sl 21))), none⟩, ⟨(some (sl 23)), (some ((sl 18), false)), (.bin .geq (.s (sl 19)) (.s (sl 22))), none⟩, ⟨(some (sl 24)), none, (.pick (.s (sl 18)) (.c (.bool true)) (.s (sl 23))), none⟩])
  (.cond (.s (sl 24))
  (.seq (.reg [⟨(some (sl 25)), none, (.mv (.s (sl 5))), none⟩, ⟨(some (sl 4)), none, (.mv (.s (sl 25))), none⟩])
  .ret)
  .skip))
  (.seq (.seq (.reg [⟨(some (sl 6)), none, (.mv (.c (.int .i64 0))), none⟩])
  (.block 0
  (.loop (.seq (.seq (.reg [⟨(some (sl 26)), none, (.mv (.s (sl 6))), none⟩, ⟨(some (sl 27)), none, (.fld (.s (sl 2)) 0), none⟩, ⟨(some (sl 28)), none, (.ld true (.s (sl 27)) none), none⟩, ⟨(some (sl 29)), none, (.len false (.s (sl 28))), none⟩, ⟨(some (sl 30)), none, (.bin .lss (.s (sl 26)) (.s (sl 29))), none⟩])
  (.cond (.s (sl 30))
  .skip
  (.exit 0)))
  (.seq (.block 1
  (.seq (.reg [⟨(some (sl 33)), none, (.fld (.s (sl 2)) 0), none⟩, ⟨(some (sl 34)), none, (.ld true (.s (sl 33)) none), none⟩, ⟨(some (sl 35)), none, (.mv (.s (sl 6))), none⟩, ⟨(some (sl 36)), none, (.idx true (.s (sl 34)) (.s (sl 35)) 4), none⟩, ⟨(some (sl 37)), none, (.ld true (.s (sl 36)) (some 4)), none⟩, ⟨(some (sl 38)), none, (.call true (.f 26) [(.s (sl 37))]), none⟩, ⟨(some (sl 7)), none, (.mv (.s (sl 38))), none⟩])
  (.seq (.reg [⟨(some (sl 8)), none, (.mv (.c (.int .i64 0))), none⟩])
  (.block 2
  (.loop (.seq (.seq (.reg [⟨(some (sl 39)), none, (.mv (.s (sl 8))), none⟩, ⟨(some (sl 40)), none, (.mv (.s (sl 7))), none⟩, ⟨(some (sl 41)), none, (.len false (.s (sl 40))), none⟩, ⟨(some (sl 42)), none, (.bin .lss (.s (sl 39)) (.s (sl 41))), none⟩, ⟨(some (sl 43)), none, (.mv (.s (sl 42))), none⟩, ⟨(some (sl 44)), (some ((sl 43), true)), (.mv (.s (sl 6))), none⟩, ⟨(some (sl 45)), (some ((sl 43), true)), (.mv (.s (sl 1))), none⟩, ⟨(some (sl 46)), (some ((sl 43), true)), (.bin .neq (.s (sl 44)) (.s (sl 45))), none⟩, ⟨(some (sl 47)), none, (.pick (.s (sl 43)) (.s (sl 46)) (.c (.bool false))), none⟩])
  (.cond (.s (sl 47))
  .skip
  (.exit 2)))
  (.seq (.block 3
  (.seq (.reg [⟨(some (sl 50)), none, (.mv (.s (sl 7))), (some 0)⟩, ⟨(some (sl 51)), none, (.mv (.s (sl 8))), (some 1)⟩, ⟨(some (sl 52)), none, (.idx true (.s (sl 50)) (.s (sl 51)) 1), (some 2)⟩, ⟨(some (sl 53)), none, (.ld true (.s (sl 52)) none), (some 3)⟩, ⟨(some (sl 54)), none, (.fld (.s (sl 2)) 0), (some 4)⟩, ⟨(some (sl 55)), none, (.ld true (.s (sl 54)) none), (some 5)⟩, ⟨(some (sl 56)), none, (.mv (.s (sl 1))), (some 6)⟩, ⟨(some (sl 57)), none, (.idx true (.s (sl 55)) (.s (sl 56)) 4), (some 7)⟩, ⟨(some (sl 58)), none, (.fld (.s (sl 57)) 0), (some 8)⟩, ⟨(some (sl 59)), none, (.ld true (.s (sl 58)) none), (some 9)⟩, ⟨(some (sl 60)), none, (.bin .eql (.s (sl 53)) (.s (sl 59))), (some 10)⟩])
  (.cond (.s (sl 60))
  (.seq (.reg [⟨(some (sl 61)), none, (.mv (.s (sl 5))), none⟩, ⟨(some (sl 4)), none, (.mv (.s (sl 61))), none⟩])
  .ret)
  .skip)))
  (.reg [⟨(some (sl 48)), none, (.mv (.s (sl 8))), none⟩, ⟨(some (sl 49)), none, (.bin .add (.s (sl 48)) (.c (.int .i64 1))), none⟩, ⟨(some (sl 8)), none, (.mv (.s (sl 49))), none⟩]))))))))
  (.reg [⟨(some (sl 31)), none, (.mv (.s (sl 6))), none⟩, ⟨(some (sl 32)), none, (.bin .add (.s (sl 31)) (.c (.int .i64 1))), none⟩, ⟨(some (sl 6)), none, (.mv (.s (sl 32))), none⟩]))))))
  (.seq (.reg [⟨(some (sl 62)), none, (.ld true (.s (sl 2)) (some 2)), none⟩, ⟨(some (sl 9)), none, (.new [(.slice none 0 0), (.slice none 0 0)]), none⟩, ⟨none, none, (.ini 1 (.s (sl 9)) (.s (sl 62)) 2), none⟩])
  (.seq (.reg [⟨(some (sl 63)), none, (.nrow 39 4), (some 0)⟩, ⟨(some (sl 64)), none, (.fld (.s (sl 2)) 0), (some 1)⟩, ⟨(some (sl 65)), none, (.ld true (.s (sl 64)) none), (some 2)⟩, ⟨(some (sl 66)), none, (.mv (.s (sl 1))), (some 3)⟩, ⟨(some (sl 67)), none, (.slc (.s (sl 65)) none (some (.s (sl 66))) 4), (some 4)⟩, ⟨(some (sl 68)), none, (.app 39 4 56 (.s (sl 63)) (.s (sl 67))), none⟩, ⟨(some (sl 69)), none, (.fld (.s (sl 2)) 0), (some 6)⟩, ⟨(some (sl 70)), none, (.ld true (.s (sl 69)) none), (some 7)⟩, ⟨(some (sl 71)), none, (.mv (.s (sl 1))), (some 8)⟩, ⟨(some (sl 72)), none, (.bin .add (.s (sl 71)) (.c (.int .i64 1))), (some 9)⟩, ⟨(some (sl 73)), none, (.slc (.s (sl 70)) (some (.s (sl 72))) none 4), (some 10)⟩, ⟨(some (sl 74)), none, (.app 39 4 56 (.s (sl 68)) (.s (sl 73))), none⟩, ⟨(some (sl 75)), none, (.fld (.s (sl 9)) 0), (some 12)⟩, ⟨none, none, (.st (.s (sl 75)) (.s (sl 74)) 1), none⟩])
  (.seq (.reg [⟨(some (sl 76)), none, (.mv (.s (sl 5))), none⟩, ⟨(some (sl 77)), none, (.mv (.s (sl 76))), none⟩, ⟨(some (sl 78)), (some ((sl 77), true)), (.ld false (.s (sl 9)) (some 2)), none⟩, ⟨(some (sl 79)), (some ((sl 77), true)), (.call false (.f 22) [(.s (sl 78))]), none⟩, ⟨(some (sl 80)), (some ((sl 77), true)), (.bin .eql (.s (sl 79)) (.c (.int .i64 0))), none⟩, ⟨(some (sl 81)), none, (.pick (.s (sl 77)) (.s (sl 80)) (.c (.bool false))), none⟩, ⟨(some (sl 4)), none, (.mv (.s (sl 81))), none⟩])
  .ret)))))))
def r_marlinelaw05_IrLess : List ARes := [(.tmp (sl 4))]
theorem t_marlinelaw05_IrLess : (Try.f8).body.bind (trCode Try.prog 8 (Try.f8).ntmps [9, 68, 74, 75, 78] [(61, 3, 1), (79, 25, 6)] (drOk 8)) = some c_marlinelaw05_IrLess := by kernel_rfl
theorem u_marlinelaw05_IrLess : trRess Try.prog 8 (Try.f8).results.toList = some r_marlinelaw05_IrLess := by kernel_rfl

end Go.Proofs.Ytghlfjpmpalpdaa
