/- The bodies of some functions, as the evaluator has them (printed by program), and that they are the program's own. -/
import Derived.Test.YtndpejmebhcaaaaKE
namespace Go.Proofs.Ytndpejmebhcaaaa
open Go.RowKit

/-- marline/marlinelaw14.InlineMakes -/
def c_marlinelaw14_InlineMakes : ACode :=
  (.seq (.reg [⟨(some (sl 2)), none, (.box true (.s (sl 0))), none⟩, ⟨(some (sl 4)), none, (.mv (.c (.bool false))), none⟩])
  (.seq (.reg [⟨(some (sl 11)), none, (.call true (.f 18) []), none⟩, ⟨(some (sl 5)), none, (.mv (.s (sl 11))), none⟩])
  (.seq (.seq (.reg [⟨(some (sl 6)), none, (.mv (.c (.int .i64 0))), none⟩])
  (.block 0
  (.loop (.seq (.seq (.reg [⟨(some (sl 12)), none, (.mv (.s (sl 6))), none⟩, ⟨(some (sl 13)), none, (.fld (.s (sl 2)) 0), none⟩, ⟨(some (sl 14)), none, (.ld true (.s (sl 13)) none), none⟩, ⟨(some (sl 15)), none, (.len false (.s (sl 14))), none⟩, ⟨(some (sl 16)), none, (.bin .lss (.s (sl 12)) (.s (sl 15))), none⟩, ⟨(some (sl 17)), none, (.mv (.s (sl 16))), none⟩, ⟨(some (sl 18)), (some ((sl 17), true)), (.ld true (.s (sl 2)) (some 2)), none⟩, ⟨(some (sl 19)), (some ((sl 17), true)), (.call true (.f 19) [(.s (sl 18))]), none⟩, ⟨(some (sl 20)), (some ((sl 17), true)), (.bin .eql (.s (sl 19)) (.c (.int .i64 0))), none⟩, ⟨(some (sl 21)), none, (.pick (.s (sl 17)) (.s (sl 20)) (.c (.bool false))), none⟩])
  (.cond (.s (sl 21))
  .skip
  (.exit 0)))
  (.seq (.block 1
  (.seq (.reg [⟨(some (sl 24)), none, (.fld (.s (sl 2)) 0), (some (0, []))⟩, ⟨(some (sl 25)), none, (.ld true (.s (sl 24)) none), (some (1, []))⟩, ⟨(some (sl 26)), none, (.mv (.s (sl 6))), (some (2, []))⟩, ⟨(some (sl 27)), none, (.idx true (.s (sl 25)) (.s (sl 26)) 4), (some (3, []))⟩, ⟨(some (sl 28)), none, (.ld true (.s (sl 27)) (some 4)), (some (4, []))⟩, ⟨(some (sl 29)), none, (.mv (.s (sl 1))), (some (5, []))⟩, ⟨(some (sl 30)), none, (.call true (.f 20) [(.s (sl 28)), (.s (sl 29))]), (some (6, []))⟩, ⟨(some (sl 31)), none, (.fld (.s (sl 2)) 0), (some (7, []))⟩, ⟨(some (sl 32)), none, (.ld true (.s (sl 31)) none), (some (8, []))⟩, ⟨(some (sl 33)), none, (.mv (.s (sl 6))), (some (9, []))⟩, ⟨(some (sl 34)), none, (.idx true (.s (sl 32)) (.s (sl 33)) 4), (some (10, []))⟩, ⟨(some (sl 35)), none, (.ld true (.s (sl 34)) (some 4)), (some (11, []))⟩, ⟨(some (sl 36)), none, (.mv (.s (sl 1))), (some (12, []))⟩, ⟨(some (sl 37)), none, (.call true (.f 21) [(.s (sl 35)), (.s (sl 36))]), (some (13, []))⟩, ⟨(some (sl 38)), none, (.binb .neq (.s (sl 30)) (.s (sl 37))), (some (14, []))⟩])
  (.cond (.s (sl 38))
  (.seq (.reg [⟨(some (sl 4)), none, (.mv (.c (.bool false))), none⟩])
  .ret)
  .skip)))
  (.reg [⟨(some (sl 22)), none, (.mv (.s (sl 6))), none⟩, ⟨(some (sl 23)), none, (.bin .add (.s (sl 22)) (.c (.int .i64 1))), none⟩, ⟨(some (sl 6)), none, (.mv (.s (sl 23))), none⟩]))))))
  (.seq (.reg [⟨(some (sl 39)), none, (.ld true (.s (sl 2)) (some 2)), none⟩, ⟨(some (sl 40)), none, (.call true (.f 19) [(.s (sl 39))]), none⟩, ⟨(some (sl 41)), none, (.bin .eql (.s (sl 40)) (.c (.int .i64 0))), none⟩, ⟨(some (sl 7)), none, (.mv (.s (sl 41))), none⟩])
  (.seq (.seq (.reg [⟨(some (sl 8)), none, (.mv (.c (.int .i64 0))), none⟩])
  (.block 2
  (.loop (.seq (.seq (.reg [⟨(some (sl 42)), none, (.mv (.s (sl 8))), none⟩, ⟨(some (sl 43)), none, (.fld (.s (sl 2)) 0), none⟩, ⟨(some (sl 44)), none, (.ld true (.s (sl 43)) none), none⟩, ⟨(some (sl 45)), none, (.len false (.s (sl 44))), none⟩, ⟨(some (sl 46)), none, (.bin .lss (.s (sl 42)) (.s (sl 45))), none⟩])
  (.cond (.s (sl 46))
  .skip
  (.exit 2)))
  (.seq (.block 3
  (.seq (.reg [⟨(some (sl 9)), none, (.mv (.c (.int .i64 0))), none⟩])
  (.block 4
  (.loop (.seq (.seq (.reg [⟨(some (sl 49)), none, (.mv (.s (sl 9))), none⟩, ⟨(some (sl 50)), none, (.fld (.s (sl 2)) 0), none⟩, ⟨(some (sl 51)), none, (.ld true (.s (sl 50)) none), none⟩, ⟨(some (sl 52)), none, (.mv (.s (sl 8))), none⟩, ⟨(some (sl 53)), none, (.idx true (.s (sl 51)) (.s (sl 52)) 4), none⟩, ⟨(some (sl 54)), none, (.fld (.s (sl 53)) 3), none⟩, ⟨(some (sl 55)), none, (.ld true (.s (sl 54)) none), none⟩, ⟨(some (sl 56)), none, (.len false (.s (sl 55))), none⟩, ⟨(some (sl 57)), none, (.bin .lss (.s (sl 49)) (.s (sl 56))), none⟩, ⟨(some (sl 58)), none, (.mv (.s (sl 57))), none⟩, ⟨(some (sl 59)), (some ((sl 58), true)), (.mv (.s (sl 7))), none⟩, ⟨(some (sl 60)), none, (.pick (.s (sl 58)) (.s (sl 59)) (.c (.bool false))), none⟩])
  (.cond (.s (sl 60))
  .skip
  (.exit 4)))
  (.seq (.block 5
  (.seq (.reg [⟨(some (sl 63)), none, (.fld (.s (sl 2)) 0), (some (0, []))⟩, ⟨(some (sl 64)), none, (.ld true (.s (sl 63)) none), (some (1, []))⟩, ⟨(some (sl 65)), none, (.mv (.s (sl 8))), (some (2, []))⟩, ⟨(some (sl 66)), none, (.idx true (.s (sl 64)) (.s (sl 65)) 4), (some (3, []))⟩, ⟨(some (sl 67)), none, (.fld (.s (sl 66)) 3), (some (4, []))⟩, ⟨(some (sl 68)), none, (.ld true (.s (sl 67)) none), (some (5, []))⟩, ⟨(some (sl 69)), none, (.mv (.s (sl 9))), (some (6, []))⟩, ⟨(some (sl 70)), none, (.idx true (.s (sl 68)) (.s (sl 69)) 8), (some (7, []))⟩, ⟨(some (sl 71)), none, (.ld true (.s (sl 70)) (some 8)), (some (8, []))⟩, ⟨(some (sl 72)), none, (.ld true (.s (sl 2)) (some 2)), (some (9, []))⟩, ⟨(some (sl 73)), none, (.mv (.s (sl 1))), (some (10, []))⟩, ⟨(some (sl 74)), none, (.call true (.f 23) [(.s (sl 71)), (.s (sl 72)), (.s (sl 73))]), (some (11, []))⟩, ⟨(some (sl 75)), none, (.fld (.s (sl 2)) 0), (some (12, []))⟩, ⟨(some (sl 76)), none, (.ld true (.s (sl 75)) none), (some (13, []))⟩, ⟨(some (sl 77)), none, (.mv (.s (sl 8))), (some (14, []))⟩, ⟨(some (sl 78)), none, (.idx true (.s (sl 76)) (.s (sl 77)) 4), (some (15, []))⟩, ⟨(some (sl 79)), none, (.fld (.s (sl 78)) 3), (some (16, []))⟩, ⟨(some (sl 80)), none, (.ld true (.s (sl 79)) none), (some (17, []))⟩, ⟨(some (sl 81)), none, (.mv (.s (sl 9))), (some (18, []))⟩, ⟨(some (sl 82)), none, (.idx true (.s (sl 80)) (.s (sl 81)) 8), (some (19, []))⟩, ⟨(some (sl 83)), none, (.ld true (.s (sl 82)) (some 8)), (some (20, []))⟩, ⟨(some (sl 84)), none, (.ld true (.s (sl 2)) (some 2)), (some (21, []))⟩, ⟨(some (sl 85)), none, (.mv (.s (sl 1))), (some (22, []))⟩, ⟨(some (sl 86)), none, (.call true (.f 24) [(.s (sl 83)), (.s (sl 84)), (.s (sl 85))]), (some (23, []))⟩, ⟨(some (sl 87)), none, (.call true (.f 22) [(.s (sl 74)), (.s (sl 86))]), (some (24, []))⟩, ⟨(some (sl 10)), none, (.mv (.s (sl 87))), (some (25, []))⟩])
  (.seq (.reg [⟨(some (sl 88)), none, (.mv (.s (sl 10))), none⟩, ⟨(some (sl 89)), none, (.not (.s (sl 88))), none⟩])
  (.cond (.s (sl 89))
  (.seq (.reg [⟨(some (sl 4)), none, (.mv (.c (.bool false))), none⟩])
  .ret)
  .skip))))
  (.reg [⟨(some (sl 61)), none, (.mv (.s (sl 9))), none⟩, ⟨(some (sl 62)), none, (.bin .add (.s (sl 61)) (.c (.int .i64 1))), none⟩, ⟨(some (sl 9)), none, (.mv (.s (sl 62))), none⟩])))))))
  (.reg [⟨(some (sl 47)), none, (.mv (.s (sl 8))), none⟩, ⟨(some (sl 48)), none, (.bin .add (.s (sl 47)) (.c (.int .i64 1))), none⟩, ⟨(some (sl 8)), none, (.mv (.s (sl 48))), none⟩]))))))
  (.seq (.reg [⟨(some (sl 90)), none, (.mv (.s (sl 5))), (some (0, []))⟩, ⟨(some (sl 91)), none, (.mv (.s (sl 90))), (some (1, []))⟩, ⟨(some (sl 92)), (some ((sl 91), true)), (.ld true (.s (sl 2)) (some 2)), (some (2, []))⟩, ⟨(some (sl 93)), (some ((sl 91), true)), (.mv (.s (sl 1))), (some (3, []))⟩, ⟨(some (sl 94)), (some ((sl 91), true)), (.call true (.f 26) [(.s (sl 92)), (.s (sl 93))]), (some (4, []))⟩, ⟨(some (sl 95)), (some ((sl 91), true)), (.ld true (.s (sl 2)) (some 2)), (some (5, []))⟩, ⟨(some (sl 96)), (some ((sl 91), true)), (.mv (.s (sl 1))), (some (6, []))⟩, ⟨(some (sl 97)), (some ((sl 91), true)), (.call true (.f 27) [(.s (sl 95)), (.s (sl 96))]), (some (7, []))⟩, ⟨(some (sl 98)), (some ((sl 91), true)), (.call true (.f 25) [(.s (sl 94)), (.s (sl 97))]), (some (8, []))⟩, ⟨(some (sl 99)), none, (.pick (.s (sl 91)) (.s (sl 98)) (.c (.bool false))), (some (9, []))⟩, ⟨(some (sl 4)), none, (.mv (.s (sl 99))), (some (10, []))⟩])
  .ret))))))
def r_marlinelaw14_InlineMakes : List ARes := [(.tmp (sl 4))]
theorem t_marlinelaw14_InlineMakes : (Try.f3).body.bind (trCode Try.prog 8 (Try.f3).ntmps [] [] (drOk 8)) = some c_marlinelaw14_InlineMakes := by kernel_rfl
theorem u_marlinelaw14_InlineMakes : trRess Try.prog 8 (Try.f3).results.toList = some r_marlinelaw14_InlineMakes := by kernel_rfl

/-- marline/marlinelaw14.InlineRight -/
def c_marlinelaw14_InlineRight : ACode :=
  (.seq (.reg [⟨(some (sl 2)), none, (.box true (.s (sl 0))), none⟩, ⟨(some (sl 4)), none, (.mv (.c (.bool false))), none⟩])
  (.seq (.reg [⟨(some (sl 7)), none, (.call true (.f 18) []), none⟩, ⟨(some (sl 5)), none, (.mv (.s (sl 7))), none⟩])
  (.seq (.seq (.reg [⟨(some (sl 8)), none, (.ld true (.s (sl 2)) (some 2)), none⟩, ⟨(some (sl 9)), none, (.call true (.f 19) [(.s (sl 8))]), none⟩, ⟨(some (sl 10)), none, (.bin .neq (.s (sl 9)) (.c (.int .i64 0))), none⟩])
  (.cond (.s (sl 10))
  (.seq (.reg [⟨(some (sl 11)), none, (.mv (.s (sl 5))), none⟩, ⟨(some (sl 4)), none, (.mv (.s (sl 11))), none⟩])
  .ret)
  .skip))
  (.seq (.seq (.reg [⟨(some (sl 12)), none, (.ld true (.s (sl 2)) (some 2)), none⟩, ⟨(some (sl 13)), none, (.mv (.s (sl 1))), none⟩, ⟨(some (sl 14)), none, (.call true (.f 26) [(.s (sl 12)), (.s (sl 13))]), none⟩, ⟨(some (sl 6)), none, (.new [(.slice none 0 0), (.slice none 0 0)]), none⟩, ⟨none, none, (.ini 1 (.s (sl 6)) (.s (sl 14)) 2), none⟩])
  (.frz (sl 6)))
  (.seq (.reg [⟨(some (sl 15)), none, (.mv (.s (sl 5))), none⟩, ⟨(some (sl 16)), none, (.mv (.s (sl 15))), none⟩, ⟨(some (sl 17)), (some ((sl 16), true)), (.ld true (.s (sl 6)) (some 2)), none⟩, ⟨(some (sl 18)), (some ((sl 16), true)), (.call true (.f 19) [(.s (sl 17))]), none⟩, ⟨(some (sl 19)), (some ((sl 16), true)), (.bin .eql (.s (sl 18)) (.c (.int .i64 0))), none⟩, ⟨(some (sl 20)), none, (.pick (.s (sl 16)) (.s (sl 19)) (.c (.bool false))), none⟩, ⟨(some (sl 21)), none, (.mv (.s (sl 20))), none⟩, ⟨(some (sl 22)), (some ((sl 21), true)), (.ld true (.s (sl 2)) (some 2)), none⟩, ⟨(some (sl 23)), (some ((sl 21), true)), (.call true (.f 28) [(.s (sl 22))]), none⟩, ⟨(some (sl 24)), (some ((sl 21), true)), (.bin .neq (.s (sl 23)) (.c (.int .i64 0))), none⟩, ⟨(some (sl 25)), (some ((sl 21), true)), (.mv (.s (sl 24))), none⟩, ⟨(some (sl 26)), (some ((sl 25), false)), (.ld true (.s (sl 6)) (some 2)), none⟩, ⟨(some (sl 27)), (some ((sl 25), false)), (.call true (.f 28) [(.s (sl 26))]), none⟩, ⟨(some (sl 28)), (some ((sl 25), false)), (.bin .eql (.s (sl 27)) (.c (.int .i64 0))), none⟩, ⟨(some (sl 29)), (some ((sl 21), true)), (.pick (.s (sl 25)) (.c (.bool true)) (.s (sl 28))), none⟩, ⟨(some (sl 30)), none, (.pick (.s (sl 21)) (.s (sl 29)) (.c (.bool false))), none⟩, ⟨(some (sl 4)), none, (.mv (.s (sl 30))), none⟩])
  .ret)))))
def r_marlinelaw14_InlineRight : List ARes := [(.tmp (sl 4))]
theorem t_marlinelaw14_InlineRight : (Try.f4).body.bind (trCode Try.prog 8 (Try.f4).ntmps [] [] (drOk 8)) = some c_marlinelaw14_InlineRight := by kernel_rfl
theorem u_marlinelaw14_InlineRight : trRess Try.prog 8 (Try.f4).results.toList = some r_marlinelaw14_InlineRight := by kernel_rfl

/-- marline/marlinelaw14.InlineRuns -/
def c_marlinelaw14_InlineRuns : ACode :=
  (.seq (.reg [⟨(some (sl 1)), none, (.box true (.s (sl 0))), none⟩, ⟨(some (sl 2)), none, (.mv (.c (.bool false))), none⟩])
  (.seq (.seq (.reg [⟨(some (sl 13)), none, (.fld (.s (sl 1)) 0), none⟩, ⟨(some (sl 14)), none, (.ld true (.s (sl 13)) (some 2)), none⟩, ⟨(some (sl 3)), none, (.new [(.slice none 0 0), (.slice none 0 0)]), none⟩, ⟨none, none, (.ini 1 (.s (sl 3)) (.s (sl 14)) 2), none⟩])
  (.frz (sl 3)))
  (.seq (.reg [⟨(some (sl 15)), none, (.fld (.s (sl 1)) 2), none⟩, ⟨(some (sl 16)), none, (.ld true (.s (sl 15)) none), none⟩, ⟨(some (sl 4)), none, (.mv (.s (sl 16))), none⟩])
  (.seq (.reg [⟨(some (sl 17)), none, (.fld (.s (sl 1)) 3), none⟩, ⟨(some (sl 18)), none, (.ld true (.s (sl 17)) none), none⟩, ⟨(some (sl 5)), none, (.mv (.s (sl 18))), none⟩])
  (.seq (.reg [⟨(some (sl 19)), none, (.fld (.s (sl 1)) 4), none⟩, ⟨(some (sl 20)), none, (.ld true (.s (sl 19)) none), none⟩, ⟨(some (sl 6)), none, (.mv (.s (sl 20))), none⟩])
  (.seq (.reg [⟨(some (sl 21)), none, (.fld (.s (sl 1)) 5), none⟩, ⟨(some (sl 22)), none, (.ld true (.s (sl 21)) none), none⟩, ⟨(some (sl 7)), none, (.mv (.s (sl 22))), none⟩])
  (.seq (.reg [⟨(some (sl 23)), none, (.call true (.f 18) []), none⟩, ⟨(some (sl 8)), none, (.mv (.s (sl 23))), none⟩])
  (.seq (.seq (.reg [⟨(some (sl 24)), none, (.ld true (.s (sl 3)) (some 2)), none⟩, ⟨(some (sl 25)), none, (.call true (.f 28) [(.s (sl 24))]), none⟩, ⟨(some (sl 26)), none, (.bin .neq (.s (sl 25)) (.c (.int .i64 0))), none⟩, ⟨(some (sl 27)), none, (.mv (.s (sl 26))), none⟩, ⟨(some (sl 28)), (some ((sl 27), false)), (.mv (.s (sl 6))), none⟩, ⟨(some (sl 29)), (some ((sl 27), false)), (.bin .lss (.s (sl 28)) (.c (.int .i64 0))), none⟩, ⟨(some (sl 30)), none, (.pick (.s (sl 27)) (.c (.bool true)) (.s (sl 29))), none⟩, ⟨(some (sl 31)), none, (.mv (.s (sl 30))), none⟩, ⟨(some (sl 32)), (some ((sl 31), false)), (.mv (.s (sl 6))), none⟩, ⟨(some (sl 33)), (some ((sl 31), false)), (.bin .gtr (.s (sl 32)) (.c (.int .i64 1000))), none⟩, ⟨(some (sl 34)), none, (.pick (.s (sl 31)) (.c (.bool true)) (.s (sl 33))), none⟩, ⟨(some (sl 35)), none, (.mv (.s (sl 34))), none⟩, ⟨(some (sl 36)), (some ((sl 35), false)), (.mv (.s (sl 7))), none⟩, ⟨(some (sl 37)), (some ((sl 35), false)), (.bin .lss (.s (sl 36)) (.c (.int .i64 1))), none⟩, ⟨(some (sl 38)), none, (.pick (.s (sl 35)) (.c (.bool true)) (.s (sl 37))), none⟩, ⟨(some (sl 39)), none, (.mv (.s (sl 38))), none⟩, ⟨(some (sl 40)), (some ((sl 39), false)), (.mv (.s (sl 7))), none⟩, ⟨(some (sl 41)), (some ((sl 39), false)), (.bin .gtr (.s (sl 40)) (.c (.int .i64 20))), none⟩, ⟨(some (sl 42)), none, (.pick (.s (sl 39)) (.c (.bool true)) (.s (sl 41))), none⟩])
  (.cond (.s (sl 42))
  (.seq (.reg [⟨(some (sl 43)), none, (.mv (.s (sl 8))), none⟩, ⟨(some (sl 2)), none, (.mv (.s (sl 43))), none⟩])
  .ret)
  .skip))
  (.seq (.seq (.reg [⟨(some (sl 45)), none, (.ld true (.s (sl 3)) (some 2)), none⟩, ⟨(some (sl 46)), none, (.mv (.s (sl 5))), none⟩, ⟨(some (sl 47)), none, (.mv (.s (sl 6))), none⟩, ⟨(some (sl 48)), none, (.mv (.s (sl 7))), none⟩, ⟨(some (sl 49)), none, (.call true (.f 29) [(.s (sl 45)), (.s (sl 46)), (.s (sl 47)), (.s (sl 48))]), none⟩, ⟨(some (sl 44)), none, (.mv (.s (sl 49))), none⟩, ⟨(some (sl 50)), none, (.ext (.s (sl 44)) 0), none⟩, ⟨(some (sl 51)), none, (.ext (.s (sl 44)) 1), none⟩, ⟨(some (sl 9)), none, (.new [(.bool false), (.int .u64 0), (.string ⟨#[]⟩), (.int .i64 0), (.int .i64 0), (.int .i64 0)]), none⟩, ⟨none, none, (.ini 1 (.s (sl 9)) (.s (sl 50)) 6), none⟩, ⟨(some (sl 10)), none, (.mv (.s (sl 51))), none⟩])
  (.frz (sl 9)))
  (.seq (.seq (.reg [⟨(some (sl 52)), none, (.mv (.s (sl 10))), none⟩, ⟨(some (sl 53)), none, (.bin .neq (.s (sl 52)) (.c (.int .i64 0))), none⟩])
  (.cond (.s (sl 53))
  (.seq (.reg [⟨(some (sl 54)), none, (.mv (.s (sl 8))), none⟩, ⟨(some (sl 2)), none, (.mv (.s (sl 54))), none⟩])
  .ret)
  .skip))
  (.seq (.seq (.reg [⟨(some (sl 56)), none, (.ld true (.s (sl 3)) (some 2)), none⟩, ⟨(some (sl 57)), none, (.mv (.s (sl 4))), none⟩, ⟨(some (sl 58)), none, (.call true (.f 26) [(.s (sl 56)), (.s (sl 57))]), none⟩, ⟨(some (sl 59)), none, (.mv (.s (sl 5))), none⟩, ⟨(some (sl 60)), none, (.mv (.s (sl 6))), none⟩, ⟨(some (sl 61)), none, (.mv (.s (sl 7))), none⟩, ⟨(some (sl 62)), none, (.call true (.f 29) [(.s (sl 58)), (.s (sl 59)), (.s (sl 60)), (.s (sl 61))]), none⟩, ⟨(some (sl 55)), none, (.mv (.s (sl 62))), none⟩, ⟨(some (sl 63)), none, (.ext (.s (sl 55)) 0), none⟩, ⟨(some (sl 64)), none, (.ext (.s (sl 55)) 1), none⟩, ⟨(some (sl 11)), none, (.new [(.bool false), (.int .u64 0), (.string ⟨#[]⟩), (.int .i64 0), (.int .i64 0), (.int .i64 0)]), none⟩, ⟨none, none, (.ini 1 (.s (sl 11)) (.s (sl 63)) 6), none⟩, ⟨(some (sl 12)), none, (.mv (.s (sl 64))), none⟩])
  (.frz (sl 11)))
  (.seq (.reg [⟨(some (sl 65)), none, (.mv (.s (sl 8))), none⟩, ⟨(some (sl 66)), none, (.mv (.s (sl 65))), none⟩, ⟨(some (sl 67)), (some ((sl 66), true)), (.mv (.s (sl 12))), none⟩, ⟨(some (sl 68)), (some ((sl 66), true)), (.bin .eql (.s (sl 67)) (.c (.int .i64 0))), none⟩, ⟨(some (sl 69)), none, (.pick (.s (sl 66)) (.s (sl 68)) (.c (.bool false))), none⟩, ⟨(some (sl 70)), none, (.mv (.s (sl 69))), none⟩, ⟨(some (sl 71)), (some ((sl 70), true)), (.fld (.s (sl 11)) 0), none⟩, ⟨(some (sl 72)), (some ((sl 70), true)), (.ld true (.s (sl 71)) none), none⟩, ⟨(some (sl 73)), none, (.pick (.s (sl 70)) (.s (sl 72)) (.c (.bool false))), none⟩, ⟨(some (sl 74)), none, (.mv (.s (sl 73))), none⟩, ⟨(some (sl 75)), (some ((sl 74), true)), (.fld (.s (sl 9)) 1), none⟩, ⟨(some (sl 76)), (some ((sl 74), true)), (.ld true (.s (sl 75)) none), none⟩, ⟨(some (sl 77)), (some ((sl 74), true)), (.fld (.s (sl 11)) 1), none⟩, ⟨(some (sl 78)), (some ((sl 74), true)), (.ld true (.s (sl 77)) none), none⟩, ⟨(some (sl 79)), (some ((sl 74), true)), (.bin .eql (.s (sl 76)) (.s (sl 78))), none⟩, ⟨(some (sl 80)), none, (.pick (.s (sl 74)) (.s (sl 79)) (.c (.bool false))), none⟩, ⟨(some (sl 81)), none, (.mv (.s (sl 80))), none⟩, ⟨(some (sl 82)), (some ((sl 81), true)), (.fld (.s (sl 9)) 2), none⟩, ⟨(some (sl 83)), (some ((sl 81), true)), (.ld true (.s (sl 82)) none), none⟩, ⟨(some (sl 84)), (some ((sl 81), true)), (.fld (.s (sl 11)) 2), none⟩, ⟨(some (sl 85)), (some ((sl 81), true)), (.ld true (.s (sl 84)) none), none⟩, ⟨(some (sl 86)), (some ((sl 81), true)), (.bin .eql (.s (sl 83)) (.s (sl 85))), none⟩, ⟨(some (sl 87)), none, (.pick (.s (sl 81)) (.s (sl 86)) (.c (.bool false))), none⟩, ⟨(some (sl 88)), none, (.mv (.s (sl 87))), none⟩, ⟨(some (sl 89)), (some ((sl 88), true)), (.fld (.s (sl 9)) 3), none⟩, ⟨(some (sl 90)), (some ((sl 88), true)), (.ld true (.s (sl 89)) none), none⟩, ⟨(some (sl 91)), (some ((sl 88), true)), (.fld (.s (sl 11)) 3), none⟩, ⟨(some (sl 92)), (some ((sl 88), true)), (.ld true (.s (sl 91)) none), none⟩, ⟨(some (sl 93)), (some ((sl 88), true)), (.bin .eql (.s (sl 90)) (.s (sl 92))), none⟩, ⟨(some (sl 94)), none, (.pick (.s (sl 88)) (.s (sl 93)) (.c (.bool false))), none⟩, ⟨(some (sl 95)), none, (.mv (.s (sl 94))), none⟩, ⟨(some (sl 96)), (some ((sl 95), true)), (.fld (.s (sl 11)) 4), none⟩, ⟨(some (sl 97)), (some ((sl 95), true)), (.ld true (.s (sl 96)) none), none⟩, ⟨(some (sl 98)), (some ((sl 95), true)), (.fld (.s (sl 9)) 4), none⟩, ⟨(some (sl 99)), (some ((sl 95), true)), (.ld true (.s (sl 98)) none), none⟩, ⟨(some (sl 100)), (some ((sl 95), true)), (.bin .leq (.s (sl 97)) (.s (sl 99))), none⟩, ⟨(some (sl 101)), none, (.pick (.s (sl 95)) (.s (sl 100)) (.c (.bool false))), none⟩, ⟨(some (sl 102)), none, (.mv (.s (sl 101))), none⟩, ⟨(some (sl 103)), (some ((sl 102), true)), (.fld (.s (sl 11)) 5), none⟩, ⟨(some (sl 104)), (some ((sl 102), true)), (.ld true (.s (sl 103)) none), none⟩, ⟨(some (sl 105)), (some ((sl 102), true)), (.fld (.s (sl 9)) 5), none⟩, ⟨(some (sl 106)), (some ((sl 102), true)), (.ld true (.s (sl 105)) none), none⟩, ⟨(some (sl 107)), (some ((sl 102), true)), (.bin .leq (.s (sl 104)) (.s (sl 106))), none⟩, ⟨(some (sl 108)), none, (.pick (.s (sl 102)) (.s (sl 107)) (.c (.bool false))), none⟩, ⟨(some (sl 2)), none, (.mv (.s (sl 108))), none⟩])
  .ret))))))))))))
def r_marlinelaw14_InlineRuns : List ARes := [(.tmp (sl 2))]
theorem t_marlinelaw14_InlineRuns : (Try.f5).body.bind (trCode Try.prog 8 (Try.f5).ntmps [] [] (drOk 8)) = some c_marlinelaw14_InlineRuns := by kernel_rfl
theorem u_marlinelaw14_InlineRuns : trRess Try.prog 8 (Try.f5).results.toList = some r_marlinelaw14_InlineRuns := by kernel_rfl

/-- marline/marlinelaw14.InlineNone -/
def c_marlinelaw14_InlineNone : ACode :=
  (.seq (.reg [⟨(some (sl 2)), none, (.box true (.s (sl 0))), none⟩, ⟨(some (sl 4)), none, (.mv (.c (.bool false))), none⟩])
  (.seq (.reg [⟨(some (sl 6)), none, (.call true (.f 18) []), none⟩, ⟨(some (sl 5)), none, (.mv (.s (sl 6))), none⟩])
  (.seq (.seq (.reg [⟨(some (sl 7)), none, (.mv (.s (sl 1))), none⟩, ⟨(some (sl 8)), none, (.bin .geq (.s (sl 7)) (.c (.int .i64 0))), none⟩])
  (.cond (.s (sl 8))
  (.seq (.reg [⟨(some (sl 9)), none, (.mv (.s (sl 5))), none⟩, ⟨(some (sl 4)), none, (.mv (.s (sl 9))), none⟩])
  .ret)
  .skip))
  (.seq (.reg [⟨(some (sl 10)), none, (.mv (.s (sl 5))), (some (0, []))⟩, ⟨(some (sl 11)), none, (.mv (.s (sl 10))), (some (1, []))⟩, ⟨(some (sl 12)), (some ((sl 11), true)), (.ld true (.s (sl 2)) (some 2)), (some (2, []))⟩, ⟨(some (sl 13)), (some ((sl 11), true)), (.mv (.s (sl 1))), (some (3, []))⟩, ⟨(some (sl 14)), (some ((sl 11), true)), (.call true (.f 26) [(.s (sl 12)), (.s (sl 13))]), (some (4, []))⟩, ⟨(some (sl 15)), (some ((sl 11), true)), (.ld true (.s (sl 2)) (some 2)), (some (5, []))⟩, ⟨(some (sl 16)), (some ((sl 11), true)), (.call true (.f 25) [(.s (sl 14)), (.s (sl 15))]), (some (6, []))⟩, ⟨(some (sl 17)), none, (.pick (.s (sl 11)) (.s (sl 16)) (.c (.bool false))), (some (7, []))⟩, ⟨(some (sl 4)), none, (.mv (.s (sl 17))), (some (8, []))⟩])
  .ret))))
def r_marlinelaw14_InlineNone : List ARes := [(.tmp (sl 4))]
theorem t_marlinelaw14_InlineNone : (Try.f6).body.bind (trCode Try.prog 8 (Try.f6).ntmps [] [] (drOk 8)) = some c_marlinelaw14_InlineNone := by kernel_rfl
theorem u_marlinelaw14_InlineNone : trRess Try.prog 8 (Try.f6).results.toList = some r_marlinelaw14_InlineNone := by kernel_rfl

/-- marline/marlinelaw14.InlineLeaves -/
def c_marlinelaw14_InlineLeaves : ACode :=
  (.seq (.reg [⟨(some (sl 2)), none, (.box true (.s (sl 0))), none⟩, ⟨(some (sl 4)), none, (.mv (.c (.bool false))), none⟩])
  (.seq (.reg [⟨(some (sl 9)), none, (.call true (.f 18) []), none⟩, ⟨(some (sl 5)), none, (.mv (.s (sl 9))), none⟩])
  (.seq (.seq (.reg [⟨(some (sl 10)), none, (.ld true (.s (sl 2)) (some 2)), none⟩, ⟨(some (sl 11)), none, (.mv (.s (sl 1))), none⟩, ⟨(some (sl 12)), none, (.call true (.f 26) [(.s (sl 10)), (.s (sl 11))]), none⟩, ⟨(some (sl 6)), none, (.new [(.slice none 0 0), (.slice none 0 0)]), none⟩, ⟨none, none, (.ini 1 (.s (sl 6)) (.s (sl 12)) 2), none⟩])
  (.frz (sl 6)))
  (.seq (.seq (.reg [⟨(some (sl 13)), none, (.fld (.s (sl 6)) 0), none⟩, ⟨(some (sl 14)), none, (.ld true (.s (sl 13)) none), none⟩, ⟨(some (sl 15)), none, (.len false (.s (sl 14))), none⟩, ⟨(some (sl 16)), none, (.fld (.s (sl 2)) 0), none⟩, ⟨(some (sl 17)), none, (.ld true (.s (sl 16)) none), none⟩, ⟨(some (sl 18)), none, (.len false (.s (sl 17))), none⟩, ⟨(some (sl 19)), none, (.bin .neq (.s (sl 15)) (.s (sl 18))), none⟩])
  (.cond (.s (sl 19))
  (.seq (.reg [⟨(some (sl 4)), none, (.mv (.c (.bool false))), none⟩])
  .ret)
  .skip))
  (.seq (.seq (.reg [⟨(some (sl 20)), none, (.ld true (.s (sl 2)) (some 2)), none⟩, ⟨(some (sl 21)), none, (.call true (.f 19) [(.s (sl 20))]), none⟩, ⟨(some (sl 22)), none, (.bin .neq (.s (sl 21)) (.c (.int .i64 0))), none⟩])
  (.cond (.s (sl 22))
  (.seq (.reg [⟨(some (sl 23)), none, (.mv (.s (sl 5))), none⟩, ⟨(some (sl 4)), none, (.mv (.s (sl 23))), none⟩])
  .ret)
  .skip))
  (.seq (.seq (.reg [⟨(some (sl 7)), none, (.mv (.c (.int .i64 0))), none⟩])
  (.block 0
  (.loop (.seq (.seq (.reg [⟨(some (sl 24)), none, (.mv (.s (sl 7))), none⟩, ⟨(some (sl 25)), none, (.fld (.s (sl 2)) 0), none⟩, ⟨(some (sl 26)), none, (.ld true (.s (sl 25)) none), none⟩, ⟨(some (sl 27)), none, (.len false (.s (sl 26))), none⟩, ⟨(some (sl 28)), none, (.bin .lss (.s (sl 24)) (.s (sl 27))), none⟩])
  (.cond (.s (sl 28))
  .skip
  (.exit 0)))
  (.seq (.block 1
  (.seq (.reg [⟨(some (sl 31)), none, (.fld (.s (sl 6)) 0), (some (0, []))⟩, ⟨(some (sl 32)), none, (.ld true (.s (sl 31)) none), (some (1, []))⟩, ⟨(some (sl 33)), none, (.mv (.s (sl 7))), (some (2, []))⟩, ⟨(some (sl 34)), none, (.idx true (.s (sl 32)) (.s (sl 33)) 4), (some (3, []))⟩, ⟨(some (sl 35)), none, (.ld true (.s (sl 34)) (some 4)), (some (4, []))⟩, ⟨(some (sl 36)), none, (.fld (.s (sl 2)) 0), (some (5, []))⟩, ⟨(some (sl 37)), none, (.ld true (.s (sl 36)) none), (some (6, []))⟩, ⟨(some (sl 38)), none, (.mv (.s (sl 7))), (some (7, []))⟩, ⟨(some (sl 39)), none, (.idx true (.s (sl 37)) (.s (sl 38)) 4), (some (8, []))⟩, ⟨(some (sl 40)), none, (.ld true (.s (sl 39)) (some 4)), (some (9, []))⟩, ⟨(some (sl 41)), none, (.call true (.f 30) [(.s (sl 35)), (.s (sl 40))]), (some (10, []))⟩, ⟨(some (sl 8)), none, (.mv (.s (sl 41))), (some (11, []))⟩])
  (.seq (.seq (.reg [⟨(some (sl 42)), none, (.fld (.s (sl 2)) 0), none⟩, ⟨(some (sl 43)), none, (.ld true (.s (sl 42)) none), none⟩, ⟨(some (sl 44)), none, (.mv (.s (sl 7))), none⟩, ⟨(some (sl 45)), none, (.idx true (.s (sl 43)) (.s (sl 44)) 4), none⟩, ⟨(some (sl 46)), none, (.ld true (.s (sl 45)) (some 4)), none⟩, ⟨(some (sl 47)), none, (.mv (.s (sl 1))), none⟩, ⟨(some (sl 48)), none, (.call true (.f 20) [(.s (sl 46)), (.s (sl 47))]), none⟩, ⟨(some (sl 49)), none, (.mv (.s (sl 48))), none⟩, ⟨(some (sl 50)), (some ((sl 49), true)), (.mv (.s (sl 8))), none⟩, ⟨(some (sl 51)), (some ((sl 49), true)), (.not (.s (sl 50))), none⟩, ⟨(some (sl 52)), none, (.pick (.s (sl 49)) (.s (sl 51)) (.c (.bool false))), none⟩])
  (.cond (.s (sl 52))
  (.seq (.reg [⟨(some (sl 4)), none, (.mv (.c (.bool false))), none⟩])
  .ret)
  .skip))
  (.seq (.reg [⟨(some (sl 53)), none, (.fld (.s (sl 6)) 0), (some (0, []))⟩, ⟨(some (sl 54)), none, (.ld true (.s (sl 53)) none), (some (1, []))⟩, ⟨(some (sl 55)), none, (.mv (.s (sl 7))), (some (2, []))⟩, ⟨(some (sl 56)), none, (.idx true (.s (sl 54)) (.s (sl 55)) 4), (some (3, []))⟩, ⟨(some (sl 57)), none, (.fld (.s (sl 56)) 3), (some (4, []))⟩, ⟨(some (sl 58)), none, (.ld true (.s (sl 57)) none), (some (5, []))⟩, ⟨(some (sl 59)), none, (.len false (.s (sl 58))), (some (6, []))⟩, ⟨(some (sl 60)), none, (.fld (.s (sl 2)) 0), (some (7, []))⟩, ⟨(some (sl 61)), none, (.ld true (.s (sl 60)) none), (some (8, []))⟩, ⟨(some (sl 62)), none, (.mv (.s (sl 7))), (some (9, []))⟩, ⟨(some (sl 63)), none, (.idx true (.s (sl 61)) (.s (sl 62)) 4), (some (10, []))⟩, ⟨(some (sl 64)), none, (.fld (.s (sl 63)) 3), (some (11, []))⟩, ⟨(some (sl 65)), none, (.ld true (.s (sl 64)) none), (some (12, []))⟩, ⟨(some (sl 66)), none, (.len false (.s (sl 65))), (some (13, []))⟩, ⟨(some (sl 67)), none, (.bin .neq (.s (sl 59)) (.s (sl 66))), (some (14, []))⟩, ⟨(some (sl 68)), none, (.mv (.s (sl 67))), (some (15, []))⟩, ⟨(some (sl 69)), (some ((sl 68), false)), (.fld (.s (sl 6)) 0), (some (16, []))⟩, ⟨(some (sl 70)), (some ((sl 68), false)), (.ld true (.s (sl 69)) none), (some (17, []))⟩, ⟨(some (sl 71)), (some ((sl 68), false)), (.mv (.s (sl 7))), (some (18, []))⟩, ⟨(some (sl 72)), (some ((sl 68), false)), (.idx true (.s (sl 70)) (.s (sl 71)) 4), (some (19, []))⟩, ⟨(some (sl 73)), (some ((sl 68), false)), (.fld (.s (sl 72)) 0), (some (20, []))⟩, ⟨(some (sl 74)), (some ((sl 68), false)), (.ld true (.s (sl 73)) none), (some (21, []))⟩, ⟨(some (sl 75)), (some ((sl 68), false)), (.fld (.s (sl 2)) 0), (some (22, []))⟩, ⟨(some (sl 76)), (some ((sl 68), false)), (.ld true (.s (sl 75)) none), (some (23, []))⟩, ⟨(some (sl 77)), (some ((sl 68), false)), (.mv (.s (sl 7))), (some (24, []))⟩, ⟨(some (sl 78)), (some ((sl 68), false)), (.idx true (.s (sl 76)) (.s (sl 77)) 4), (some (25, []))⟩, ⟨(some (sl 79)), (some ((sl 68), false)), (.fld (.s (sl 78)) 0), (some (26, []))⟩, ⟨(some (sl 80)), (some ((sl 68), false)), (.ld true (.s (sl 79)) none), (some (27, []))⟩, ⟨(some (sl 81)), (some ((sl 68), false)), (.bin .neq (.s (sl 74)) (.s (sl 80))), (some (28, []))⟩, ⟨(some (sl 82)), none, (.pick (.s (sl 68)) (.c (.bool true)) (.s (sl 81))), (some (29, []))⟩])
  (.cond (.s (sl 82))
  (.seq (.reg [⟨(some (sl 4)), none, (.mv (.c (.bool false))), none⟩])
  .ret)
  .skip)))))
  (.reg [⟨(some (sl 29)), none, (.mv (.s (sl 7))), none⟩, ⟨(some (sl 30)), none, (.bin .add (.s (sl 29)) (.c (.int .i64 1))), none⟩, ⟨(some (sl 7)), none, (.mv (.s (sl 30))), none⟩]))))))
  (.seq (.reg [⟨(some (sl 83)), none, (.mv (.s (sl 5))), none⟩, ⟨(some (sl 4)), none, (.mv (.s (sl 83))), none⟩])
  .ret)))))))
def r_marlinelaw14_InlineLeaves : List ARes := [(.tmp (sl 4))]
theorem t_marlinelaw14_InlineLeaves : (Try.f7).body.bind (trCode Try.prog 8 (Try.f7).ntmps [] [] (drOk 8)) = some c_marlinelaw14_InlineLeaves := by kernel_rfl
theorem u_marlinelaw14_InlineLeaves : trRess Try.prog 8 (Try.f7).results.toList = some r_marlinelaw14_InlineLeaves := by kernel_rfl

end Go.Proofs.Ytndpejmebhcaaaa
