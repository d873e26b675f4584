/- The bodies of some functions, as the evaluator has them (printed by program), and that they are the program's own. -/
import Derived.Test.YtghlfjpmpalpdaaEv
namespace Go.Proofs.Ytghlfjpmpalpdaa
open Go.RowKit

/-- marline/marlineref05.FindFunc -/
def c_marlineref05_FindFunc : ACode :=
  (.seq (.reg [⟨(some (sl 2)), none, (.box true (.s (sl 0))), none⟩, ⟨(some (sl 4)), none, (.mv (.c (.int .i64 0))), none⟩])
  (.seq (.seq (.reg [⟨(some (sl 5)), none, (.mv (.c (.int .i64 0))), none⟩])
  (.block 0
  (.loop (.seq (.seq (.reg [⟨(some (sl 6)), none, (.mv (.s (sl 5))), none⟩, ⟨(some (sl 7)), none, (.fld (.s (sl 2)) 0), none⟩, ⟨(some (sl 8)), none, (.ld true (.s (sl 7)) none), none⟩, ⟨(some (sl 9)), none, (.len false (.s (sl 8))), none⟩, ⟨(some (sl 10)), none, (.bin .lss (.s (sl 6)) (.s (sl 9))), none⟩])
  (.cond (.s (sl 10))
  .skip
  (.exit 0)))
  (.seq (.block 1
  (.seq (.reg [⟨(some (sl 13)), none, (.fld (.s (sl 2)) 0), none⟩, ⟨(some (sl 14)), none, (.ld true (.s (sl 13)) none), none⟩, ⟨(some (sl 15)), none, (.mv (.s (sl 5))), none⟩, ⟨(some (sl 16)), none, (.idx true (.s (sl 14)) (.s (sl 15)) 4), none⟩, ⟨(some (sl 17)), none, (.fld (.s (sl 16)) 0), none⟩, ⟨(some (sl 18)), none, (.ld true (.s (sl 17)) none), none⟩, ⟨(some (sl 19)), none, (.mv (.s (sl 1))), none⟩, ⟨(some (sl 20)), none, (.bin .eql (.s (sl 18)) (.s (sl 19))), none⟩])
  (.cond (.s (sl 20))
  (.seq (.reg [⟨(some (sl 21)), none, (.mv (.s (sl 5))), none⟩, ⟨(some (sl 4)), none, (.mv (.s (sl 21))), none⟩])
  .ret)
  .skip)))
  (.reg [⟨(some (sl 11)), none, (.mv (.s (sl 5))), none⟩, ⟨(some (sl 12)), none, (.bin .add (.s (sl 11)) (.c (.int .i64 1))), none⟩, ⟨(some (sl 5)), none, (.mv (.s (sl 12))), none⟩]))))))
  (.seq (.reg [⟨(some (sl 4)), none, (.mv (.c (.int .i64 (-1)))), none⟩])
  .ret)))
def r_marlineref05_FindFunc : List ARes := [(.tmp (sl 4))]
theorem t_marlineref05_FindFunc : (Try.f23).body.bind (trCode Try.prog 8 (Try.f23).ntmps [] [(61, 3, 1), (79, 25, 6)] (drOk 8)) = some c_marlineref05_FindFunc := by kernel_rfl
theorem u_marlineref05_FindFunc : trRess Try.prog 8 (Try.f23).results.toList = some r_marlineref05_FindFunc := by kernel_rfl

/-- marline/marlineref05.FindGlob -/
def c_marlineref05_FindGlob : ACode :=
  (.seq (.reg [⟨(some (sl 2)), none, (.box true (.s (sl 0))), none⟩, ⟨(some (sl 4)), none, (.mv (.c (.int .i64 0))), none⟩])
  (.seq (.seq (.reg [⟨(some (sl 5)), none, (.mv (.c (.int .i64 0))), none⟩])
  (.block 0
  (.loop (.seq (.seq (.reg [⟨(some (sl 6)), none, (.mv (.s (sl 5))), none⟩, ⟨(some (sl 7)), none, (.fld (.s (sl 2)) 1), none⟩, ⟨(some (sl 8)), none, (.ld true (.s (sl 7)) none), none⟩, ⟨(some (sl 9)), none, (.len false (.s (sl 8))), none⟩, ⟨(some (sl 10)), none, (.bin .lss (.s (sl 6)) (.s (sl 9))), none⟩])
  (.cond (.s (sl 10))
  .skip
  (.exit 0)))
  (.seq (.block 1
  (.seq (.reg [⟨(some (sl 13)), none, (.fld (.s (sl 2)) 1), none⟩, ⟨(some (sl 14)), none, (.ld true (.s (sl 13)) none), none⟩, ⟨(some (sl 15)), none, (.mv (.s (sl 5))), none⟩, ⟨(some (sl 16)), none, (.idx true (.s (sl 14)) (.s (sl 15)) 4), none⟩, ⟨(some (sl 17)), none, (.fld (.s (sl 16)) 0), none⟩, ⟨(some (sl 18)), none, (.ld true (.s (sl 17)) none), none⟩, ⟨(some (sl 19)), none, (.mv (.s (sl 1))), none⟩, ⟨(some (sl 20)), none, (.bin .eql (.s (sl 18)) (.s (sl 19))), none⟩])
  (.cond (.s (sl 20))
  (.seq (.reg [⟨(some (sl 21)), none, (.mv (.s (sl 5))), none⟩, ⟨(some (sl 4)), none, (.mv (.s (sl 21))), none⟩])
  .ret)
  .skip)))
  (.reg [⟨(some (sl 11)), none, (.mv (.s (sl 5))), none⟩, ⟨(some (sl 12)), none, (.bin .add (.s (sl 11)) (.c (.int .i64 1))), none⟩, ⟨(some (sl 5)), none, (.mv (.s (sl 12))), none⟩]))))))
  (.seq (.reg [⟨(some (sl 4)), none, (.mv (.c (.int .i64 (-1)))), none⟩])
  .ret)))
def r_marlineref05_FindGlob : List ARes := [(.tmp (sl 4))]
theorem t_marlineref05_FindGlob : (Try.f24).body.bind (trCode Try.prog 8 (Try.f24).ntmps [] [(61, 3, 1), (79, 25, 6)] (drOk 8)) = some c_marlineref05_FindGlob := by kernel_rfl
theorem u_marlineref05_FindGlob : trRess Try.prog 8 (Try.f24).results.toList = some r_marlineref05_FindGlob := by kernel_rfl

/-- marline/marlineref05.Strings -/
def c_marlineref05_Strings : ACode :=
  (.seq (.reg [⟨(some (sl 4)), none, (.mv (.c (.bool false))), none⟩])
  (.seq (.seq (.reg [⟨(some (sl 6)), none, (.mv (.s (sl 0))), none⟩, ⟨(some (sl 7)), none, (.len false (.s (sl 6))), none⟩, ⟨(some (sl 8)), none, (.mv (.s (sl 1))), none⟩, ⟨(some (sl 9)), none, (.len false (.s (sl 8))), none⟩, ⟨(some (sl 10)), none, (.bin .neq (.s (sl 7)) (.s (sl 9))), none⟩])
  (.cond (.s (sl 10))
  (.seq (.reg [⟨(some (sl 4)), none, (.mv (.c (.bool false))), none⟩])
  .ret)
  .skip))
  (.seq (.seq (.reg [⟨(some (sl 5)), none, (.mv (.c (.int .i64 0))), none⟩])
  (.block 0
  (.loop (.seq (.seq (.reg [⟨(some (sl 11)), none, (.mv (.s (sl 5))), none⟩, ⟨(some (sl 12)), none, (.mv (.s (sl 0))), none⟩, ⟨(some (sl 13)), none, (.len false (.s (sl 12))), none⟩, ⟨(some (sl 14)), none, (.bin .lss (.s (sl 11)) (.s (sl 13))), none⟩])
  (.cond (.s (sl 14))
  .skip
  (.exit 0)))
  (.seq (.block 1
  (.seq (.reg [⟨(some (sl 17)), none, (.mv (.s (sl 0))), (some 0)⟩, ⟨(some (sl 18)), none, (.mv (.s (sl 5))), (some 1)⟩, ⟨(some (sl 19)), none, (.idx true (.s (sl 17)) (.s (sl 18)) 1), (some 2)⟩, ⟨(some (sl 20)), none, (.ld true (.s (sl 19)) none), (some 3)⟩, ⟨(some (sl 21)), none, (.mv (.s (sl 1))), (some 4)⟩, ⟨(some (sl 22)), none, (.mv (.s (sl 5))), (some 5)⟩, ⟨(some (sl 23)), none, (.idx true (.s (sl 21)) (.s (sl 22)) 1), (some 6)⟩, ⟨(some (sl 24)), none, (.ld true (.s (sl 23)) none), (some 7)⟩, ⟨(some (sl 25)), none, (.bin .neq (.s (sl 20)) (.s (sl 24))), (some 8)⟩])
  (.cond (.s (sl 25))
  (.seq (.reg [⟨(some (sl 4)), none, (.mv (.c (.bool false))), none⟩])
  .ret)
  .skip)))
  (.reg [⟨(some (sl 15)), none, (.mv (.s (sl 5))), none⟩, ⟨(some (sl 16)), none, (.bin .add (.s (sl 15)) (.c (.int .i64 1))), none⟩, ⟨(some (sl 5)), none, (.mv (.s (sl 16))), none⟩]))))))
  (.seq (.reg [⟨(some (sl 4)), none, (.mv (.c (.bool true))), none⟩])
  .ret))))
def r_marlineref05_Strings : List ARes := [(.tmp (sl 4))]
theorem t_marlineref05_Strings : (Try.f25).body.bind (trCode Try.prog 8 (Try.f25).ntmps [] [(61, 3, 1), (79, 25, 6)] (drOk 8)) = some c_marlineref05_Strings := by kernel_rfl
theorem u_marlineref05_Strings : trRess Try.prog 8 (Try.f25).results.toList = some r_marlineref05_Strings := by kernel_rfl

/-- marline/marlineref05.Refs -/
def c_marlineref05_Refs : ACode :=
  (.seq (.reg [⟨(some (sl 1)), none, (.box true (.s (sl 0))), none⟩, ⟨(some (sl 2)), none, (.mv (.c (.slice none 0 0))), none⟩])
  (.seq (.reg [⟨(some (sl 3)), none, (.mv (.c (.slice none 0 0))), none⟩])
  (.seq (.seq (.reg [⟨(some (sl 4)), none, (.mv (.c (.int .i64 0))), none⟩])
  (.block 0
  (.loop (.seq (.seq (.reg [⟨(some (sl 7)), none, (.mv (.s (sl 4))), none⟩, ⟨(some (sl 8)), none, (.fld (.s (sl 1)) 3), none⟩, ⟨(some (sl 9)), none, (.ld true (.s (sl 8)) none), none⟩, ⟨(some (sl 10)), none, (.len false (.s (sl 9))), none⟩, ⟨(some (sl 11)), none, (.bin .lss (.s (sl 7)) (.s (sl 10))), none⟩])
  (.cond (.s (sl 11))
  .skip
  (.exit 0)))
  (.seq (.block 1
  (.seq (.reg [⟨(some (sl 5)), none, (.mv (.c (.int .i64 0))), none⟩])
  (.block 2
  (.loop (.seq (.seq (.reg [⟨(some (sl 14)), none, (.mv (.s (sl 5))), none⟩, ⟨(some (sl 15)), none, (.fld (.s (sl 1)) 3), none⟩, ⟨(some (sl 16)), none, (.ld true (.s (sl 15)) none), none⟩, ⟨(some (sl 17)), none, (.mv (.s (sl 4))), none⟩, ⟨(some (sl 18)), none, (.idx true (.s (sl 16)) (.s (sl 17)) 8), none⟩, ⟨(some (sl 19)), none, (.fld (.s (sl 18)) 1), none⟩, ⟨(some (sl 20)), none, (.ld true (.s (sl 19)) none), none⟩, ⟨(some (sl 21)), none, (.len false (.s (sl 20))), none⟩, ⟨(some (sl 22)), none, (.bin .lss (.s (sl 14)) (.s (sl 21))), none⟩])
  (.cond (.s (sl 22))
  .skip
  (.exit 2)))
  (.seq (.block 3
  (.seq (.reg [⟨(some (sl 25)), none, (.fld (.s (sl 1)) 3), none⟩, ⟨(some (sl 26)), none, (.ld true (.s (sl 25)) none), none⟩, ⟨(some (sl 27)), none, (.mv (.s (sl 4))), none⟩, ⟨(some (sl 28)), none, (.idx true (.s (sl 26)) (.s (sl 27)) 8), none⟩, ⟨(some (sl 29)), none, (.fld (.s (sl 28)) 1), none⟩, ⟨(some (sl 30)), none, (.ld true (.s (sl 29)) none), none⟩, ⟨(some (sl 31)), none, (.mv (.s (sl 5))), none⟩, ⟨(some (sl 32)), none, (.idx true (.s (sl 30)) (.s (sl 31)) 6), none⟩, ⟨(some (sl 33)), none, (.ld true (.s (sl 32)) (some 6)), none⟩, ⟨(some (sl 34)), none, (.call true (.f 41) [(.s (sl 33))]), none⟩, ⟨(some (sl 6)), none, (.mv (.s (sl 34))), none⟩])
  (.seq (.reg [⟨(some (sl 35)), none, (.mv (.s (sl 6))), none⟩])
  (.cond (.s (sl 35))
  (.reg [⟨(some (sl 36)), none, (.mv (.s (sl 3))), none⟩, ⟨(some (sl 37)), none, (.fld (.s (sl 1)) 3), none⟩, ⟨(some (sl 38)), none, (.ld true (.s (sl 37)) none), none⟩, ⟨(some (sl 39)), none, (.mv (.s (sl 4))), none⟩, ⟨(some (sl 40)), none, (.idx true (.s (sl 38)) (.s (sl 39)) 8), none⟩, ⟨(some (sl 41)), none, (.fld (.s (sl 40)) 1), none⟩, ⟨(some (sl 42)), none, (.ld true (.s (sl 41)) none), none⟩, ⟨(some (sl 43)), none, (.mv (.s (sl 5))), none⟩, ⟨(some (sl 44)), none, (.idx true (.s (sl 42)) (.s (sl 43)) 6), none⟩, ⟨(some (sl 45)), none, (.fld (.s (sl 44)) 4), none⟩, ⟨(some (sl 46)), none, (.ld true (.s (sl 45)) none), none⟩, ⟨(some (sl 47)), none, (.mksl 1 1 [(.string ⟨#[]⟩)] [(0, 1, (.s (sl 46)))]), none⟩, ⟨(some (sl 48)), none, (.app 9 1 16 (.s (sl 36)) (.s (sl 47))), none⟩, ⟨(some (sl 3)), none, (.mv (.s (sl 48))), none⟩])
  .skip))))
  (.reg [⟨(some (sl 23)), none, (.mv (.s (sl 5))), none⟩, ⟨(some (sl 24)), none, (.bin .add (.s (sl 23)) (.c (.int .i64 1))), none⟩, ⟨(some (sl 5)), none, (.mv (.s (sl 24))), none⟩])))))))
  (.reg [⟨(some (sl 12)), none, (.mv (.s (sl 4))), none⟩, ⟨(some (sl 13)), none, (.bin .add (.s (sl 12)) (.c (.int .i64 1))), none⟩, ⟨(some (sl 4)), none, (.mv (.s (sl 13))), none⟩]))))))
  (.seq (.reg [⟨(some (sl 49)), none, (.mv (.s (sl 3))), none⟩, ⟨(some (sl 2)), none, (.mv (.s (sl 49))), none⟩])
  .ret))))
def r_marlineref05_Refs : List ARes := [(.tmp (sl 2))]
theorem t_marlineref05_Refs : (Try.f27).body.bind (trCode Try.prog 8 (Try.f27).ntmps [2, 3, 36, 48, 49] [(61, 3, 1), (79, 25, 6)] (drOk 8)) = some c_marlineref05_Refs := by kernel_rfl
theorem u_marlineref05_Refs : trRess Try.prog 8 (Try.f27).results.toList = some r_marlineref05_Refs := by kernel_rfl

/-- marline/marlineref05.Check -/
def c_marlineref05_Check : ACode :=
  (.seq (.reg [⟨(some (sl 1)), none, (.box true (.s (sl 0))), none⟩, ⟨(some (sl 2)), none, (.mv (.c (.int .i64 0))), none⟩])
  (.seq (.seq (.reg [⟨(some (sl 17)), none, (.fld (.s (sl 1)) 0), none⟩, ⟨(some (sl 18)), none, (.ld true (.s (sl 17)) none), none⟩, ⟨(some (sl 19)), none, (.len false (.s (sl 18))), none⟩, ⟨(some (sl 20)), none, (.bin .gtr (.s (sl 19)) (.c (.int .i64 16))), none⟩, ⟨(some (sl 21)), none, (.mv (.s (sl 20))), none⟩, ⟨(some (sl 22)), (some ((sl 21), false)), (.fld (.s (sl 1)) 1), none⟩, ⟨(some (sl 23)), (some ((sl 21), false)), (.ld true (.s (sl 22)) none), none⟩, ⟨(some (sl 24)), (some ((sl 21), false)), (.len false (.s (sl 23))), none⟩, ⟨(some (sl 25)), (some ((sl 21), false)), (.bin .gtr (.s (sl 24)) (.c (.int .i64 16))), none⟩, ⟨(some (sl 26)), none, (.pick (.s (sl 21)) (.c (.bool true)) (.s (sl 25))), none⟩])
  (.cond (.s (sl 26))
  (.seq (.reg [⟨(some (sl 2)), none, (.mv (.c (.int .i64 4))), none⟩])
  .ret)
  .skip))
  (.seq (.seq (.reg [⟨(some (sl 3)), none, (.mv (.c (.int .i64 0))), none⟩])
  (.block 0
  (.loop (.seq (.seq (.reg [⟨(some (sl 27)), none, (.mv (.s (sl 3))), none⟩, ⟨(some (sl 28)), none, (.fld (.s (sl 1)) 0), none⟩, ⟨(some (sl 29)), none, (.ld true (.s (sl 28)) none), none⟩, ⟨(some (sl 30)), none, (.len false (.s (sl 29))), none⟩, ⟨(some (sl 31)), none, (.bin .lss (.s (sl 27)) (.s (sl 30))), none⟩])
  (.cond (.s (sl 31))
  .skip
  (.exit 0)))
  (.seq (.block 1
  (.seq (.reg [⟨(some (sl 34)), none, (.fld (.s (sl 1)) 0), none⟩, ⟨(some (sl 35)), none, (.ld true (.s (sl 34)) none), none⟩, ⟨(some (sl 36)), none, (.mv (.s (sl 3))), none⟩, ⟨(some (sl 37)), none, (.idx true (.s (sl 35)) (.s (sl 36)) 4), none⟩, ⟨(some (sl 38)), none, (.ld true (.s (sl 37)) (some 4)), none⟩, ⟨(some (sl 39)), none, (.call true (.f 28) [(.s (sl 38))]), none⟩, ⟨(some (sl 4)), none, (.mv (.s (sl 39))), none⟩])
  (.seq (.reg [⟨(some (sl 40)), none, (.mv (.s (sl 4))), none⟩, ⟨(some (sl 41)), none, (.not (.s (sl 40))), none⟩])
  (.cond (.s (sl 41))
  (.seq (.reg [⟨(some (sl 2)), none, (.mv (.c (.int .i64 10))), none⟩])
  .ret)
  .skip))))
  (.reg [⟨(some (sl 32)), none, (.mv (.s (sl 3))), none⟩, ⟨(some (sl 33)), none, (.bin .add (.s (sl 32)) (.c (.int .i64 1))), none⟩, ⟨(some (sl 3)), none, (.mv (.s (sl 33))), none⟩]))))))
  (.seq (.seq (.reg [⟨(some (sl 5)), none, (.mv (.c (.int .i64 0))), none⟩])
  (.block 2
  (.loop (.seq (.seq (.reg [⟨(some (sl 42)), none, (.mv (.s (sl 5))), none⟩, ⟨(some (sl 43)), none, (.fld (.s (sl 1)) 1), none⟩, ⟨(some (sl 44)), none, (.ld true (.s (sl 43)) none), none⟩, ⟨(some (sl 45)), none, (.len false (.s (sl 44))), none⟩, ⟨(some (sl 46)), none, (.bin .lss (.s (sl 42)) (.s (sl 45))), none⟩])
  (.cond (.s (sl 46))
  .skip
  (.exit 2)))
  (.seq (.block 3
  (.seq (.seq (.reg [⟨(some (sl 49)), none, (.fld (.s (sl 1)) 1), none⟩, ⟨(some (sl 50)), none, (.ld true (.s (sl 49)) none), none⟩, ⟨(some (sl 51)), none, (.mv (.s (sl 5))), none⟩, ⟨(some (sl 52)), none, (.idx true (.s (sl 50)) (.s (sl 51)) 4), none⟩, ⟨(some (sl 53)), none, (.ld true (.s (sl 52)) (some 4)), none⟩, ⟨(some (sl 6)), none, (.new [(.string ⟨#[]⟩), (.int .i64 0), (.bool false), (.int .u64 0)]), none⟩, ⟨none, none, (.ini 1 (.s (sl 6)) (.s (sl 53)) 4), none⟩])
  (.frz (sl 6)))
  (.seq (.reg [⟨(some (sl 54)), none, (.fld (.s (sl 6)) 0), none⟩, ⟨(some (sl 55)), none, (.ld true (.s (sl 54)) none), none⟩, ⟨(some (sl 56)), none, (.call true (.f 42) [(.s (sl 55))]), none⟩, ⟨(some (sl 7)), none, (.mv (.s (sl 56))), none⟩])
  (.seq (.reg [⟨(some (sl 57)), none, (.mv (.s (sl 7))), none⟩, ⟨(some (sl 58)), none, (.not (.s (sl 57))), none⟩, ⟨(some (sl 59)), none, (.mv (.s (sl 58))), none⟩, ⟨(some (sl 60)), (some ((sl 59), false)), (.fld (.s (sl 6)) 1), none⟩, ⟨(some (sl 61)), (some ((sl 59), false)), (.ld true (.s (sl 60)) none), none⟩, ⟨(some (sl 62)), (some ((sl 59), false)), (.bin .lss (.s (sl 61)) (.c (.int .i64 1))), none⟩, ⟨(some (sl 63)), none, (.pick (.s (sl 59)) (.c (.bool true)) (.s (sl 62))), none⟩, ⟨(some (sl 64)), none, (.mv (.s (sl 63))), none⟩, ⟨(some (sl 65)), (some ((sl 64), false)), (.fld (.s (sl 6)) 1), none⟩, ⟨(some (sl 66)), (some ((sl 64), false)), (.ld true (.s (sl 65)) none), none⟩, ⟨(some (sl 67)), (some ((sl 64), false)), (.bin .gtr (.s (sl 66)) (.c (.int .i64 3))), none⟩, ⟨(some (sl 68)), none, (.pick (.s (sl 64)) (.c (.bool true)) (.s (sl 67))), none⟩, ⟨(some (sl 69)), none, (.mv (.s (sl 68))), none⟩, ⟨(some (sl 70)), (some ((sl 69), false)), (.fld (.s (sl 6)) 2), none⟩, ⟨(some (sl 71)), (some ((sl 69), false)), (.ld true (.s (sl 70)) none), none⟩, ⟨(some (sl 72)), (some ((sl 69), false)), (.not (.s (sl 71))), none⟩, ⟨(some (sl 73)), (some ((sl 69), false)), (.mv (.s (sl 72))), none⟩, ⟨(some (sl 74)), (some ((sl 73), true)), (.fld (.s (sl 6)) 3), none⟩, ⟨(some (sl 75)), (some ((sl 73), true)), (.ld true (.s (sl 74)) none), none⟩, ⟨(some (sl 76)), (some ((sl 73), true)), (.bin .neq (.s (sl 75)) (.c (.int .u64 0))), none⟩, ⟨(some (sl 77)), (some ((sl 73), true)), (.mv (.s (sl 76))), none⟩, ⟨(some (sl 78)), (some ((sl 77), false)), (.fld (.s (sl 6)) 1), none⟩, ⟨(some (sl 79)), (some ((sl 77), false)), (.ld true (.s (sl 78)) none), none⟩, ⟨(some (sl 80)), (some ((sl 77), false)), (.bin .eql (.s (sl 79)) (.c (.int .i64 1))), none⟩, ⟨(some (sl 81)), (some ((sl 73), true)), (.pick (.s (sl 77)) (.c (.bool true)) (.s (sl 80))), none⟩, ⟨(some (sl 82)), (some ((sl 69), false)), (.pick (.s (sl 73)) (.s (sl 81)) (.c (.bool false))), none⟩, ⟨(some (sl 83)), none, (.pick (.s (sl 69)) (.c (.bool true)) (.s (sl 82))), none⟩])
  (.cond (.s (sl 83))
  (.seq (.reg [⟨(some (sl 2)), none, (.mv (.c (.int .i64 10))), none⟩])
  .ret)
  .skip)))))
  (.reg [⟨(some (sl 47)), none, (.mv (.s (sl 5))), none⟩, ⟨(some (sl 48)), none, (.bin .add (.s (sl 47)) (.c (.int .i64 1))), none⟩, ⟨(some (sl 5)), none, (.mv (.s (sl 48))), none⟩]))))))
  (.seq (.reg [⟨(some (sl 84)), none, (.ld true (.s (sl 1)) (some 2)), none⟩, ⟨(some (sl 85)), none, (.call true (.f 50) [(.s (sl 84))]), none⟩, ⟨(some (sl 8)), none, (.mv (.s (sl 85))), none⟩])
  (.seq (.seq (.reg [⟨(some (sl 9)), none, (.mv (.c (.int .i64 0))), none⟩])
  (.block 4
  (.loop (.seq (.seq (.reg [⟨(some (sl 86)), none, (.mv (.s (sl 9))), none⟩, ⟨(some (sl 87)), none, (.mv (.s (sl 8))), none⟩, ⟨(some (sl 88)), none, (.len false (.s (sl 87))), none⟩, ⟨(some (sl 89)), none, (.bin .lss (.s (sl 86)) (.s (sl 88))), none⟩])
  (.cond (.s (sl 89))
  .skip
  (.exit 4)))
  (.seq (.block 5
  (.seq (.reg [⟨(some (sl 10)), none, (.mv (.c (.int .i64 0))), none⟩])
  (.block 6
  (.loop (.seq (.seq (.reg [⟨(some (sl 92)), none, (.mv (.s (sl 10))), none⟩, ⟨(some (sl 93)), none, (.mv (.s (sl 9))), none⟩, ⟨(some (sl 94)), none, (.bin .lss (.s (sl 92)) (.s (sl 93))), none⟩])
  (.cond (.s (sl 94))
  .skip
  (.exit 6)))
  (.seq (.block 7
  (.seq (.reg [⟨(some (sl 97)), none, (.mv (.s (sl 8))), (some 0)⟩, ⟨(some (sl 98)), none, (.mv (.s (sl 9))), (some 1)⟩, ⟨(some (sl 99)), none, (.idx true (.s (sl 97)) (.s (sl 98)) 1), (some 2)⟩, ⟨(some (sl 100)), none, (.ld true (.s (sl 99)) none), (some 3)⟩, ⟨(some (sl 101)), none, (.mv (.s (sl 8))), (some 4)⟩, ⟨(some (sl 102)), none, (.mv (.s (sl 10))), (some 5)⟩, ⟨(some (sl 103)), none, (.idx true (.s (sl 101)) (.s (sl 102)) 1), (some 6)⟩, ⟨(some (sl 104)), none, (.ld true (.s (sl 103)) none), (some 7)⟩, ⟨(some (sl 105)), none, (.bin .eql (.s (sl 100)) (.s (sl 104))), (some 8)⟩])
  (.cond (.s (sl 105))
  (.seq (.reg [⟨(some (sl 2)), none, (.mv (.c (.int .i64 9))), none⟩])
  .ret)
  .skip)))
  (.reg [⟨(some (sl 95)), none, (.mv (.s (sl 10))), none⟩, ⟨(some (sl 96)), none, (.bin .add (.s (sl 95)) (.c (.int .i64 1))), none⟩, ⟨(some (sl 10)), none, (.mv (.s (sl 96))), none⟩])))))))
  (.reg [⟨(some (sl 90)), none, (.mv (.s (sl 9))), none⟩, ⟨(some (sl 91)), none, (.bin .add (.s (sl 90)) (.c (.int .i64 1))), none⟩, ⟨(some (sl 9)), none, (.mv (.s (sl 91))), none⟩]))))))
  (.seq (.reg [⟨(some (sl 11)), none, (.mv (.c (.bool false))), none⟩])
  (.seq (.seq (.reg [⟨(some (sl 12)), none, (.mv (.c (.int .i64 0))), none⟩])
  (.block 8
  (.loop (.seq (.seq (.reg [⟨(some (sl 106)), none, (.mv (.s (sl 12))), none⟩, ⟨(some (sl 107)), none, (.fld (.s (sl 1)) 0), none⟩, ⟨(some (sl 108)), none, (.ld true (.s (sl 107)) none), none⟩, ⟨(some (sl 109)), none, (.len false (.s (sl 108))), none⟩, ⟨(some (sl 110)), none, (.bin .lss (.s (sl 106)) (.s (sl 109))), none⟩])
  (.cond (.s (sl 110))
  .skip
  (.exit 8)))
  (.seq (.block 9
  (.seq (.reg [⟨(some (sl 13)), none, (.mv (.c (.int .i64 0))), none⟩])
  (.block 10
  (.loop (.seq (.seq (.reg [⟨(some (sl 113)), none, (.mv (.s (sl 13))), none⟩, ⟨(some (sl 114)), none, (.fld (.s (sl 1)) 0), none⟩, ⟨(some (sl 115)), none, (.ld true (.s (sl 114)) none), none⟩, ⟨(some (sl 116)), none, (.mv (.s (sl 12))), none⟩, ⟨(some (sl 117)), none, (.idx true (.s (sl 115)) (.s (sl 116)) 4), none⟩, ⟨(some (sl 118)), none, (.fld (.s (sl 117)) 3), none⟩, ⟨(some (sl 119)), none, (.ld true (.s (sl 118)) none), none⟩, ⟨(some (sl 120)), none, (.len false (.s (sl 119))), none⟩, ⟨(some (sl 121)), none, (.bin .lss (.s (sl 113)) (.s (sl 120))), none⟩])
  (.cond (.s (sl 121))
  .skip
  (.exit 10)))
  (.seq (.block 11
  (.seq (.reg [⟨(some (sl 14)), none, (.mv (.c (.int .i64 0))), none⟩])
  (.block 12
  (.loop (.seq (.seq (.reg [⟨(some (sl 124)), none, (.mv (.s (sl 14))), none⟩, ⟨(some (sl 125)), none, (.fld (.s (sl 1)) 0), none⟩, ⟨(some (sl 126)), none, (.ld true (.s (sl 125)) none), none⟩, ⟨(some (sl 127)), none, (.mv (.s (sl 12))), none⟩, ⟨(some (sl 128)), none, (.idx true (.s (sl 126)) (.s (sl 127)) 4), none⟩, ⟨(some (sl 129)), none, (.fld (.s (sl 128)) 3), none⟩, ⟨(some (sl 130)), none, (.ld true (.s (sl 129)) none), none⟩, ⟨(some (sl 131)), none, (.mv (.s (sl 13))), none⟩, ⟨(some (sl 132)), none, (.idx true (.s (sl 130)) (.s (sl 131)) 8), none⟩, ⟨(some (sl 133)), none, (.fld (.s (sl 132)) 1), none⟩, ⟨(some (sl 134)), none, (.ld true (.s (sl 133)) none), none⟩, ⟨(some (sl 135)), none, (.len false (.s (sl 134))), none⟩, ⟨(some (sl 136)), none, (.bin .lss (.s (sl 124)) (.s (sl 135))), none⟩])
  (.cond (.s (sl 136))
  .skip
  (.exit 12)))
  (.seq (.block 13
  (.seq (.seq (.reg [⟨(some (sl 139)), none, (.fld (.s (sl 1)) 0), none⟩, ⟨(some (sl 140)), none, (.ld true (.s (sl 139)) none), none⟩, ⟨(some (sl 141)), none, (.mv (.s (sl 12))), none⟩, ⟨(some (sl 142)), none, (.idx true (.s (sl 140)) (.s (sl 141)) 4), none⟩, ⟨(some (sl 143)), none, (.fld (.s (sl 142)) 3), none⟩, ⟨(some (sl 144)), none, (.ld true (.s (sl 143)) none), none⟩, ⟨(some (sl 145)), none, (.mv (.s (sl 13))), none⟩, ⟨(some (sl 146)), none, (.idx true (.s (sl 144)) (.s (sl 145)) 8), none⟩, ⟨(some (sl 147)), none, (.fld (.s (sl 146)) 1), none⟩, ⟨(some (sl 148)), none, (.ld true (.s (sl 147)) none), none⟩, ⟨(some (sl 149)), none, (.mv (.s (sl 14))), none⟩, ⟨(some (sl 150)), none, (.idx true (.s (sl 148)) (.s (sl 149)) 6), none⟩, ⟨(some (sl 151)), none, (.ld true (.s (sl 150)) (some 6)), none⟩, ⟨(some (sl 15)), none, (.new [(.int .i64 0), (.int .i64 0), (.int .i64 0), (.int .u64 0), (.string ⟨#[]⟩), (.slice none 0 0)]), none⟩, ⟨none, none, (.ini 1 (.s (sl 15)) (.s (sl 151)) 6), none⟩])
  (.frz (sl 15)))
  (.seq (.seq (.reg [⟨(some (sl 152)), none, (.fld (.s (sl 15)) 0), none⟩, ⟨(some (sl 153)), none, (.ld true (.s (sl 152)) none), none⟩, ⟨(some (sl 154)), none, (.bin .eql (.s (sl 153)) (.c (.int .i64 14))), none⟩])
  (.cond (.s (sl 154))
  (.seq (.reg [⟨(some (sl 155)), none, (.ld true (.s (sl 1)) (some 2)), none⟩, ⟨(some (sl 156)), none, (.fld (.s (sl 15)) 4), none⟩, ⟨(some (sl 157)), none, (.ld true (.s (sl 156)) none), none⟩, ⟨(some (sl 158)), none, (.call true (.f 23) [(.s (sl 155)), (.s (sl 157))]), none⟩, ⟨(some (sl 16)), none, (.mv (.s (sl 158))), none⟩])
  (.seq (.seq (.reg [⟨(some (sl 159)), none, (.mv (.s (sl 16))), none⟩, ⟨(some (sl 160)), none, (.bin .lss (.s (sl 159)) (.c (.int .i64 0))), none⟩])
  (.cond (.s (sl 160))
  (.seq (.reg [⟨(some (sl 2)), none, (.mv (.c (.int .i64 8))), none⟩])
  .ret)
  .skip))
  (.reg [⟨(some (sl 161)), none, (.mv (.s (sl 11))), (some 0)⟩, ⟨(some (sl 162)), none, (.mv (.s (sl 161))), (some 1)⟩, ⟨(some (sl 163)), (some ((sl 162), false)), (.fld (.s (sl 1)) 0), (some 2)⟩, ⟨(some (sl 164)), (some ((sl 162), false)), (.ld true (.s (sl 163)) none), (some 3)⟩, ⟨(some (sl 165)), (some ((sl 162), false)), (.mv (.s (sl 16))), (some 4)⟩, ⟨(some (sl 166)), (some ((sl 162), false)), (.idx true (.s (sl 164)) (.s (sl 165)) 4), (some 5)⟩, ⟨(some (sl 167)), (some ((sl 162), false)), (.fld (.s (sl 166)) 2), (some 6)⟩, ⟨(some (sl 168)), (some ((sl 162), false)), (.ld true (.s (sl 167)) none), (some 7)⟩, ⟨(some (sl 169)), (some ((sl 162), false)), (.fld (.s (sl 15)) 5), (some 8)⟩, ⟨(some (sl 170)), (some ((sl 162), false)), (.ld true (.s (sl 169)) none), (some 9)⟩, ⟨(some (sl 171)), (some ((sl 162), false)), (.len false (.s (sl 170))), (some 10)⟩, ⟨(some (sl 172)), (some ((sl 162), false)), (.bin .neq (.s (sl 168)) (.s (sl 171))), (some 11)⟩, ⟨(some (sl 173)), none, (.pick (.s (sl 162)) (.c (.bool true)) (.s (sl 172))), (some 12)⟩, ⟨(some (sl 11)), none, (.mv (.s (sl 173))), (some 13)⟩])))
  .skip))
  (.seq (.reg [⟨(some (sl 174)), none, (.fld (.s (sl 15)) 0), none⟩, ⟨(some (sl 175)), none, (.ld true (.s (sl 174)) none), none⟩, ⟨(some (sl 176)), none, (.bin .eql (.s (sl 175)) (.c (.int .i64 12))), none⟩, ⟨(some (sl 177)), none, (.mv (.s (sl 176))), none⟩, ⟨(some (sl 178)), (some ((sl 177), false)), (.fld (.s (sl 15)) 0), none⟩, ⟨(some (sl 179)), (some ((sl 177), false)), (.ld true (.s (sl 178)) none), none⟩, ⟨(some (sl 180)), (some ((sl 177), false)), (.bin .eql (.s (sl 179)) (.c (.int .i64 13))), none⟩, ⟨(some (sl 181)), none, (.pick (.s (sl 177)) (.c (.bool true)) (.s (sl 180))), none⟩, ⟨(some (sl 182)), none, (.mv (.s (sl 181))), none⟩, ⟨(some (sl 183)), (some ((sl 182), true)), (.ld true (.s (sl 1)) (some 2)), none⟩, ⟨(some (sl 184)), (some ((sl 182), true)), (.fld (.s (sl 15)) 4), none⟩, ⟨(some (sl 185)), (some ((sl 182), true)), (.ld true (.s (sl 184)) none), none⟩, ⟨(some (sl 186)), (some ((sl 182), true)), (.call true (.f 24) [(.s (sl 183)), (.s (sl 185))]), none⟩, ⟨(some (sl 187)), (some ((sl 182), true)), (.bin .lss (.s (sl 186)) (.c (.int .i64 0))), none⟩, ⟨(some (sl 188)), none, (.pick (.s (sl 182)) (.s (sl 187)) (.c (.bool false))), none⟩])
  (.cond (.s (sl 188))
  (.seq (.reg [⟨(some (sl 2)), none, (.mv (.c (.int .i64 8))), none⟩])
  .ret)
  .skip)))))
  (.reg [⟨(some (sl 137)), none, (.mv (.s (sl 14))), none⟩, ⟨(some (sl 138)), none, (.bin .add (.s (sl 137)) (.c (.int .i64 1))), none⟩, ⟨(some (sl 14)), none, (.mv (.s (sl 138))), none⟩])))))))
  (.reg [⟨(some (sl 122)), none, (.mv (.s (sl 13))), none⟩, ⟨(some (sl 123)), none, (.bin .add (.s (sl 122)) (.c (.int .i64 1))), none⟩, ⟨(some (sl 13)), none, (.mv (.s (sl 123))), none⟩])))))))
  (.reg [⟨(some (sl 111)), none, (.mv (.s (sl 12))), none⟩, ⟨(some (sl 112)), none, (.bin .add (.s (sl 111)) (.c (.int .i64 1))), none⟩, ⟨(some (sl 12)), none, (.mv (.s (sl 112))), none⟩]))))))
  (.seq (.seq (.reg [⟨(some (sl 189)), none, (.mv (.s (sl 11))), none⟩])
  (.cond (.s (sl 189))
  (.seq (.reg [⟨(some (sl 2)), none, (.mv (.c (.int .i64 1))), none⟩])
  .ret)
  .skip))
  (.seq (.reg [⟨(some (sl 2)), none, (.mv (.c (.int .i64 0))), none⟩])
  .ret))))))))))
def r_marlineref05_Check : List ARes := [(.tmp (sl 2))]
theorem t_marlineref05_Check : (Try.f29).body.bind (trCode Try.prog 8 (Try.f29).ntmps [] [(61, 3, 1), (79, 25, 6)] (drOk 8)) = some c_marlineref05_Check := by kernel_rfl
theorem u_marlineref05_Check : trRess Try.prog 8 (Try.f29).results.toList = some r_marlineref05_Check := by kernel_rfl

/-- marline/marlineref05.Same -/
def c_marlineref05_Same : ACode :=
  (.seq (.reg [⟨(some (sl 2)), none, (.box true (.s (sl 0))), none⟩, ⟨(some (sl 3)), none, (.box true (.s (sl 1))), none⟩, ⟨(some (sl 4)), none, (.mv (.c (.bool false))), none⟩])
  (.seq (.seq (.reg [⟨(some (sl 8)), none, (.fld (.s (sl 2)) 0), none⟩, ⟨(some (sl 9)), none, (.ld true (.s (sl 8)) none), none⟩, ⟨(some (sl 10)), none, (.len false (.s (sl 9))), none⟩, ⟨(some (sl 11)), none, (.fld (.s (sl 3)) 0), none⟩, ⟨(some (sl 12)), none, (.ld true (.s (sl 11)) none), none⟩, ⟨(some (sl 13)), none, (.len false (.s (sl 12))), none⟩, ⟨(some (sl 14)), none, (.bin .neq (.s (sl 10)) (.s (sl 13))), none⟩, ⟨(some (sl 15)), none, (.mv (.s (sl 14))), none⟩, ⟨(some (sl 16)), (some ((sl 15), false)), (.fld (.s (sl 2)) 1), none⟩, ⟨(some (sl 17)), (some ((sl 15), false)), (.ld true (.s (sl 16)) none), none⟩, ⟨(some (sl 18)), (some ((sl 15), false)), (.len false (.s (sl 17))), none⟩, ⟨(some (sl 19)), (some ((sl 15), false)), (.fld (.s (sl 3)) 1), none⟩, ⟨(some (sl 20)), (some ((sl 15), false)), (.ld true (.s (sl 19)) none), none⟩, ⟨(some (sl 21)), (some ((sl 15), false)), (.len false (.s (sl 20))), none⟩, ⟨(some (sl 22)), (some ((sl 15), false)), (.bin .neq (.s (sl 18)) (.s (sl 21))), none⟩, ⟨(some (sl 23)), none, (.pick (.s (sl 15)) (.c (.bool true)) (.s (sl 22))), none⟩])
  (.cond (.s (sl 23))
  (.seq (.reg [⟨(some (sl 4)), none, (.mv (.c (.bool false))), none⟩])
  .ret)
  .skip))
  (.seq (.seq (.reg [⟨(some (sl 5)), none, (.mv (.c (.int .i64 0))), none⟩])
  (.block 0
  (.loop (.seq (.seq (.reg [⟨(some (sl 24)), none, (.mv (.s (sl 5))), none⟩, ⟨(some (sl 25)), none, (.fld (.s (sl 2)) 0), none⟩, ⟨(some (sl 26)), none, (.ld true (.s (sl 25)) none), none⟩, ⟨(some (sl 27)), none, (.len false (.s (sl 26))), none⟩, ⟨(some (sl 28)), none, (.bin .lss (.s (sl 24)) (.s (sl 27))), none⟩])
  (.cond (.s (sl 28))
  .skip
  (.exit 0)))
  (.seq (.block 1
  (.seq (.reg [⟨(some (sl 31)), none, (.fld (.s (sl 2)) 0), (some 0)⟩, ⟨(some (sl 32)), none, (.ld true (.s (sl 31)) none), (some 1)⟩, ⟨(some (sl 33)), none, (.mv (.s (sl 5))), (some 2)⟩, ⟨(some (sl 34)), none, (.idx true (.s (sl 32)) (.s (sl 33)) 4), (some 3)⟩, ⟨(some (sl 35)), none, (.ld true (.s (sl 34)) (some 4)), (some 4)⟩, ⟨(some (sl 36)), none, (.fld (.s (sl 3)) 0), (some 5)⟩, ⟨(some (sl 37)), none, (.ld true (.s (sl 36)) none), (some 6)⟩, ⟨(some (sl 38)), none, (.mv (.s (sl 5))), (some 7)⟩, ⟨(some (sl 39)), none, (.idx true (.s (sl 37)) (.s (sl 38)) 4), (some 8)⟩, ⟨(some (sl 40)), none, (.ld true (.s (sl 39)) (some 4)), (some 9)⟩, ⟨(some (sl 41)), none, (.call true (.f 54) [(.s (sl 35)), (.s (sl 40))]), (some 10)⟩, ⟨(some (sl 6)), none, (.mv (.s (sl 41))), (some 11)⟩])
  (.seq (.reg [⟨(some (sl 42)), none, (.mv (.s (sl 6))), none⟩, ⟨(some (sl 43)), none, (.not (.s (sl 42))), none⟩])
  (.cond (.s (sl 43))
  (.seq (.reg [⟨(some (sl 4)), none, (.mv (.c (.bool false))), none⟩])
  .ret)
  .skip))))
  (.reg [⟨(some (sl 29)), none, (.mv (.s (sl 5))), none⟩, ⟨(some (sl 30)), none, (.bin .add (.s (sl 29)) (.c (.int .i64 1))), none⟩, ⟨(some (sl 5)), none, (.mv (.s (sl 30))), none⟩]))))))
  (.seq (.seq (.reg [⟨(some (sl 7)), none, (.mv (.c (.int .i64 0))), none⟩])
  (.block 2
  (.loop (.seq (.seq (.reg [⟨(some (sl 44)), none, (.mv (.s (sl 7))), none⟩, ⟨(some (sl 45)), none, (.fld (.s (sl 2)) 1), none⟩, ⟨(some (sl 46)), none, (.ld true (.s (sl 45)) none), none⟩, ⟨(some (sl 47)), none, (.len false (.s (sl 46))), none⟩, ⟨(some (sl 48)), none, (.bin .lss (.s (sl 44)) (.s (sl 47))), none⟩])
  (.cond (.s (sl 48))
  .skip
  (.exit 2)))
  (.seq (.block 3
  (.seq (.reg [⟨(some (sl 51)), none, (.fld (.s (sl 2)) 1), (some 0)⟩, ⟨(some (sl 52)), none, (.ld true (.s (sl 51)) none), (some 1)⟩, ⟨(some (sl 53)), none, (.mv (.s (sl 7))), (some 2)⟩, ⟨(some (sl 54)), none, (.idx true (.s (sl 52)) (.s (sl 53)) 4), (some 3)⟩, ⟨(some (sl 55)), none, (.ld true (.s (sl 54)) (some 4)), (some 4)⟩, ⟨(some (sl 56)), none, (.fld (.s (sl 3)) 1), (some 5)⟩, ⟨(some (sl 57)), none, (.ld true (.s (sl 56)) none), (some 6)⟩, ⟨(some (sl 58)), none, (.mv (.s (sl 7))), (some 7)⟩, ⟨(some (sl 59)), none, (.idx true (.s (sl 57)) (.s (sl 58)) 4), (some 8)⟩, ⟨(some (sl 60)), none, (.ld true (.s (sl 59)) (some 4)), (some 9)⟩, ⟨(some (sl 61)), none, (.eqs true (.s (sl 55)) (.s (sl 60)) [.string, (.int .i64), .bool, (.int .u64)]), (some 10)⟩])
  (.cond (.s (sl 61))
  (.seq (.reg [⟨(some (sl 4)), none, (.mv (.c (.bool false))), none⟩])
  .ret)
  .skip)))
  (.reg [⟨(some (sl 49)), none, (.mv (.s (sl 7))), none⟩, ⟨(some (sl 50)), none, (.bin .add (.s (sl 49)) (.c (.int .i64 1))), none⟩, ⟨(some (sl 7)), none, (.mv (.s (sl 50))), none⟩]))))))
  (.seq (.reg [⟨(some (sl 4)), none, (.mv (.c (.bool true))), none⟩])
  .ret)))))
def r_marlineref05_Same : List ARes := [(.tmp (sl 4))]
theorem t_marlineref05_Same : (Try.f31).body.bind (trCode Try.prog 8 (Try.f31).ntmps [] [(61, 3, 1), (79, 25, 6)] (drOk 8)) = some c_marlineref05_Same := by kernel_rfl
theorem u_marlineref05_Same : trRess Try.prog 8 (Try.f31).results.toList = some r_marlineref05_Same := by kernel_rfl

/-- marline/marlineref05.names -/
def c_marlineref05_names : ACode :=
  (.seq (.reg [⟨(some (sl 1)), none, (.box true (.s (sl 0))), none⟩, ⟨(some (sl 2)), none, (.mv (.c (.slice none 0 0))), none⟩])
  (.seq (.reg [⟨(some (sl 3)), none, (.mv (.c (.slice none 0 0))), none⟩])
  (.seq (.seq (.reg [⟨(some (sl 4)), none, (.mv (.c (.int .i64 0))), none⟩])
  (.block 0
  (.loop (.seq (.seq (.reg [⟨(some (sl 6)), none, (.mv (.s (sl 4))), none⟩, ⟨(some (sl 7)), none, (.fld (.s (sl 1)) 0), none⟩, ⟨(some (sl 8)), none, (.ld true (.s (sl 7)) none), none⟩, ⟨(some (sl 9)), none, (.len false (.s (sl 8))), none⟩, ⟨(some (sl 10)), none, (.bin .lss (.s (sl 6)) (.s (sl 9))), none⟩])
  (.cond (.s (sl 10))
  .skip
  (.exit 0)))
  (.seq (.block 1
  (.reg [⟨(some (sl 13)), none, (.mv (.s (sl 3))), none⟩, ⟨(some (sl 14)), none, (.fld (.s (sl 1)) 0), none⟩, ⟨(some (sl 15)), none, (.ld true (.s (sl 14)) none), none⟩, ⟨(some (sl 16)), none, (.mv (.s (sl 4))), none⟩, ⟨(some (sl 17)), none, (.idx true (.s (sl 15)) (.s (sl 16)) 4), none⟩, ⟨(some (sl 18)), none, (.fld (.s (sl 17)) 0), none⟩, ⟨(some (sl 19)), none, (.ld true (.s (sl 18)) none), none⟩, ⟨(some (sl 20)), none, (.mksl 1 1 [(.string ⟨#[]⟩)] [(0, 1, (.s (sl 19)))]), none⟩, ⟨(some (sl 21)), none, (.app 9 1 16 (.s (sl 13)) (.s (sl 20))), none⟩, ⟨(some (sl 3)), none, (.mv (.s (sl 21))), none⟩]))
  (.reg [⟨(some (sl 11)), none, (.mv (.s (sl 4))), none⟩, ⟨(some (sl 12)), none, (.bin .add (.s (sl 11)) (.c (.int .i64 1))), none⟩, ⟨(some (sl 4)), none, (.mv (.s (sl 12))), none⟩]))))))
  (.seq (.seq (.reg [⟨(some (sl 5)), none, (.mv (.c (.int .i64 0))), none⟩])
  (.block 2
  (.loop (.seq (.seq (.reg [⟨(some (sl 22)), none, (.mv (.s (sl 5))), none⟩, ⟨(some (sl 23)), none, (.fld (.s (sl 1)) 1), none⟩, ⟨(some (sl 24)), none, (.ld true (.s (sl 23)) none), none⟩, ⟨(some (sl 25)), none, (.len false (.s (sl 24))), none⟩, ⟨(some (sl 26)), none, (.bin .lss (.s (sl 22)) (.s (sl 25))), none⟩])
  (.cond (.s (sl 26))
  .skip
  (.exit 2)))
  (.seq (.block 3
  (.reg [⟨(some (sl 29)), none, (.mv (.s (sl 3))), none⟩, ⟨(some (sl 30)), none, (.fld (.s (sl 1)) 1), none⟩, ⟨(some (sl 31)), none, (.ld true (.s (sl 30)) none), none⟩, ⟨(some (sl 32)), none, (.mv (.s (sl 5))), none⟩, ⟨(some (sl 33)), none, (.idx true (.s (sl 31)) (.s (sl 32)) 4), none⟩, ⟨(some (sl 34)), none, (.fld (.s (sl 33)) 0), none⟩, ⟨(some (sl 35)), none, (.ld true (.s (sl 34)) none), none⟩, ⟨(some (sl 36)), none, (.mksl 1 1 [(.string ⟨#[]⟩)] [(0, 1, (.s (sl 35)))]), none⟩, ⟨(some (sl 37)), none, (.app 9 1 16 (.s (sl 29)) (.s (sl 36))), none⟩, ⟨(some (sl 3)), none, (.mv (.s (sl 37))), none⟩]))
  (.reg [⟨(some (sl 27)), none, (.mv (.s (sl 5))), none⟩, ⟨(some (sl 28)), none, (.bin .add (.s (sl 27)) (.c (.int .i64 1))), none⟩, ⟨(some (sl 5)), none, (.mv (.s (sl 28))), none⟩]))))))
  (.seq (.reg [⟨(some (sl 38)), none, (.mv (.s (sl 3))), none⟩, ⟨(some (sl 2)), none, (.mv (.s (sl 38))), none⟩])
  .ret)))))
def r_marlineref05_names : List ARes := [(.tmp (sl 2))]
theorem t_marlineref05_names : (Try.f50).body.bind (trCode Try.prog 8 (Try.f50).ntmps [2, 3, 13, 21, 29, 37, 38] [(61, 3, 1), (79, 25, 6)] (drOk 8)) = some c_marlineref05_names := by kernel_rfl
theorem u_marlineref05_names : trRess Try.prog 8 (Try.f50).results.toList = some r_marlineref05_names := by kernel_rfl

/-- marline/marlineref05.SameFunc -/
def c_marlineref05_SameFunc : ACode :=
  (.seq (.reg [⟨(some (sl 2)), none, (.box true (.s (sl 0))), none⟩, ⟨(some (sl 3)), none, (.box true (.s (sl 1))), none⟩, ⟨(some (sl 4)), none, (.mv (.c (.bool false))), none⟩])
  (.seq (.seq (.reg [⟨(some (sl 7)), none, (.fld (.s (sl 2)) 0), none⟩, ⟨(some (sl 8)), none, (.ld true (.s (sl 7)) none), none⟩, ⟨(some (sl 9)), none, (.fld (.s (sl 3)) 0), none⟩, ⟨(some (sl 10)), none, (.ld true (.s (sl 9)) none), none⟩, ⟨(some (sl 11)), none, (.bin .neq (.s (sl 8)) (.s (sl 10))), none⟩, ⟨(some (sl 12)), none, (.mv (.s (sl 11))), none⟩, ⟨(some (sl 13)), (some ((sl 12), false)), (.fld (.s (sl 2)) 1), none⟩, ⟨(some (sl 14)), (some ((sl 12), false)), (.ld true (.s (sl 13)) none), none⟩, ⟨(some (sl 15)), (some ((sl 12), false)), (.fld (.s (sl 3)) 1), none⟩, ⟨(some (sl 16)), (some ((sl 12), false)), (.ld true (.s (sl 15)) none), none⟩, ⟨(some (sl 17)), (some ((sl 12), false)), (.bin .neq (.s (sl 14)) (.s (sl 16))), none⟩, ⟨(some (sl 18)), none, (.pick (.s (sl 12)) (.c (.bool true)) (.s (sl 17))), none⟩, ⟨(some (sl 19)), none, (.mv (.s (sl 18))), none⟩, ⟨(some (sl 20)), (some ((sl 19), false)), (.fld (.s (sl 2)) 2), none⟩, ⟨(some (sl 21)), (some ((sl 19), false)), (.ld true (.s (sl 20)) none), none⟩, ⟨(some (sl 22)), (some ((sl 19), false)), (.fld (.s (sl 3)) 2), none⟩, ⟨(some (sl 23)), (some ((sl 19), false)), (.ld true (.s (sl 22)) none), none⟩, ⟨(some (sl 24)), (some ((sl 19), false)), (.bin .neq (.s (sl 21)) (.s (sl 23))), none⟩, ⟨(some (sl 25)), none, (.pick (.s (sl 19)) (.c (.bool true)) (.s (sl 24))), none⟩, ⟨(some (sl 26)), none, (.mv (.s (sl 25))), none⟩, ⟨(some (sl 27)), (some ((sl 26), false)), (.fld (.s (sl 2)) 3), none⟩, ⟨(some (sl 28)), (some ((sl 26), false)), (.ld true (.s (sl 27)) none), none⟩, ⟨(some (sl 29)), (some ((sl 26), false)), (.len false (.s (sl 28))), none⟩, ⟨(some (sl 30)), (some ((sl 26), false)), (.fld (.s (sl 3)) 3), none⟩, ⟨(some (sl 31)), (some ((sl 26), false)), (.ld true (.s (sl 30)) none), none⟩, ⟨(some (sl 32)), (some ((sl 26), false)), (.len false (.s (sl 31))), none⟩, ⟨(some (sl 33)), (some ((sl 26), false)), (.bin .neq (.s (sl 29)) (.s (sl 32))), none⟩, ⟨(some (sl 34)), none, (.pick (.s (sl 26)) (.c (.bool true)) (.s (sl 33))), none⟩])
  (.cond (.s (sl 34))
  (.seq (.reg [⟨(some (sl 4)), none, (.mv (.c (.bool false))), none⟩])
  .ret)
  .skip))
  (.seq (.seq (.reg [⟨(some (sl 5)), none, (.mv (.c (.int .i64 0))), none⟩])
  (.block 0
  (.loop (.seq (.seq (.reg [⟨(some (sl 35)), none, (.mv (.s (sl 5))), none⟩, ⟨(some (sl 36)), none, (.fld (.s (sl 2)) 3), none⟩, ⟨(some (sl 37)), none, (.ld true (.s (sl 36)) none), none⟩, ⟨(some (sl 38)), none, (.len false (.s (sl 37))), none⟩, ⟨(some (sl 39)), none, (.bin .lss (.s (sl 35)) (.s (sl 38))), none⟩])
  (.cond (.s (sl 39))
  .skip
  (.exit 0)))
  (.seq (.block 1
  (.seq (.reg [⟨(some (sl 42)), none, (.fld (.s (sl 2)) 3), (some 0)⟩, ⟨(some (sl 43)), none, (.ld true (.s (sl 42)) none), (some 1)⟩, ⟨(some (sl 44)), none, (.mv (.s (sl 5))), (some 2)⟩, ⟨(some (sl 45)), none, (.idx true (.s (sl 43)) (.s (sl 44)) 8), (some 3)⟩, ⟨(some (sl 46)), none, (.ld true (.s (sl 45)) (some 8)), (some 4)⟩, ⟨(some (sl 47)), none, (.fld (.s (sl 3)) 3), (some 5)⟩, ⟨(some (sl 48)), none, (.ld true (.s (sl 47)) none), (some 6)⟩, ⟨(some (sl 49)), none, (.mv (.s (sl 5))), (some 7)⟩, ⟨(some (sl 50)), none, (.idx true (.s (sl 48)) (.s (sl 49)) 8), (some 8)⟩, ⟨(some (sl 51)), none, (.ld true (.s (sl 50)) (some 8)), (some 9)⟩, ⟨(some (sl 52)), none, (.call true (.f 35) [(.s (sl 46)), (.s (sl 51))]), (some 10)⟩, ⟨(some (sl 6)), none, (.mv (.s (sl 52))), (some 11)⟩])
  (.seq (.reg [⟨(some (sl 53)), none, (.mv (.s (sl 6))), none⟩, ⟨(some (sl 54)), none, (.not (.s (sl 53))), none⟩])
  (.cond (.s (sl 54))
  (.seq (.reg [⟨(some (sl 4)), none, (.mv (.c (.bool false))), none⟩])
  .ret)
  .skip))))
  (.reg [⟨(some (sl 40)), none, (.mv (.s (sl 5))), none⟩, ⟨(some (sl 41)), none, (.bin .add (.s (sl 40)) (.c (.int .i64 1))), none⟩, ⟨(some (sl 5)), none, (.mv (.s (sl 41))), none⟩]))))))
  (.seq (.reg [⟨(some (sl 4)), none, (.mv (.c (.bool true))), none⟩])
  .ret))))
def r_marlineref05_SameFunc : List ARes := [(.tmp (sl 4))]
theorem t_marlineref05_SameFunc : (Try.f54).body.bind (trCode Try.prog 8 (Try.f54).ntmps [] [(61, 3, 1), (79, 25, 6)] (drOk 8)) = some c_marlineref05_SameFunc := by kernel_rfl
theorem u_marlineref05_SameFunc : trRess Try.prog 8 (Try.f54).results.toList = some r_marlineref05_SameFunc := by kernel_rfl

end Go.Proofs.Ytghlfjpmpalpdaa
