/- The bodies of some functions, as the evaluator has them (printed by program), and that they are the program's own. -/
import Derived.Test.YtghlfjpmpalpdaaEv
namespace Go.Proofs.Ytghlfjpmpalpdaa
open Go.RowKit

/-- marline/marlinelaw05.IrInsts -/
def c_marlinelaw05_IrInsts : ACode :=
  (.seq (.reg [⟨(some (sl 3)), none, (.box true (.s (sl 0))), none⟩, ⟨(some (sl 5)), none, (.box true (.s (sl 2))), none⟩, ⟨(some (sl 6)), none, (.mv (.c (.bool false))), none⟩])
  (.seq (.reg [⟨(some (sl 9)), none, (.call true (.f 14) []), none⟩, ⟨(some (sl 7)), none, (.mv (.s (sl 9))), none⟩])
  (.seq (.reg [⟨(some (sl 10)), none, (.ld true (.s (sl 3)) (some 6)), (some 0)⟩, ⟨(some (sl 11)), none, (.call true (.f 16) [(.s (sl 10))]), (some 1)⟩, ⟨(some (sl 12)), none, (.ld true (.s (sl 3)) (some 6)), (some 2)⟩, ⟨(some (sl 13)), none, (.call true (.f 17) [(.s (sl 12))]), (some 3)⟩, ⟨(some (sl 14)), none, (.call true (.f 15) [(.s (sl 11)), (.s (sl 13))]), (some 4)⟩, ⟨(some (sl 8)), none, (.mv (.s (sl 14))), (some 5)⟩])
  (.seq (.reg [⟨(some (sl 15)), none, (.mv (.s (sl 7))), (some 0)⟩, ⟨(some (sl 16)), none, (.mv (.s (sl 15))), (some 1)⟩, ⟨(some (sl 17)), (some ((sl 16), true)), (.mv (.s (sl 8))), (some 2)⟩, ⟨(some (sl 18)), none, (.pick (.s (sl 16)) (.s (sl 17)) (.c (.bool false))), (some 3)⟩, ⟨(some (sl 19)), none, (.mv (.s (sl 18))), (some 4)⟩, ⟨(some (sl 20)), (some ((sl 19), true)), (.ld true (.s (sl 3)) (some 6)), (some 5)⟩, ⟨(some (sl 21)), (some ((sl 19), true)), (.mv (.s (sl 1))), (some 6)⟩, ⟨(some (sl 22)), (some ((sl 19), true)), (.call true (.f 18) [(.s (sl 20)), (.s (sl 21))]), (some 7)⟩, ⟨(some (sl 23)), (some ((sl 19), true)), (.ld true (.s (sl 3)) (some 6)), (some 8)⟩, ⟨(some (sl 24)), (some ((sl 19), true)), (.mv (.s (sl 1))), (some 9)⟩, ⟨(some (sl 25)), (some ((sl 19), true)), (.call true (.f 19) [(.s (sl 23)), (.s (sl 24))]), (some 10)⟩, ⟨(some (sl 26)), (some ((sl 19), true)), (.binb .eql (.s (sl 22)) (.s (sl 25))), (some 11)⟩, ⟨(some (sl 27)), none, (.pick (.s (sl 19)) (.s (sl 26)) (.c (.bool false))), (some 12)⟩, ⟨(some (sl 28)), none, (.mv (.s (sl 27))), (some 13)⟩, ⟨(some (sl 29)), (some ((sl 28), true)), (.ld true (.s (sl 5)) (some 8)), (some 14)⟩, ⟨(some (sl 30)), (some ((sl 28), true)), (.call true (.f 20) [(.s (sl 29))]), (some 15)⟩, ⟨(some (sl 31)), (some ((sl 28), true)), (.fld (.s (sl 5)) 0), (some 16)⟩, ⟨(some (sl 32)), (some ((sl 28), true)), (.ld true (.s (sl 31)) none), (some 17)⟩, ⟨(some (sl 33)), (some ((sl 28), true)), (.fld (.s (sl 5)) 1), (some 18)⟩, ⟨(some (sl 34)), (some ((sl 28), true)), (.ld true (.s (sl 33)) none), (some 19)⟩, ⟨(some (sl 35)), (some ((sl 28), true)), (.len false (.s (sl 34))), (some 20)⟩, ⟨(some (sl 36)), (some ((sl 28), true)), (.bin .add (.s (sl 32)) (.s (sl 35))), (some 21)⟩, ⟨(some (sl 37)), (some ((sl 28), true)), (.bin .eql (.s (sl 30)) (.s (sl 36))), (some 22)⟩, ⟨(some (sl 38)), none, (.pick (.s (sl 28)) (.s (sl 37)) (.c (.bool false))), (some 23)⟩, ⟨(some (sl 6)), none, (.mv (.s (sl 38))), (some 24)⟩])
  .ret))))
def r_marlinelaw05_IrInsts : List ARes := [(.tmp (sl 6))]
theorem t_marlinelaw05_IrInsts : (Try.f3).body.bind (trCode Try.prog 8 (Try.f3).ntmps [] [(61, 3, 1), (79, 25, 6)] (drOk 8)) = some c_marlinelaw05_IrInsts := by kernel_rfl
theorem u_marlinelaw05_IrInsts : trRess Try.prog 8 (Try.f3).results.toList = some r_marlinelaw05_IrInsts := by kernel_rfl

/-- marline/marlinelaw05.IrAhead -/
def c_marlinelaw05_IrAhead : ACode :=
  (.seq (.reg [⟨(some (sl 1)), none, (.box true (.s (sl 0))), none⟩, ⟨(some (sl 2)), none, (.mv (.c (.bool false))), none⟩])
  (.seq (.reg [⟨(some (sl 9)), none, (.call true (.f 14) []), none⟩, ⟨(some (sl 3)), none, (.mv (.s (sl 9))), none⟩])
  (.seq (.seq (.reg [⟨(some (sl 10)), none, (.ld true (.s (sl 1)) (some 4)), none⟩, ⟨(some (sl 11)), none, (.call true (.f 21) [(.s (sl 10))]), none⟩, ⟨(some (sl 12)), none, (.not (.s (sl 11))), none⟩])
  (.cond (.s (sl 12))
  (.seq (.reg [⟨(some (sl 13)), none, (.mv (.s (sl 3))), none⟩, ⟨(some (sl 2)), none, (.mv (.s (sl 13))), none⟩])
  .ret)
  .skip))
  (.seq (.seq (.reg [⟨(some (sl 4)), none, (.mv (.c (.int .i64 0))), none⟩])
  (.block 0
  (.loop (.seq (.seq (.reg [⟨(some (sl 14)), none, (.mv (.s (sl 4))), none⟩, ⟨(some (sl 15)), none, (.fld (.s (sl 1)) 3), none⟩, ⟨(some (sl 16)), none, (.ld true (.s (sl 15)) none), none⟩, ⟨(some (sl 17)), none, (.len false (.s (sl 16))), none⟩, ⟨(some (sl 18)), none, (.bin .lss (.s (sl 14)) (.s (sl 17))), none⟩])
  (.cond (.s (sl 18))
  .skip
  (.exit 0)))
  (.seq (.block 1
  (.seq (.seq (.reg [⟨(some (sl 21)), none, (.fld (.s (sl 1)) 3), none⟩, ⟨(some (sl 22)), none, (.ld true (.s (sl 21)) none), none⟩, ⟨(some (sl 23)), none, (.mv (.s (sl 4))), none⟩, ⟨(some (sl 24)), none, (.idx true (.s (sl 22)) (.s (sl 23)) 8), none⟩, ⟨(some (sl 25)), none, (.ld true (.s (sl 24)) (some 8)), none⟩, ⟨(some (sl 5)), none, (.new [(.int .i64 0), (.slice none 0 0), (.int .i64 0), (.int .i64 0), (.int .i64 0), (.slice none 0 0), (.int .i64 0), (.slice none 0 0)]), none⟩, ⟨none, none, (.ini 1 (.s (sl 5)) (.s (sl 25)) 8), none⟩])
  (.frz (sl 5)))
  (.seq (.seq (.reg [⟨(some (sl 6)), none, (.mv (.c (.int .i64 0))), none⟩])
  (.block 2
  (.loop (.seq (.seq (.reg [⟨(some (sl 26)), none, (.mv (.s (sl 6))), none⟩, ⟨(some (sl 27)), none, (.fld (.s (sl 5)) 1), none⟩, ⟨(some (sl 28)), none, (.ld true (.s (sl 27)) none), none⟩, ⟨(some (sl 29)), none, (.len false (.s (sl 28))), none⟩, ⟨(some (sl 30)), none, (.bin .lss (.s (sl 26)) (.s (sl 29))), none⟩])
  (.cond (.s (sl 30))
  .skip
  (.exit 2)))
  (.seq (.block 3
  (.seq (.reg [⟨(some (sl 33)), none, (.fld (.s (sl 5)) 1), none⟩, ⟨(some (sl 34)), none, (.ld true (.s (sl 33)) none), none⟩, ⟨(some (sl 35)), none, (.mv (.s (sl 6))), none⟩, ⟨(some (sl 36)), none, (.idx true (.s (sl 34)) (.s (sl 35)) 6), none⟩, ⟨(some (sl 37)), none, (.ld true (.s (sl 36)) (some 6)), none⟩, ⟨(some (sl 38)), none, (.call true (.f 16) [(.s (sl 37))]), none⟩, ⟨(some (sl 7)), none, (.mv (.s (sl 38))), none⟩])
  (.seq (.reg [⟨(some (sl 8)), none, (.mv (.c (.int .i64 0))), none⟩])
  (.block 4
  (.loop (.seq (.seq (.reg [⟨(some (sl 39)), none, (.mv (.s (sl 8))), none⟩, ⟨(some (sl 40)), none, (.mv (.s (sl 7))), none⟩, ⟨(some (sl 41)), none, (.len false (.s (sl 40))), none⟩, ⟨(some (sl 42)), none, (.bin .lss (.s (sl 39)) (.s (sl 41))), none⟩])
  (.cond (.s (sl 42))
  .skip
  (.exit 4)))
  (.seq (.block 5
  (.seq (.reg [⟨(some (sl 45)), none, (.mv (.s (sl 7))), (some 0)⟩, ⟨(some (sl 46)), none, (.mv (.s (sl 8))), (some 1)⟩, ⟨(some (sl 47)), none, (.idx true (.s (sl 45)) (.s (sl 46)) 1), (some 2)⟩, ⟨(some (sl 48)), none, (.ld true (.s (sl 47)) none), (some 3)⟩, ⟨(some (sl 49)), none, (.bin .lss (.s (sl 48)) (.c (.int .i64 0))), (some 4)⟩, ⟨(some (sl 50)), none, (.mv (.s (sl 49))), (some 5)⟩, ⟨(some (sl 51)), (some ((sl 50), false)), (.mv (.s (sl 7))), (some 6)⟩, ⟨(some (sl 52)), (some ((sl 50), false)), (.mv (.s (sl 8))), (some 7)⟩, ⟨(some (sl 53)), (some ((sl 50), false)), (.idx true (.s (sl 51)) (.s (sl 52)) 1), (some 8)⟩, ⟨(some (sl 54)), (some ((sl 50), false)), (.ld true (.s (sl 53)) none), (some 9)⟩, ⟨(some (sl 55)), (some ((sl 50), false)), (.fld (.s (sl 5)) 0), (some 10)⟩, ⟨(some (sl 56)), (some ((sl 50), false)), (.ld true (.s (sl 55)) none), (some 11)⟩, ⟨(some (sl 57)), (some ((sl 50), false)), (.mv (.s (sl 6))), (some 12)⟩, ⟨(some (sl 58)), (some ((sl 50), false)), (.bin .add (.s (sl 56)) (.s (sl 57))), (some 13)⟩, ⟨(some (sl 59)), (some ((sl 50), false)), (.bin .geq (.s (sl 54)) (.s (sl 58))), (some 14)⟩, ⟨(some (sl 60)), none, (.pick (.s (sl 50)) (.c (.bool true)) (.s (sl 59))), (some 15)⟩])
  (.cond (.s (sl 60))
  (.seq (.reg [⟨(some (sl 2)), none, (.mv (.c (.bool false))), none⟩])
  .ret)
  .skip)))
  (.reg [⟨(some (sl 43)), none, (.mv (.s (sl 8))), none⟩, ⟨(some (sl 44)), none, (.bin .add (.s (sl 43)) (.c (.int .i64 1))), none⟩, ⟨(some (sl 8)), none, (.mv (.s (sl 44))), none⟩]))))))))
  (.reg [⟨(some (sl 31)), none, (.mv (.s (sl 6))), none⟩, ⟨(some (sl 32)), none, (.bin .add (.s (sl 31)) (.c (.int .i64 1))), none⟩, ⟨(some (sl 6)), none, (.mv (.s (sl 32))), none⟩]))))))
  (.seq (.reg [⟨(some (sl 61)), none, (.fld (.s (sl 5)) 2), (some 0)⟩, ⟨(some (sl 62)), none, (.fld (.s (sl 61)) 0), (some 1)⟩, ⟨(some (sl 63)), none, (.ld true (.s (sl 62)) none), (some 2)⟩, ⟨(some (sl 64)), none, (.bin .neq (.s (sl 63)) (.c (.int .i64 1))), (some 3)⟩, ⟨(some (sl 65)), none, (.mv (.s (sl 64))), (some 4)⟩, ⟨(some (sl 66)), (some ((sl 65), true)), (.fld (.s (sl 5)) 2), (some 5)⟩, ⟨(some (sl 67)), (some ((sl 65), true)), (.fld (.s (sl 66)) 1), (some 6)⟩, ⟨(some (sl 68)), (some ((sl 65), true)), (.ld true (.s (sl 67)) none), (some 7)⟩, ⟨(some (sl 69)), (some ((sl 65), true)), (.bin .lss (.s (sl 68)) (.c (.int .i64 0))), (some 8)⟩, ⟨(some (sl 70)), (some ((sl 65), true)), (.mv (.s (sl 69))), (some 9)⟩, ⟨(some (sl 71)), (some ((sl 70), false)), (.fld (.s (sl 5)) 2), (some 10)⟩, ⟨(some (sl 72)), (some ((sl 70), false)), (.fld (.s (sl 71)) 1), (some 11)⟩, ⟨(some (sl 73)), (some ((sl 70), false)), (.ld true (.s (sl 72)) none), (some 12)⟩, ⟨(some (sl 74)), (some ((sl 70), false)), (.ld true (.s (sl 5)) (some 8)), (some 13)⟩, ⟨(some (sl 75)), (some ((sl 70), false)), (.call true (.f 20) [(.s (sl 74))]), (some 14)⟩, ⟨(some (sl 76)), (some ((sl 70), false)), (.bin .geq (.s (sl 73)) (.s (sl 75))), (some 15)⟩, ⟨(some (sl 77)), (some ((sl 65), true)), (.pick (.s (sl 70)) (.c (.bool true)) (.s (sl 76))), (some 16)⟩, ⟨(some (sl 78)), none, (.pick (.s (sl 65)) (.s (sl 77)) (.c (.bool false))), (some 17)⟩])
  (.cond (.s (sl 78))
  (.seq (.reg [⟨(some (sl 2)), none, (.mv (.c (.bool false))), none⟩])
  .ret)
  .skip)))))
  (.reg [⟨(some (sl 19)), none, (.mv (.s (sl 4))), none⟩, ⟨(some (sl 20)), none, (.bin .add (.s (sl 19)) (.c (.int .i64 1))), none⟩, ⟨(some (sl 4)), none, (.mv (.s (sl 20))), none⟩]))))))
  (.seq (.reg [⟨(some (sl 79)), none, (.mv (.s (sl 3))), none⟩, ⟨(some (sl 2)), none, (.mv (.s (sl 79))), none⟩])
  .ret)))))
def r_marlinelaw05_IrAhead : List ARes := [(.tmp (sl 2))]
theorem t_marlinelaw05_IrAhead : (Try.f4).body.bind (trCode Try.prog 8 (Try.f4).ntmps [] [(61, 3, 1), (79, 25, 6)] (drOk 8)) = some c_marlinelaw05_IrAhead := by kernel_rfl
theorem u_marlinelaw05_IrAhead : trRess Try.prog 8 (Try.f4).results.toList = some r_marlinelaw05_IrAhead := by kernel_rfl

/-- marline/marlinelaw05.IrJumps -/
def c_marlinelaw05_IrJumps : ACode :=
  (.seq (.reg [⟨(some (sl 1)), none, (.box true (.s (sl 0))), none⟩, ⟨(some (sl 2)), none, (.mv (.c (.bool false))), none⟩])
  (.seq (.reg [⟨(some (sl 6)), none, (.call true (.f 14) []), none⟩, ⟨(some (sl 3)), none, (.mv (.s (sl 6))), none⟩])
  (.seq (.seq (.reg [⟨(some (sl 7)), none, (.ld true (.s (sl 1)) (some 4)), none⟩, ⟨(some (sl 8)), none, (.call true (.f 21) [(.s (sl 7))]), none⟩, ⟨(some (sl 9)), none, (.not (.s (sl 8))), none⟩])
  (.cond (.s (sl 9))
  (.seq (.reg [⟨(some (sl 10)), none, (.mv (.s (sl 3))), none⟩, ⟨(some (sl 2)), none, (.mv (.s (sl 10))), none⟩])
  .ret)
  .skip))
  (.seq (.seq (.reg [⟨(some (sl 4)), none, (.mv (.c (.int .i64 0))), none⟩])
  (.block 0
  (.loop (.seq (.seq (.reg [⟨(some (sl 11)), none, (.mv (.s (sl 4))), none⟩, ⟨(some (sl 12)), none, (.fld (.s (sl 1)) 3), none⟩, ⟨(some (sl 13)), none, (.ld true (.s (sl 12)) none), none⟩, ⟨(some (sl 14)), none, (.len false (.s (sl 13))), none⟩, ⟨(some (sl 15)), none, (.bin .lss (.s (sl 11)) (.s (sl 14))), none⟩])
  (.cond (.s (sl 15))
  .skip
  (.exit 0)))
  (.seq (.block 1
  (.seq (.seq (.reg [⟨(some (sl 18)), none, (.fld (.s (sl 1)) 3), none⟩, ⟨(some (sl 19)), none, (.ld true (.s (sl 18)) none), none⟩, ⟨(some (sl 20)), none, (.mv (.s (sl 4))), none⟩, ⟨(some (sl 21)), none, (.idx true (.s (sl 19)) (.s (sl 20)) 8), none⟩, ⟨(some (sl 22)), none, (.fld (.s (sl 21)) 2), none⟩, ⟨(some (sl 23)), none, (.ld true (.s (sl 22)) (some 6)), none⟩, ⟨(some (sl 5)), none, (.new [(.int .i64 0), (.int .i64 0), (.int .i64 0), (.slice none 0 0), (.int .i64 0), (.slice none 0 0)]), none⟩, ⟨none, none, (.ini 1 (.s (sl 5)) (.s (sl 23)) 6), none⟩])
  (.frz (sl 5)))
  (.seq (.seq (.reg [⟨(some (sl 24)), none, (.fld (.s (sl 5)) 0), (some 0)⟩, ⟨(some (sl 25)), none, (.ld true (.s (sl 24)) none), (some 1)⟩, ⟨(some (sl 26)), none, (.bin .neq (.s (sl 25)) (.c (.int .i64 3))), (some 2)⟩, ⟨(some (sl 27)), none, (.mv (.s (sl 26))), (some 3)⟩, ⟨(some (sl 28)), (some ((sl 27), true)), (.fld (.s (sl 5)) 2), (some 4)⟩, ⟨(some (sl 29)), (some ((sl 27), true)), (.ld true (.s (sl 28)) none), (some 5)⟩, ⟨(some (sl 30)), (some ((sl 27), true)), (.bin .lss (.s (sl 29)) (.c (.int .i64 0))), (some 6)⟩, ⟨(some (sl 31)), (some ((sl 27), true)), (.mv (.s (sl 30))), (some 7)⟩, ⟨(some (sl 32)), (some ((sl 31), false)), (.fld (.s (sl 5)) 2), (some 8)⟩, ⟨(some (sl 33)), (some ((sl 31), false)), (.ld true (.s (sl 32)) none), (some 9)⟩, ⟨(some (sl 34)), (some ((sl 31), false)), (.fld (.s (sl 1)) 3), (some 10)⟩, ⟨(some (sl 35)), (some ((sl 31), false)), (.ld true (.s (sl 34)) none), (some 11)⟩, ⟨(some (sl 36)), (some ((sl 31), false)), (.len false (.s (sl 35))), (some 12)⟩, ⟨(some (sl 37)), (some ((sl 31), false)), (.bin .geq (.s (sl 33)) (.s (sl 36))), (some 13)⟩, ⟨(some (sl 38)), (some ((sl 27), true)), (.pick (.s (sl 31)) (.c (.bool true)) (.s (sl 37))), (some 14)⟩, ⟨(some (sl 39)), (some ((sl 27), true)), (.mv (.s (sl 38))), (some 15)⟩, ⟨(some (sl 40)), (some ((sl 39), false)), (.fld (.s (sl 5)) 3), (some 16)⟩, ⟨(some (sl 41)), (some ((sl 39), false)), (.ld true (.s (sl 40)) none), (some 17)⟩, ⟨(some (sl 42)), (some ((sl 39), false)), (.len false (.s (sl 41))), (some 18)⟩, ⟨(some (sl 43)), (some ((sl 39), false)), (.fld (.s (sl 1)) 3), (some 19)⟩, ⟨(some (sl 44)), (some ((sl 39), false)), (.ld true (.s (sl 43)) none), (some 20)⟩, ⟨(some (sl 45)), (some ((sl 39), false)), (.fld (.s (sl 5)) 2), (some 21)⟩, ⟨(some (sl 46)), (some ((sl 39), false)), (.ld true (.s (sl 45)) none), (some 22)⟩, ⟨(some (sl 47)), (some ((sl 39), false)), (.idx true (.s (sl 44)) (.s (sl 46)) 8), (some 23)⟩, ⟨(some (sl 48)), (some ((sl 39), false)), (.fld (.s (sl 47)) 0), (some 24)⟩, ⟨(some (sl 49)), (some ((sl 39), false)), (.ld true (.s (sl 48)) none), (some 25)⟩, ⟨(some (sl 50)), (some ((sl 39), false)), (.bin .neq (.s (sl 42)) (.s (sl 49))), (some 26)⟩, ⟨(some (sl 51)), (some ((sl 27), true)), (.pick (.s (sl 39)) (.c (.bool true)) (.s (sl 50))), (some 27)⟩, ⟨(some (sl 52)), none, (.pick (.s (sl 27)) (.s (sl 51)) (.c (.bool false))), (some 28)⟩])
  (.cond (.s (sl 52))
  (.seq (.reg [⟨(some (sl 2)), none, (.mv (.c (.bool false))), none⟩])
  .ret)
  .skip))
  (.seq (.reg [⟨(some (sl 53)), none, (.fld (.s (sl 5)) 0), (some 0)⟩, ⟨(some (sl 54)), none, (.ld true (.s (sl 53)) none), (some 1)⟩, ⟨(some (sl 55)), none, (.bin .eql (.s (sl 54)) (.c (.int .i64 2))), (some 2)⟩, ⟨(some (sl 56)), none, (.mv (.s (sl 55))), (some 3)⟩, ⟨(some (sl 57)), (some ((sl 56), true)), (.fld (.s (sl 5)) 4), (some 4)⟩, ⟨(some (sl 58)), (some ((sl 56), true)), (.ld true (.s (sl 57)) none), (some 5)⟩, ⟨(some (sl 59)), (some ((sl 56), true)), (.bin .lss (.s (sl 58)) (.c (.int .i64 0))), (some 6)⟩, ⟨(some (sl 60)), (some ((sl 56), true)), (.mv (.s (sl 59))), (some 7)⟩, ⟨(some (sl 61)), (some ((sl 60), false)), (.fld (.s (sl 5)) 4), (some 8)⟩, ⟨(some (sl 62)), (some ((sl 60), false)), (.ld true (.s (sl 61)) none), (some 9)⟩, ⟨(some (sl 63)), (some ((sl 60), false)), (.fld (.s (sl 1)) 3), (some 10)⟩, ⟨(some (sl 64)), (some ((sl 60), false)), (.ld true (.s (sl 63)) none), (some 11)⟩, ⟨(some (sl 65)), (some ((sl 60), false)), (.len false (.s (sl 64))), (some 12)⟩, ⟨(some (sl 66)), (some ((sl 60), false)), (.bin .geq (.s (sl 62)) (.s (sl 65))), (some 13)⟩, ⟨(some (sl 67)), (some ((sl 56), true)), (.pick (.s (sl 60)) (.c (.bool true)) (.s (sl 66))), (some 14)⟩, ⟨(some (sl 68)), (some ((sl 56), true)), (.mv (.s (sl 67))), (some 15)⟩, ⟨(some (sl 69)), (some ((sl 68), false)), (.fld (.s (sl 5)) 5), (some 16)⟩, ⟨(some (sl 70)), (some ((sl 68), false)), (.ld true (.s (sl 69)) none), (some 17)⟩, ⟨(some (sl 71)), (some ((sl 68), false)), (.len false (.s (sl 70))), (some 18)⟩, ⟨(some (sl 72)), (some ((sl 68), false)), (.fld (.s (sl 1)) 3), (some 19)⟩, ⟨(some (sl 73)), (some ((sl 68), false)), (.ld true (.s (sl 72)) none), (some 20)⟩, ⟨(some (sl 74)), (some ((sl 68), false)), (.fld (.s (sl 5)) 4), (some 21)⟩, ⟨(some (sl 75)), (some ((sl 68), false)), (.ld true (.s (sl 74)) none), (some 22)⟩, ⟨(some (sl 76)), (some ((sl 68), false)), (.idx true (.s (sl 73)) (.s (sl 75)) 8), (some 23)⟩, ⟨(some (sl 77)), (some ((sl 68), false)), (.fld (.s (sl 76)) 0), (some 24)⟩, ⟨(some (sl 78)), (some ((sl 68), false)), (.ld true (.s (sl 77)) none), (some 25)⟩, ⟨(some (sl 79)), (some ((sl 68), false)), (.bin .neq (.s (sl 71)) (.s (sl 78))), (some 26)⟩, ⟨(some (sl 80)), (some ((sl 56), true)), (.pick (.s (sl 68)) (.c (.bool true)) (.s (sl 79))), (some 27)⟩, ⟨(some (sl 81)), none, (.pick (.s (sl 56)) (.s (sl 80)) (.c (.bool false))), (some 28)⟩])
  (.cond (.s (sl 81))
  (.seq (.reg [⟨(some (sl 2)), none, (.mv (.c (.bool false))), none⟩])
  .ret)
  .skip)))))
  (.reg [⟨(some (sl 16)), none, (.mv (.s (sl 4))), none⟩, ⟨(some (sl 17)), none, (.bin .add (.s (sl 16)) (.c (.int .i64 1))), none⟩, ⟨(some (sl 4)), none, (.mv (.s (sl 17))), none⟩]))))))
  (.seq (.reg [⟨(some (sl 82)), none, (.mv (.s (sl 3))), (some 0)⟩, ⟨(some (sl 83)), none, (.mv (.s (sl 82))), (some 1)⟩, ⟨(some (sl 84)), (some ((sl 83), true)), (.fld (.s (sl 1)) 3), (some 2)⟩, ⟨(some (sl 85)), (some ((sl 83), true)), (.ld true (.s (sl 84)) none), (some 3)⟩, ⟨(some (sl 86)), (some ((sl 83), true)), (.len false (.s (sl 85))), (some 4)⟩, ⟨(some (sl 87)), (some ((sl 83), true)), (.bin .eql (.s (sl 86)) (.c (.int .i64 0))), (some 5)⟩, ⟨(some (sl 88)), (some ((sl 83), true)), (.mv (.s (sl 87))), (some 6)⟩, ⟨(some (sl 89)), (some ((sl 88), false)), (.fld (.s (sl 1)) 3), (some 7)⟩, ⟨(some (sl 90)), (some ((sl 88), false)), (.ld true (.s (sl 89)) none), (some 8)⟩, ⟨(some (sl 91)), (some ((sl 88), false)), (.idx true (.s (sl 90)) (.c (.int .i64 0)) 8), (some 9)⟩, ⟨(some (sl 92)), (some ((sl 88), false)), (.fld (.s (sl 91)) 0), (some 10)⟩, ⟨(some (sl 93)), (some ((sl 88), false)), (.ld true (.s (sl 92)) none), (some 11)⟩, ⟨(some (sl 94)), (some ((sl 88), false)), (.fld (.s (sl 1)) 2), (some 12)⟩, ⟨(some (sl 95)), (some ((sl 88), false)), (.ld true (.s (sl 94)) none), (some 13)⟩, ⟨(some (sl 96)), (some ((sl 88), false)), (.bin .eql (.s (sl 93)) (.s (sl 95))), (some 14)⟩, ⟨(some (sl 97)), (some ((sl 83), true)), (.pick (.s (sl 88)) (.c (.bool true)) (.s (sl 96))), (some 15)⟩, ⟨(some (sl 98)), none, (.pick (.s (sl 83)) (.s (sl 97)) (.c (.bool false))), (some 16)⟩, ⟨(some (sl 2)), none, (.mv (.s (sl 98))), (some 17)⟩])
  .ret)))))
def r_marlinelaw05_IrJumps : List ARes := [(.tmp (sl 2))]
theorem t_marlinelaw05_IrJumps : (Try.f5).body.bind (trCode Try.prog 8 (Try.f5).ntmps [] [(61, 3, 1), (79, 25, 6)] (drOk 8)) = some c_marlinelaw05_IrJumps := by kernel_rfl
theorem u_marlinelaw05_IrJumps : trRess Try.prog 8 (Try.f5).results.toList = some r_marlinelaw05_IrJumps := by kernel_rfl

/-- marline/marlinelaw05.IrFuncs -/
def c_marlinelaw05_IrFuncs : ACode :=
  (.seq (.reg [⟨(some (sl 1)), none, (.box true (.s (sl 0))), none⟩, ⟨(some (sl 2)), none, (.mv (.c (.bool false))), none⟩])
  (.seq (.reg [⟨(some (sl 5)), none, (.call true (.f 14) []), none⟩, ⟨(some (sl 3)), none, (.mv (.s (sl 5))), none⟩])
  (.seq (.reg [⟨(some (sl 6)), none, (.ld true (.s (sl 1)) (some 4)), (some 0)⟩, ⟨(some (sl 7)), none, (.call true (.f 26) [(.s (sl 6))]), (some 1)⟩, ⟨(some (sl 8)), none, (.ld true (.s (sl 1)) (some 4)), (some 2)⟩, ⟨(some (sl 9)), none, (.call true (.f 27) [(.s (sl 8))]), (some 3)⟩, ⟨(some (sl 10)), none, (.call true (.f 25) [(.s (sl 7)), (.s (sl 9))]), (some 4)⟩, ⟨(some (sl 4)), none, (.mv (.s (sl 10))), (some 5)⟩])
  (.seq (.reg [⟨(some (sl 11)), none, (.mv (.s (sl 3))), (some 0)⟩, ⟨(some (sl 12)), none, (.mv (.s (sl 11))), (some 1)⟩, ⟨(some (sl 13)), (some ((sl 12), true)), (.mv (.s (sl 4))), (some 2)⟩, ⟨(some (sl 14)), none, (.pick (.s (sl 12)) (.s (sl 13)) (.c (.bool false))), (some 3)⟩, ⟨(some (sl 15)), none, (.mv (.s (sl 14))), (some 4)⟩, ⟨(some (sl 16)), (some ((sl 15), true)), (.ld true (.s (sl 1)) (some 4)), (some 5)⟩, ⟨(some (sl 17)), (some ((sl 15), true)), (.call true (.f 21) [(.s (sl 16))]), (some 6)⟩, ⟨(some (sl 18)), (some ((sl 15), true)), (.ld true (.s (sl 1)) (some 4)), (some 7)⟩, ⟨(some (sl 19)), (some ((sl 15), true)), (.call true (.f 28) [(.s (sl 18))]), (some 8)⟩, ⟨(some (sl 20)), (some ((sl 15), true)), (.binb .eql (.s (sl 17)) (.s (sl 19))), (some 9)⟩, ⟨(some (sl 21)), none, (.pick (.s (sl 15)) (.s (sl 20)) (.c (.bool false))), (some 10)⟩, ⟨(some (sl 2)), none, (.mv (.s (sl 21))), (some 11)⟩])
  .ret))))
def r_marlinelaw05_IrFuncs : List ARes := [(.tmp (sl 2))]
theorem t_marlinelaw05_IrFuncs : (Try.f7).body.bind (trCode Try.prog 8 (Try.f7).ntmps [] [(61, 3, 1), (79, 25, 6)] (drOk 8)) = some c_marlinelaw05_IrFuncs := by kernel_rfl
theorem u_marlinelaw05_IrFuncs : trRess Try.prog 8 (Try.f7).results.toList = some r_marlinelaw05_IrFuncs := by kernel_rfl

/-- marline/marlinelaw05.IrNames -/
def c_marlinelaw05_IrNames : ACode :=
  (.seq (.reg [⟨(some (sl 1)), none, (.box true (.s (sl 0))), none⟩, ⟨(some (sl 2)), none, (.mv (.c (.bool false))), none⟩])
  (.seq (.reg [⟨(some (sl 7)), none, (.call true (.f 14) []), none⟩, ⟨(some (sl 3)), none, (.mv (.s (sl 7))), none⟩])
  (.seq (.seq (.reg [⟨(some (sl 8)), none, (.ld true (.s (sl 1)) (some 2)), none⟩, ⟨(some (sl 9)), none, (.call true (.f 22) [(.s (sl 8))]), none⟩, ⟨(some (sl 10)), none, (.bin .neq (.s (sl 9)) (.c (.int .i64 0))), none⟩])
  (.cond (.s (sl 10))
  (.seq (.reg [⟨(some (sl 11)), none, (.mv (.s (sl 3))), none⟩, ⟨(some (sl 2)), none, (.mv (.s (sl 11))), none⟩])
  .ret)
  .skip))
  (.seq (.seq (.reg [⟨(some (sl 4)), none, (.mv (.c (.int .i64 0))), none⟩])
  (.block 0
  (.loop (.seq (.seq (.reg [⟨(some (sl 12)), none, (.mv (.s (sl 4))), none⟩, ⟨(some (sl 13)), none, (.fld (.s (sl 1)) 0), none⟩, ⟨(some (sl 14)), none, (.ld true (.s (sl 13)) none), none⟩, ⟨(some (sl 15)), none, (.len false (.s (sl 14))), none⟩, ⟨(some (sl 16)), none, (.bin .lss (.s (sl 12)) (.s (sl 15))), none⟩])
  (.cond (.s (sl 16))
  .skip
  (.exit 0)))
  (.seq (.block 1
  (.seq (.reg [⟨(some (sl 19)), none, (.fld (.s (sl 1)) 0), none⟩, ⟨(some (sl 20)), none, (.ld true (.s (sl 19)) none), none⟩, ⟨(some (sl 21)), none, (.mv (.s (sl 4))), none⟩, ⟨(some (sl 22)), none, (.idx true (.s (sl 20)) (.s (sl 21)) 4), none⟩, ⟨(some (sl 23)), none, (.ld true (.s (sl 22)) (some 4)), none⟩, ⟨(some (sl 24)), none, (.call true (.f 26) [(.s (sl 23))]), none⟩, ⟨(some (sl 5)), none, (.mv (.s (sl 24))), none⟩])
  (.seq (.seq (.reg [⟨(some (sl 6)), none, (.mv (.c (.int .i64 0))), none⟩])
  (.block 2
  (.loop (.seq (.seq (.reg [⟨(some (sl 25)), none, (.mv (.s (sl 6))), none⟩, ⟨(some (sl 26)), none, (.mv (.s (sl 5))), none⟩, ⟨(some (sl 27)), none, (.len false (.s (sl 26))), none⟩, ⟨(some (sl 28)), none, (.bin .lss (.s (sl 25)) (.s (sl 27))), none⟩])
  (.cond (.s (sl 28))
  .skip
  (.exit 2)))
  (.seq (.block 3
  (.seq (.reg [⟨(some (sl 31)), none, (.ld true (.s (sl 1)) (some 2)), (some 0)⟩, ⟨(some (sl 32)), none, (.mv (.s (sl 5))), (some 1)⟩, ⟨(some (sl 33)), none, (.mv (.s (sl 6))), (some 2)⟩, ⟨(some (sl 34)), none, (.idx true (.s (sl 32)) (.s (sl 33)) 1), (some 3)⟩, ⟨(some (sl 35)), none, (.ld true (.s (sl 34)) none), (some 4)⟩, ⟨(some (sl 36)), none, (.call true (.f 23) [(.s (sl 31)), (.s (sl 35))]), (some 5)⟩, ⟨(some (sl 37)), none, (.bin .lss (.s (sl 36)) (.c (.int .i64 0))), (some 6)⟩, ⟨(some (sl 38)), none, (.mv (.s (sl 37))), (some 7)⟩, ⟨(some (sl 39)), (some ((sl 38), true)), (.ld true (.s (sl 1)) (some 2)), (some 8)⟩, ⟨(some (sl 40)), (some ((sl 38), true)), (.mv (.s (sl 5))), (some 9)⟩, ⟨(some (sl 41)), (some ((sl 38), true)), (.mv (.s (sl 6))), (some 10)⟩, ⟨(some (sl 42)), (some ((sl 38), true)), (.idx true (.s (sl 40)) (.s (sl 41)) 1), (some 11)⟩, ⟨(some (sl 43)), (some ((sl 38), true)), (.ld true (.s (sl 42)) none), (some 12)⟩, ⟨(some (sl 44)), (some ((sl 38), true)), (.call true (.f 24) [(.s (sl 39)), (.s (sl 43))]), (some 13)⟩, ⟨(some (sl 45)), (some ((sl 38), true)), (.bin .lss (.s (sl 44)) (.c (.int .i64 0))), (some 14)⟩, ⟨(some (sl 46)), none, (.pick (.s (sl 38)) (.s (sl 45)) (.c (.bool false))), (some 15)⟩])
  (.cond (.s (sl 46))
  (.seq (.reg [⟨(some (sl 2)), none, (.mv (.c (.bool false))), none⟩])
  .ret)
  .skip)))
  (.reg [⟨(some (sl 29)), none, (.mv (.s (sl 6))), none⟩, ⟨(some (sl 30)), none, (.bin .add (.s (sl 29)) (.c (.int .i64 1))), none⟩, ⟨(some (sl 6)), none, (.mv (.s (sl 30))), none⟩]))))))
  (.seq (.reg [⟨(some (sl 47)), none, (.ld true (.s (sl 1)) (some 2)), (some 0)⟩, ⟨(some (sl 48)), none, (.fld (.s (sl 1)) 0), (some 1)⟩, ⟨(some (sl 49)), none, (.ld true (.s (sl 48)) none), (some 2)⟩, ⟨(some (sl 50)), none, (.mv (.s (sl 4))), (some 3)⟩, ⟨(some (sl 51)), none, (.idx true (.s (sl 49)) (.s (sl 50)) 4), (some 4)⟩, ⟨(some (sl 52)), none, (.fld (.s (sl 51)) 0), (some 5)⟩, ⟨(some (sl 53)), none, (.ld true (.s (sl 52)) none), (some 6)⟩, ⟨(some (sl 54)), none, (.call true (.f 24) [(.s (sl 47)), (.s (sl 53))]), (some 7)⟩, ⟨(some (sl 55)), none, (.bin .geq (.s (sl 54)) (.c (.int .i64 0))), (some 8)⟩, ⟨(some (sl 56)), none, (.mv (.s (sl 55))), (some 9)⟩, ⟨(some (sl 57)), (some ((sl 56), false)), (.ld true (.s (sl 1)) (some 2)), (some 10)⟩, ⟨(some (sl 58)), (some ((sl 56), false)), (.fld (.s (sl 1)) 0), (some 11)⟩, ⟨(some (sl 59)), (some ((sl 56), false)), (.ld true (.s (sl 58)) none), (some 12)⟩, ⟨(some (sl 60)), (some ((sl 56), false)), (.mv (.s (sl 4))), (some 13)⟩, ⟨(some (sl 61)), (some ((sl 56), false)), (.idx true (.s (sl 59)) (.s (sl 60)) 4), (some 14)⟩, ⟨(some (sl 62)), (some ((sl 56), false)), (.fld (.s (sl 61)) 0), (some 15)⟩, ⟨(some (sl 63)), (some ((sl 56), false)), (.ld true (.s (sl 62)) none), (some 16)⟩, ⟨(some (sl 64)), (some ((sl 56), false)), (.call true (.f 23) [(.s (sl 57)), (.s (sl 63))]), (some 17)⟩, ⟨(some (sl 65)), (some ((sl 56), false)), (.mv (.s (sl 4))), (some 18)⟩, ⟨(some (sl 66)), (some ((sl 56), false)), (.bin .neq (.s (sl 64)) (.s (sl 65))), (some 19)⟩, ⟨(some (sl 67)), none, (.pick (.s (sl 56)) (.c (.bool true)) (.s (sl 66))), (some 20)⟩])
  (.cond (.s (sl 67))
  (.seq (.reg [⟨(some (sl 2)), none, (.mv (.c (.bool false))), none⟩])
  .ret)
  .skip)))))
  (.reg [⟨(some (sl 17)), none, (.mv (.s (sl 4))), none⟩, ⟨(some (sl 18)), none, (.bin .add (.s (sl 17)) (.c (.int .i64 1))), none⟩, ⟨(some (sl 4)), none, (.mv (.s (sl 18))), none⟩]))))))
  (.seq (.reg [⟨(some (sl 68)), none, (.mv (.s (sl 3))), none⟩, ⟨(some (sl 69)), none, (.mv (.s (sl 68))), none⟩, ⟨(some (sl 70)), (some ((sl 69), true)), (.fld (.s (sl 1)) 0), none⟩, ⟨(some (sl 71)), (some ((sl 69), true)), (.ld true (.s (sl 70)) none), none⟩, ⟨(some (sl 72)), (some ((sl 69), true)), (.len false (.s (sl 71))), none⟩, ⟨(some (sl 73)), (some ((sl 69), true)), (.bin .leq (.s (sl 72)) (.c (.int .i64 16))), none⟩, ⟨(some (sl 74)), none, (.pick (.s (sl 69)) (.s (sl 73)) (.c (.bool false))), none⟩, ⟨(some (sl 75)), none, (.mv (.s (sl 74))), none⟩, ⟨(some (sl 76)), (some ((sl 75), true)), (.fld (.s (sl 1)) 1), none⟩, ⟨(some (sl 77)), (some ((sl 75), true)), (.ld true (.s (sl 76)) none), none⟩, ⟨(some (sl 78)), (some ((sl 75), true)), (.len false (.s (sl 77))), none⟩, ⟨(some (sl 79)), (some ((sl 75), true)), (.bin .leq (.s (sl 78)) (.c (.int .i64 16))), none⟩, ⟨(some (sl 80)), none, (.pick (.s (sl 75)) (.s (sl 79)) (.c (.bool false))), none⟩, ⟨(some (sl 2)), none, (.mv (.s (sl 80))), none⟩])
  .ret)))))
def r_marlinelaw05_IrNames : List ARes := [(.tmp (sl 2))]
theorem t_marlinelaw05_IrNames : (Try.f9).body.bind (trCode Try.prog 8 (Try.f9).ntmps [] [(61, 3, 1), (79, 25, 6)] (drOk 8)) = some c_marlinelaw05_IrNames := by kernel_rfl
theorem u_marlinelaw05_IrNames : trRess Try.prog 8 (Try.f9).results.toList = some r_marlinelaw05_IrNames := by kernel_rfl

/-- marline/marlinelaw05.IrCounts -/
def c_marlinelaw05_IrCounts : ACode :=
  (.seq (.reg [⟨(some (sl 1)), none, (.box true (.s (sl 0))), none⟩, ⟨(some (sl 2)), none, (.mv (.c (.bool false))), none⟩])
  (.seq (.reg [⟨(some (sl 6)), none, (.call true (.f 14) []), none⟩, ⟨(some (sl 3)), none, (.mv (.s (sl 6))), none⟩])
  (.seq (.seq (.reg [⟨(some (sl 7)), none, (.ld true (.s (sl 1)) (some 4)), none⟩, ⟨(some (sl 8)), none, (.call true (.f 21) [(.s (sl 7))]), none⟩, ⟨(some (sl 9)), none, (.not (.s (sl 8))), none⟩])
  (.cond (.s (sl 9))
  (.seq (.reg [⟨(some (sl 10)), none, (.mv (.s (sl 3))), none⟩, ⟨(some (sl 2)), none, (.mv (.s (sl 10))), none⟩])
  .ret)
  .skip))
  (.seq (.seq (.reg [⟨(some (sl 4)), none, (.mv (.c (.int .i64 0))), none⟩])
  (.block 0
  (.loop (.seq (.seq (.reg [⟨(some (sl 11)), none, (.mv (.s (sl 4))), none⟩, ⟨(some (sl 12)), none, (.fld (.s (sl 1)) 3), none⟩, ⟨(some (sl 13)), none, (.ld true (.s (sl 12)) none), none⟩, ⟨(some (sl 14)), none, (.len false (.s (sl 13))), none⟩, ⟨(some (sl 15)), none, (.bin .lss (.s (sl 11)) (.s (sl 14))), none⟩])
  (.cond (.s (sl 15))
  .skip
  (.exit 0)))
  (.seq (.block 1
  (.seq (.seq (.reg [⟨(some (sl 18)), none, (.fld (.s (sl 1)) 3), none⟩, ⟨(some (sl 19)), none, (.ld true (.s (sl 18)) none), none⟩, ⟨(some (sl 20)), none, (.mv (.s (sl 4))), none⟩, ⟨(some (sl 21)), none, (.idx true (.s (sl 19)) (.s (sl 20)) 8), none⟩, ⟨(some (sl 22)), none, (.ld true (.s (sl 21)) (some 8)), none⟩, ⟨(some (sl 23)), none, (.call true (.f 20) [(.s (sl 22))]), none⟩, ⟨(some (sl 24)), none, (.bin .gtr (.s (sl 23)) (.c (.int .i64 38))), none⟩])
  (.cond (.s (sl 24))
  (.seq (.reg [⟨(some (sl 2)), none, (.mv (.c (.bool false))), none⟩])
  .ret)
  .skip))
  (.seq (.reg [⟨(some (sl 5)), none, (.mv (.c (.int .i64 0))), none⟩])
  (.block 2
  (.loop (.seq (.seq (.reg [⟨(some (sl 25)), none, (.mv (.s (sl 5))), none⟩, ⟨(some (sl 26)), none, (.fld (.s (sl 1)) 3), none⟩, ⟨(some (sl 27)), none, (.ld true (.s (sl 26)) none), none⟩, ⟨(some (sl 28)), none, (.mv (.s (sl 4))), none⟩, ⟨(some (sl 29)), none, (.idx true (.s (sl 27)) (.s (sl 28)) 8), none⟩, ⟨(some (sl 30)), none, (.fld (.s (sl 29)) 1), none⟩, ⟨(some (sl 31)), none, (.ld true (.s (sl 30)) none), none⟩, ⟨(some (sl 32)), none, (.len false (.s (sl 31))), none⟩, ⟨(some (sl 33)), none, (.bin .lss (.s (sl 25)) (.s (sl 32))), none⟩])
  (.cond (.s (sl 33))
  .skip
  (.exit 2)))
  (.seq (.block 3
  (.seq (.reg [⟨(some (sl 36)), none, (.fld (.s (sl 1)) 3), none⟩, ⟨(some (sl 37)), none, (.ld true (.s (sl 36)) none), none⟩, ⟨(some (sl 38)), none, (.mv (.s (sl 4))), none⟩, ⟨(some (sl 39)), none, (.idx true (.s (sl 37)) (.s (sl 38)) 8), none⟩, ⟨(some (sl 40)), none, (.fld (.s (sl 39)) 1), none⟩, ⟨(some (sl 41)), none, (.ld true (.s (sl 40)) none), none⟩, ⟨(some (sl 42)), none, (.mv (.s (sl 5))), none⟩, ⟨(some (sl 43)), none, (.idx true (.s (sl 41)) (.s (sl 42)) 6), none⟩, ⟨(some (sl 44)), none, (.ld true (.s (sl 43)) (some 6)), none⟩, ⟨(some (sl 45)), none, (.call true (.f 16) [(.s (sl 44))]), none⟩, ⟨(some (sl 46)), none, (.len false (.s (sl 45))), none⟩, ⟨(some (sl 47)), none, (.bin .gtr (.s (sl 46)) (.c (.int .i64 6))), none⟩])
  (.cond (.s (sl 47))
  (.seq (.reg [⟨(some (sl 2)), none, (.mv (.c (.bool false))), none⟩])
  .ret)
  .skip)))
  (.reg [⟨(some (sl 34)), none, (.mv (.s (sl 5))), none⟩, ⟨(some (sl 35)), none, (.bin .add (.s (sl 34)) (.c (.int .i64 1))), none⟩, ⟨(some (sl 5)), none, (.mv (.s (sl 35))), none⟩]))))))))
  (.reg [⟨(some (sl 16)), none, (.mv (.s (sl 4))), none⟩, ⟨(some (sl 17)), none, (.bin .add (.s (sl 16)) (.c (.int .i64 1))), none⟩, ⟨(some (sl 4)), none, (.mv (.s (sl 17))), none⟩]))))))
  (.seq (.reg [⟨(some (sl 48)), none, (.mv (.s (sl 3))), none⟩, ⟨(some (sl 49)), none, (.mv (.s (sl 48))), none⟩, ⟨(some (sl 50)), (some ((sl 49), true)), (.fld (.s (sl 1)) 3), none⟩, ⟨(some (sl 51)), (some ((sl 49), true)), (.ld true (.s (sl 50)) none), none⟩, ⟨(some (sl 52)), (some ((sl 49), true)), (.len false (.s (sl 51))), none⟩, ⟨(some (sl 53)), (some ((sl 49), true)), (.bin .leq (.s (sl 52)) (.c (.int .i64 16))), none⟩, ⟨(some (sl 54)), none, (.pick (.s (sl 49)) (.s (sl 53)) (.c (.bool false))), none⟩, ⟨(some (sl 55)), none, (.mv (.s (sl 54))), none⟩, ⟨(some (sl 56)), (some ((sl 55), true)), (.ld true (.s (sl 1)) (some 4)), none⟩, ⟨(some (sl 57)), (some ((sl 55), true)), (.call true (.f 26) [(.s (sl 56))]), none⟩, ⟨(some (sl 58)), (some ((sl 55), true)), (.len false (.s (sl 57))), none⟩, ⟨(some (sl 59)), (some ((sl 55), true)), (.bin .leq (.s (sl 58)) (.c (.int .i64 512))), none⟩, ⟨(some (sl 60)), none, (.pick (.s (sl 55)) (.s (sl 59)) (.c (.bool false))), none⟩, ⟨(some (sl 2)), none, (.mv (.s (sl 60))), none⟩])
  .ret)))))
def r_marlinelaw05_IrCounts : List ARes := [(.tmp (sl 2))]
theorem t_marlinelaw05_IrCounts : (Try.f10).body.bind (trCode Try.prog 8 (Try.f10).ntmps [] [(61, 3, 1), (79, 25, 6)] (drOk 8)) = some c_marlinelaw05_IrCounts := by kernel_rfl
theorem u_marlinelaw05_IrCounts : trRess Try.prog 8 (Try.f10).results.toList = some r_marlinelaw05_IrCounts := by kernel_rfl

/-- marline/marlinelaw05.IrChecks -/
def c_marlinelaw05_IrChecks : ACode :=
  (.seq (.reg [⟨(some (sl 2)), none, (.box true (.s (sl 0))), none⟩, ⟨(some (sl 3)), none, (.box true (.s (sl 1))), none⟩, ⟨(some (sl 4)), none, (.mv (.c (.bool false))), none⟩])
  (.seq (.reg [⟨(some (sl 6)), none, (.call true (.f 14) []), none⟩, ⟨(some (sl 5)), none, (.mv (.s (sl 6))), none⟩])
  (.seq (.reg [⟨(some (sl 7)), none, (.mv (.s (sl 5))), (some 0)⟩, ⟨(some (sl 8)), none, (.mv (.s (sl 7))), (some 1)⟩, ⟨(some (sl 9)), (some ((sl 8), true)), (.ld true (.s (sl 2)) (some 2)), (some 2)⟩, ⟨(some (sl 10)), (some ((sl 8), true)), (.call true (.f 22) [(.s (sl 9))]), (some 3)⟩, ⟨(some (sl 11)), (some ((sl 8), true)), (.ld true (.s (sl 2)) (some 2)), (some 4)⟩, ⟨(some (sl 12)), (some ((sl 8), true)), (.call true (.f 29) [(.s (sl 11))]), (some 5)⟩, ⟨(some (sl 13)), (some ((sl 8), true)), (.bin .eql (.s (sl 10)) (.s (sl 12))), (some 6)⟩, ⟨(some (sl 14)), none, (.pick (.s (sl 8)) (.s (sl 13)) (.c (.bool false))), (some 7)⟩, ⟨(some (sl 15)), none, (.mv (.s (sl 14))), (some 8)⟩, ⟨(some (sl 16)), (some ((sl 15), true)), (.ld true (.s (sl 2)) (some 2)), (some 9)⟩, ⟨(some (sl 17)), (some ((sl 15), true)), (.ld true (.s (sl 3)) (some 2)), (some 10)⟩, ⟨(some (sl 18)), (some ((sl 15), true)), (.call true (.f 30) [(.s (sl 16)), (.s (sl 17))]), (some 11)⟩, ⟨(some (sl 19)), (some ((sl 15), true)), (.ld true (.s (sl 2)) (some 2)), (some 12)⟩, ⟨(some (sl 20)), (some ((sl 15), true)), (.ld true (.s (sl 3)) (some 2)), (some 13)⟩, ⟨(some (sl 21)), (some ((sl 15), true)), (.call true (.f 31) [(.s (sl 19)), (.s (sl 20))]), (some 14)⟩, ⟨(some (sl 22)), (some ((sl 15), true)), (.binb .eql (.s (sl 18)) (.s (sl 21))), (some 15)⟩, ⟨(some (sl 23)), none, (.pick (.s (sl 15)) (.s (sl 22)) (.c (.bool false))), (some 16)⟩, ⟨(some (sl 24)), none, (.mv (.s (sl 23))), (some 17)⟩, ⟨(some (sl 25)), (some ((sl 24), true)), (.ld true (.s (sl 2)) (some 2)), (some 18)⟩, ⟨(some (sl 26)), (some ((sl 24), true)), (.ld true (.s (sl 2)) (some 2)), (some 19)⟩, ⟨(some (sl 27)), (some ((sl 24), true)), (.call true (.f 30) [(.s (sl 25)), (.s (sl 26))]), (some 20)⟩, ⟨(some (sl 28)), none, (.pick (.s (sl 24)) (.s (sl 27)) (.c (.bool false))), (some 21)⟩, ⟨(some (sl 4)), none, (.mv (.s (sl 28))), (some 22)⟩])
  .ret)))
def r_marlinelaw05_IrChecks : List ARes := [(.tmp (sl 4))]
theorem t_marlinelaw05_IrChecks : (Try.f11).body.bind (trCode Try.prog 8 (Try.f11).ntmps [] [(61, 3, 1), (79, 25, 6)] (drOk 8)) = some c_marlinelaw05_IrChecks := by kernel_rfl
theorem u_marlinelaw05_IrChecks : trRess Try.prog 8 (Try.f11).results.toList = some r_marlinelaw05_IrChecks := by kernel_rfl

/-- marline/marlinelaw05.shown -/
def c_marlinelaw05_shown : ACode :=
  (.seq (.reg [⟨(some (sl 0)), none, (.mv (.c (.bool false))), none⟩])
  (.seq (.seq (.reg [⟨(some (sl 2)), none, (.bld [(.int .i64 0), (.int .i64 0), (.int .i64 0), (.int .u64 0), (.string ⟨#[]⟩), (.slice none 0 0)] [(0, 1, (.c (.int .i64 1))), (3, 1, (.c (.int .u64 7)))]), none⟩, ⟨(some (sl 3)), none, (.mksl 6 1 [(.int .i64 0), (.int .i64 0), (.int .i64 0), (.int .u64 0), (.string ⟨#[]⟩), (.slice none 0 0)] [(0, 6, (.s (sl 2)))]), none⟩, ⟨(some (sl 4)), none, (.bld [(.int .i64 0), (.int .i64 0), (.int .i64 0), (.slice none 0 0), (.int .i64 0), (.slice none 0 0)] [(0, 1, (.c (.int .i64 3)))]), none⟩, ⟨(some (sl 5)), none, (.bld [(.int .i64 0), (.slice none 0 0), (.int .i64 0), (.int .i64 0), (.int .i64 0), (.slice none 0 0), (.int .i64 0), (.slice none 0 0)] [(1, 1, (.s (sl 3))), (2, 6, (.s (sl 4)))]), none⟩, ⟨(some (sl 6)), none, (.mksl 8 1 [(.int .i64 0), (.slice none 0 0), (.int .i64 0), (.int .i64 0), (.int .i64 0), (.slice none 0 0), (.int .i64 0), (.slice none 0 0)] [(0, 8, (.s (sl 5)))]), none⟩, ⟨(some (sl 7)), none, (.bld [(.string ⟨#[]⟩), (.int .i64 0), (.int .i64 0), (.slice none 0 0)] [(0, 1, (.c (.string ⟨#[109, 97, 105, 110]⟩))), (1, 1, (.c (.int .i64 2))), (3, 1, (.s (sl 6)))]), none⟩, ⟨(some (sl 1)), none, (.new [(.string ⟨#[]⟩), (.int .i64 0), (.int .i64 0), (.slice none 0 0)]), none⟩, ⟨none, none, (.ini 1 (.s (sl 1)) (.s (sl 7)) 4), none⟩])
  (.frz (sl 1)))
  (.seq (.reg [⟨(some (sl 8)), none, (.ld true (.s (sl 1)) (some 4)), none⟩, ⟨(some (sl 9)), none, (.call true (.f 21) [(.s (sl 8))]), none⟩, ⟨(some (sl 10)), none, (.mv (.s (sl 9))), none⟩, ⟨(some (sl 11)), (some ((sl 10), true)), (.ld true (.s (sl 1)) (some 4)), none⟩, ⟨(some (sl 12)), (some ((sl 10), true)), (.mksl 4 1 [(.string ⟨#[]⟩), (.int .i64 0), (.int .i64 0), (.slice none 0 0)] [(0, 4, (.s (sl 11)))]), none⟩, ⟨(some (sl 13)), (some ((sl 10), true)), (.bld [(.slice none 0 0), (.slice none 0 0)] [(0, 1, (.s (sl 12)))]), none⟩, ⟨(some (sl 14)), (some ((sl 10), true)), (.call true (.f 22) [(.s (sl 13))]), none⟩, ⟨(some (sl 15)), (some ((sl 10), true)), (.bin .eql (.s (sl 14)) (.c (.int .i64 0))), none⟩, ⟨(some (sl 16)), none, (.pick (.s (sl 10)) (.s (sl 15)) (.c (.bool false))), none⟩, ⟨(some (sl 0)), none, (.mv (.s (sl 16))), none⟩])
  .ret)))
def r_marlinelaw05_shown : List ARes := [(.tmp (sl 0))]
theorem t_marlinelaw05_shown : (Try.f14).body.bind (trCode Try.prog 8 (Try.f14).ntmps [] [(61, 3, 1), (79, 25, 6)] (drOk 8)) = some c_marlinelaw05_shown := by kernel_rfl
theorem u_marlinelaw05_shown : trRess Try.prog 8 (Try.f14).results.toList = some r_marlinelaw05_shown := by kernel_rfl

end Go.Proofs.Ytghlfjpmpalpdaa
