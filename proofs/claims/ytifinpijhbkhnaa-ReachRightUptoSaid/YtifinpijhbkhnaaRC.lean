/- The bodies of some functions, as the evaluator has them (printed by program), and that they are the program's own. -/
import Derived.Test.YtifinpijhbkhnaaKE
namespace Go.Proofs.Ytifinpijhbkhnaa
open Go.RowKit

/-- marline/marlineref07.Whole -/
def c_marlineref07_Whole : ACode :=
  (.seq (.reg [⟨(some (sl 1)), none, (.box true (.s (sl 0))), none⟩, ⟨(some (sl 2)), none, (.mv (.c (.int .i64 0))), none⟩])
  (.seq (.reg [⟨(some (sl 10)), none, (.ld true (.s (sl 1)) (some 2)), none⟩, ⟨(some (sl 11)), none, (.call true (.f 19) [(.s (sl 10))]), none⟩, ⟨(some (sl 3)), none, (.mv (.s (sl 11))), none⟩])
  (.seq (.seq (.reg [⟨(some (sl 12)), none, (.mv (.s (sl 3))), none⟩, ⟨(some (sl 13)), none, (.bin .neq (.s (sl 12)) (.c (.int .i64 0))), none⟩])
  (.cond (.s (sl 13))
  (.seq (.reg [⟨(some (sl 14)), none, (.mv (.s (sl 3))), none⟩, ⟨(some (sl 2)), none, (.mv (.s (sl 14))), none⟩])
  .ret)
  .skip))
  (.seq (.reg [⟨(some (sl 15)), none, (.ld true (.s (sl 1)) (some 2)), none⟩, ⟨(some (sl 16)), none, (.call true (.f 25) [(.s (sl 15)), (.c (.string ⟨#[109, 97, 105, 110]⟩))]), none⟩, ⟨(some (sl 4)), none, (.mv (.s (sl 16))), none⟩])
  (.seq (.seq (.reg [⟨(some (sl 17)), none, (.mv (.s (sl 4))), none⟩, ⟨(some (sl 18)), none, (.bin .lss (.s (sl 17)) (.c (.int .i64 0))), none⟩, ⟨(some (sl 19)), none, (.mv (.s (sl 18))), none⟩, ⟨(some (sl 20)), (some ((sl 19), false)), (.fld (.s (sl 1)) 0), none⟩, ⟨(some (sl 21)), (some ((sl 19), false)), (.ld true (.s (sl 20)) none), none⟩, ⟨(some (sl 22)), (some ((sl 19), false)), (.mv (.s (sl 4))), none⟩, ⟨(some (sl 23)), (some ((sl 19), false)), (.idx true (.s (sl 21)) (.s (sl 22)) 4), none⟩, ⟨(some (sl 24)), (some ((sl 19), false)), (.fld (.s (sl 23)) 3), none⟩, ⟨(some (sl 25)), (some ((sl 19), false)), (.ld true (.s (sl 24)) none), none⟩, ⟨(some (sl 26)), (some ((sl 19), false)), (.len false (.s (sl 25))), none⟩, ⟨(some (sl 27)), (some ((sl 19), false)), (.bin .eql (.s (sl 26)) (.c (.int .i64 0))), none⟩, ⟨(some (sl 28)), none, (.pick (.s (sl 19)) (.c (.bool true)) (.s (sl 27))), none⟩, ⟨(some (sl 29)), none, (.mv (.s (sl 28))), none⟩, ⟨(some (sl 30)), (some ((sl 29), false)), (.fld (.s (sl 1)) 0), none⟩, ⟨(some (sl 31)), (some ((sl 29), false)), (.ld true (.s (sl 30)) none), none⟩, ⟨(some (sl 32)), (some ((sl 29), false)), (.mv (.s (sl 4))), none⟩, ⟨(some (sl 33)), (some ((sl 29), false)), (.idx true (.s (sl 31)) (.s (sl 32)) 4), none⟩, ⟨(some (sl 34)), (some ((sl 29), false)), (.fld (.s (sl 33)) 2), none⟩, ⟨(some (sl 35)), (some ((sl 29), false)), (.ld true (.s (sl 34)) none), none⟩, ⟨(some (sl 36)), (some ((sl 29), false)), (.bin .neq (.s (sl 35)) (.c (.int .i64 0))), none⟩, ⟨(some (sl 37)), none, (.pick (.s (sl 29)) (.c (.bool true)) (.s (sl 36))), none⟩])
  (.cond (.s (sl 37))
  (.seq (.reg [⟨(some (sl 2)), none, (.mv (.c (.int .i64 11))), none⟩])
  .ret)
  .skip))
  (.seq (.seq (.reg [⟨(some (sl 5)), none, (.mv (.c (.int .i64 0))), none⟩])
  (.block 0
  (.loop (.seq (.seq (.reg [⟨(some (sl 38)), none, (.mv (.s (sl 5))), none⟩, ⟨(some (sl 39)), none, (.fld (.s (sl 1)) 0), none⟩, ⟨(some (sl 40)), none, (.ld true (.s (sl 39)) none), none⟩, ⟨(some (sl 41)), none, (.len false (.s (sl 40))), none⟩, ⟨(some (sl 42)), none, (.bin .lss (.s (sl 38)) (.s (sl 41))), none⟩])
  (.cond (.s (sl 42))
  .skip
  (.exit 0)))
  (.seq (.block 1
  (.seq (.reg [⟨(some (sl 45)), none, (.fld (.s (sl 1)) 0), none⟩, ⟨(some (sl 46)), none, (.ld true (.s (sl 45)) none), none⟩, ⟨(some (sl 47)), none, (.mv (.s (sl 5))), none⟩, ⟨(some (sl 48)), none, (.idx true (.s (sl 46)) (.s (sl 47)) 4), none⟩, ⟨(some (sl 49)), none, (.ld true (.s (sl 48)) (some 4)), none⟩, ⟨(some (sl 50)), none, (.call true (.f 24) [(.s (sl 49))]), none⟩, ⟨(some (sl 6)), none, (.mv (.s (sl 50))), none⟩])
  (.seq (.reg [⟨(some (sl 7)), none, (.mv (.c (.int .i64 0))), none⟩])
  (.block 2
  (.loop (.seq (.seq (.reg [⟨(some (sl 51)), none, (.mv (.s (sl 7))), none⟩, ⟨(some (sl 52)), none, (.mv (.s (sl 6))), none⟩, ⟨(some (sl 53)), none, (.len false (.s (sl 52))), none⟩, ⟨(some (sl 54)), none, (.bin .lss (.s (sl 51)) (.s (sl 53))), none⟩])
  (.cond (.s (sl 54))
  .skip
  (.exit 2)))
  (.seq (.block 3
  (.seq (.reg [⟨(some (sl 57)), none, (.ld true (.s (sl 1)) (some 2)), (some (0, []))⟩, ⟨(some (sl 58)), none, (.mv (.s (sl 6))), (some (1, []))⟩, ⟨(some (sl 59)), none, (.mv (.s (sl 7))), (some (2, []))⟩, ⟨(some (sl 60)), none, (.idx true (.s (sl 58)) (.s (sl 59)) 1), (some (3, []))⟩, ⟨(some (sl 61)), none, (.ld true (.s (sl 60)) none), (some (4, []))⟩, ⟨(some (sl 62)), none, (.call true (.f 25) [(.s (sl 57)), (.s (sl 61))]), (some (5, []))⟩, ⟨(some (sl 8)), none, (.mv (.s (sl 62))), (some (6, []))⟩])
  (.seq (.reg [⟨(some (sl 63)), none, (.ld true (.s (sl 1)) (some 2)), (some (0, []))⟩, ⟨(some (sl 64)), none, (.mv (.s (sl 6))), (some (1, []))⟩, ⟨(some (sl 65)), none, (.mv (.s (sl 7))), (some (2, []))⟩, ⟨(some (sl 66)), none, (.idx true (.s (sl 64)) (.s (sl 65)) 1), (some (3, []))⟩, ⟨(some (sl 67)), none, (.ld true (.s (sl 66)) none), (some (4, []))⟩, ⟨(some (sl 68)), none, (.call true (.f 27) [(.s (sl 63)), (.s (sl 67))]), (some (5, []))⟩, ⟨(some (sl 9)), none, (.mv (.s (sl 68))), (some (6, []))⟩])
  (.seq (.reg [⟨(some (sl 69)), none, (.mv (.s (sl 8))), none⟩, ⟨(some (sl 70)), none, (.bin .geq (.s (sl 69)) (.c (.int .i64 0))), none⟩, ⟨(some (sl 71)), none, (.mv (.s (sl 70))), none⟩, ⟨(some (sl 72)), (some ((sl 71), true)), (.fld (.s (sl 1)) 0), none⟩, ⟨(some (sl 73)), (some ((sl 71), true)), (.ld true (.s (sl 72)) none), none⟩, ⟨(some (sl 74)), (some ((sl 71), true)), (.mv (.s (sl 8))), none⟩, ⟨(some (sl 75)), (some ((sl 71), true)), (.idx true (.s (sl 73)) (.s (sl 74)) 4), none⟩, ⟨(some (sl 76)), (some ((sl 71), true)), (.fld (.s (sl 75)) 3), none⟩, ⟨(some (sl 77)), (some ((sl 71), true)), (.ld true (.s (sl 76)) none), none⟩, ⟨(some (sl 78)), (some ((sl 71), true)), (.len false (.s (sl 77))), none⟩, ⟨(some (sl 79)), (some ((sl 71), true)), (.bin .eql (.s (sl 78)) (.c (.int .i64 0))), none⟩, ⟨(some (sl 80)), none, (.pick (.s (sl 71)) (.s (sl 79)) (.c (.bool false))), none⟩, ⟨(some (sl 81)), none, (.mv (.s (sl 80))), none⟩, ⟨(some (sl 82)), (some ((sl 81), false)), (.mv (.s (sl 8))), none⟩, ⟨(some (sl 83)), (some ((sl 81), false)), (.bin .lss (.s (sl 82)) (.c (.int .i64 0))), none⟩, ⟨(some (sl 84)), (some ((sl 81), false)), (.mv (.s (sl 83))), none⟩, ⟨(some (sl 85)), (some ((sl 84), true)), (.fld (.s (sl 1)) 1), none⟩, ⟨(some (sl 86)), (some ((sl 84), true)), (.ld true (.s (sl 85)) none), none⟩, ⟨(some (sl 87)), (some ((sl 84), true)), (.mv (.s (sl 9))), none⟩, ⟨(some (sl 88)), (some ((sl 84), true)), (.idx true (.s (sl 86)) (.s (sl 87)) 4), none⟩, ⟨(some (sl 89)), (some ((sl 84), true)), (.fld (.s (sl 88)) 2), none⟩, ⟨(some (sl 90)), (some ((sl 84), true)), (.ld true (.s (sl 89)) none), none⟩, ⟨(some (sl 91)), (some ((sl 84), true)), (.not (.s (sl 90))), none⟩, ⟨(some (sl 92)), (some ((sl 81), false)), (.pick (.s (sl 84)) (.s (sl 91)) (.c (.bool false))), none⟩, ⟨(some (sl 93)), none, (.pick (.s (sl 81)) (.c (.bool true)) (.s (sl 92))), none⟩])
  (.cond (.s (sl 93))
  (.seq (.reg [⟨(some (sl 2)), none, (.mv (.c (.int .i64 8))), none⟩])
  .ret)
  .skip)))))
  (.reg [⟨(some (sl 55)), none, (.mv (.s (sl 7))), none⟩, ⟨(some (sl 56)), none, (.bin .add (.s (sl 55)) (.c (.int .i64 1))), none⟩, ⟨(some (sl 7)), none, (.mv (.s (sl 56))), none⟩]))))))))
  (.reg [⟨(some (sl 43)), none, (.mv (.s (sl 5))), none⟩, ⟨(some (sl 44)), none, (.bin .add (.s (sl 43)) (.c (.int .i64 1))), none⟩, ⟨(some (sl 5)), none, (.mv (.s (sl 44))), none⟩]))))))
  (.seq (.reg [⟨(some (sl 2)), none, (.mv (.c (.int .i64 0))), none⟩])
  .ret)))))))
def r_marlineref07_Whole : List ARes := [(.tmp (sl 2))]
theorem t_marlineref07_Whole : (Try.f20).body.bind (trCode Try.prog 8 (Try.f20).ntmps [] [] (drOk 8)) = some c_marlineref07_Whole := by kernel_rfl
theorem u_marlineref07_Whole : trRess Try.prog 8 (Try.f20).results.toList = some r_marlineref07_Whole := by kernel_rfl

/-- marline/marlineref07.power -/
def c_marlineref07_power : ACode :=
  (.seq (.reg [⟨(some (sl 2)), none, (.mv (.c (.int .u64 0))), none⟩])
  (.seq (.reg [⟨(some (sl 3)), none, (.mv (.c (.int .u64 1))), none⟩])
  (.seq (.block 0
  (.loop (.seq (.seq (.reg [⟨(some (sl 4)), none, (.mv (.s (sl 0))), none⟩, ⟨(some (sl 5)), none, (.bin .gtr (.s (sl 4)) (.c (.int .u64 0))), none⟩])
  (.cond (.s (sl 5))
  .skip
  (.exit 0)))
  (.block 1
  (.seq (.reg [⟨(some (sl 6)), none, (.mv (.s (sl 3))), none⟩, ⟨(some (sl 7)), none, (.mv (.s (sl 3))), none⟩, ⟨(some (sl 8)), none, (.bin .add (.s (sl 6)) (.s (sl 7))), none⟩, ⟨(some (sl 3)), none, (.mv (.s (sl 8))), none⟩])
  (.reg [⟨(some (sl 9)), none, (.mv (.s (sl 0))), none⟩, ⟨(some (sl 10)), none, (.bin .sub (.s (sl 9)) (.c (.int .u64 1))), none⟩, ⟨(some (sl 0)), none, (.mv (.s (sl 10))), none⟩]))))))
  (.seq (.reg [⟨(some (sl 11)), none, (.mv (.s (sl 3))), none⟩, ⟨(some (sl 2)), none, (.mv (.s (sl 11))), none⟩])
  .ret))))
def r_marlineref07_power : List ARes := [(.tmp (sl 2))]
theorem t_marlineref07_power : (Try.f105).body.bind (trCode Try.prog 8 (Try.f105).ntmps [] [] (drOk 8)) = some c_marlineref07_power := by kernel_rfl
theorem u_marlineref07_power : trRess Try.prog 8 (Try.f105).results.toList = some r_marlineref07_power := by kernel_rfl

/-- marline/marlineref07.Reckon -/
def c_marlineref07_Reckon : ACode :=
  (.seq (.reg [⟨(some (sl 6)), none, (.mv (.c (.int .u64 0))), none⟩])
  (.seq (.seq (.reg [⟨(some (sl 7)), none, (.mv (.s (sl 0))), none⟩, ⟨(some (sl 8)), none, (.bin .eql (.s (sl 7)) (.c (.int .i64 2))), none⟩])
  (.cond (.s (sl 8))
  (.seq (.reg [⟨(some (sl 9)), none, (.mv (.s (sl 1))), none⟩, ⟨(some (sl 10)), none, (.mv (.s (sl 2))), none⟩, ⟨(some (sl 11)), none, (.bin .add (.s (sl 9)) (.s (sl 10))), none⟩, ⟨(some (sl 6)), none, (.mv (.s (sl 11))), none⟩])
  .ret)
  .skip))
  (.seq (.seq (.reg [⟨(some (sl 12)), none, (.mv (.s (sl 0))), none⟩, ⟨(some (sl 13)), none, (.bin .eql (.s (sl 12)) (.c (.int .i64 3))), none⟩])
  (.cond (.s (sl 13))
  (.seq (.reg [⟨(some (sl 14)), none, (.mv (.s (sl 1))), none⟩, ⟨(some (sl 15)), none, (.mv (.s (sl 2))), none⟩, ⟨(some (sl 16)), none, (.bin .sub (.s (sl 14)) (.s (sl 15))), none⟩, ⟨(some (sl 6)), none, (.mv (.s (sl 16))), none⟩])
  .ret)
  .skip))
  (.seq (.seq (.reg [⟨(some (sl 17)), none, (.mv (.s (sl 0))), none⟩, ⟨(some (sl 18)), none, (.bin .eql (.s (sl 17)) (.c (.int .i64 4))), none⟩])
  (.cond (.s (sl 18))
  (.seq (.reg [⟨(some (sl 19)), none, (.mv (.s (sl 1))), none⟩, ⟨(some (sl 20)), none, (.mv (.s (sl 2))), none⟩, ⟨(some (sl 21)), none, (.bin .mul (.s (sl 19)) (.s (sl 20))), none⟩, ⟨(some (sl 6)), none, (.mv (.s (sl 21))), none⟩])
  .ret)
  .skip))
  (.seq (.seq (.reg [⟨(some (sl 22)), none, (.mv (.s (sl 0))), none⟩, ⟨(some (sl 23)), none, (.bin .eql (.s (sl 22)) (.c (.int .i64 5))), none⟩])
  (.cond (.s (sl 23))
  (.seq (.reg [⟨(some (sl 24)), none, (.mv (.s (sl 1))), none⟩, ⟨(some (sl 25)), none, (.mv (.s (sl 2))), none⟩, ⟨(some (sl 26)), none, (.bin .and (.s (sl 24)) (.s (sl 25))), none⟩, ⟨(some (sl 6)), none, (.mv (.s (sl 26))), none⟩])
  .ret)
  .skip))
  (.seq (.seq (.reg [⟨(some (sl 27)), none, (.mv (.s (sl 0))), none⟩, ⟨(some (sl 28)), none, (.bin .eql (.s (sl 27)) (.c (.int .i64 6))), none⟩])
  (.cond (.s (sl 28))
  (.seq (.reg [⟨(some (sl 29)), none, (.mv (.s (sl 1))), none⟩, ⟨(some (sl 30)), none, (.mv (.s (sl 2))), none⟩, ⟨(some (sl 31)), none, (.bin .or (.s (sl 29)) (.s (sl 30))), none⟩, ⟨(some (sl 6)), none, (.mv (.s (sl 31))), none⟩])
  .ret)
  .skip))
  (.seq (.seq (.reg [⟨(some (sl 32)), none, (.mv (.s (sl 0))), none⟩, ⟨(some (sl 33)), none, (.bin .eql (.s (sl 32)) (.c (.int .i64 7))), none⟩])
  (.cond (.s (sl 33))
  (.seq (.reg [⟨(some (sl 34)), none, (.mv (.s (sl 1))), none⟩, ⟨(some (sl 35)), none, (.mv (.s (sl 2))), none⟩, ⟨(some (sl 36)), none, (.bin .xor (.s (sl 34)) (.s (sl 35))), none⟩, ⟨(some (sl 6)), none, (.mv (.s (sl 36))), none⟩])
  .ret)
  .skip))
  (.seq (.seq (.reg [⟨(some (sl 37)), none, (.mv (.s (sl 0))), none⟩, ⟨(some (sl 38)), none, (.bin .eql (.s (sl 37)) (.c (.int .i64 8))), none⟩])
  (.cond (.s (sl 38))
  (.seq (.reg [⟨(some (sl 39)), none, (.mv (.s (sl 1))), none⟩, ⟨(some (sl 40)), none, (.mv (.s (sl 2))), none⟩, ⟨(some (sl 41)), none, (.bin .rem (.s (sl 40)) (.c (.int .u64 64))), none⟩, ⟨(some (sl 42)), none, (.call true (.f 105) [(.s (sl 41))]), none⟩, ⟨(some (sl 43)), none, (.bin .mul (.s (sl 39)) (.s (sl 42))), none⟩, ⟨(some (sl 6)), none, (.mv (.s (sl 43))), none⟩])
  .ret)
  .skip))
  (.seq (.seq (.reg [⟨(some (sl 44)), none, (.mv (.s (sl 0))), none⟩, ⟨(some (sl 45)), none, (.bin .eql (.s (sl 44)) (.c (.int .i64 9))), none⟩])
  (.cond (.s (sl 45))
  (.seq (.reg [⟨(some (sl 46)), none, (.mv (.s (sl 1))), none⟩, ⟨(some (sl 47)), none, (.mv (.s (sl 2))), none⟩, ⟨(some (sl 48)), none, (.bin .rem (.s (sl 47)) (.c (.int .u64 64))), none⟩, ⟨(some (sl 49)), none, (.call true (.f 105) [(.s (sl 48))]), none⟩, ⟨(some (sl 50)), none, (.bin .quo (.s (sl 46)) (.s (sl 49))), none⟩, ⟨(some (sl 6)), none, (.mv (.s (sl 50))), none⟩])
  .ret)
  .skip))
  (.seq (.seq (.reg [⟨(some (sl 51)), none, (.mv (.s (sl 0))), none⟩, ⟨(some (sl 52)), none, (.bin .eql (.s (sl 51)) (.c (.int .i64 10))), none⟩, ⟨(some (sl 53)), none, (.mv (.s (sl 52))), none⟩, ⟨(some (sl 54)), (some ((sl 53), true)), (.mv (.s (sl 1))), none⟩, ⟨(some (sl 55)), (some ((sl 53), true)), (.mv (.s (sl 2))), none⟩, ⟨(some (sl 56)), (some ((sl 53), true)), (.bin .lss (.s (sl 54)) (.s (sl 55))), none⟩, ⟨(some (sl 57)), none, (.pick (.s (sl 53)) (.s (sl 56)) (.c (.bool false))), none⟩, ⟨(some (sl 58)), none, (.mv (.s (sl 57))), none⟩, ⟨(some (sl 59)), (some ((sl 58), false)), (.mv (.s (sl 0))), none⟩, ⟨(some (sl 60)), (some ((sl 58), false)), (.bin .eql (.s (sl 59)) (.c (.int .i64 11))), none⟩, ⟨(some (sl 61)), (some ((sl 58), false)), (.mv (.s (sl 60))), none⟩, ⟨(some (sl 62)), (some ((sl 61), true)), (.mv (.s (sl 1))), none⟩, ⟨(some (sl 63)), (some ((sl 61), true)), (.mv (.s (sl 2))), none⟩, ⟨(some (sl 64)), (some ((sl 61), true)), (.bin .eql (.s (sl 62)) (.s (sl 63))), none⟩, ⟨(some (sl 65)), (some ((sl 58), false)), (.pick (.s (sl 61)) (.s (sl 64)) (.c (.bool false))), none⟩, ⟨(some (sl 66)), none, (.pick (.s (sl 58)) (.c (.bool true)) (.s (sl 65))), none⟩])
  (.cond (.s (sl 66))
  (.seq (.reg [⟨(some (sl 6)), none, (.mv (.c (.int .u64 1))), none⟩])
  .ret)
  .skip))
  (.seq (.reg [⟨(some (sl 6)), none, (.mv (.c (.int .u64 0))), none⟩])
  .ret)))))))))))
def r_marlineref07_Reckon : List ARes := [(.tmp (sl 6))]
theorem t_marlineref07_Reckon : (Try.f95).body.bind (trCode Try.prog 8 (Try.f95).ntmps [] [] (drOk 8)) = some c_marlineref07_Reckon := by kernel_rfl
theorem u_marlineref07_Reckon : trRess Try.prog 8 (Try.f95).results.toList = some r_marlineref07_Reckon := by kernel_rfl

/-- marline/marlineref07.pick -/
def c_marlineref07_pick : ACode :=
  (.seq (.reg [⟨(some (sl 4)), none, (.mv (.c (.slice none 0 0))), none⟩])
  (.seq (.reg [⟨(some (sl 5)), none, (.mv (.c (.slice none 0 0))), none⟩])
  (.seq (.seq (.reg [⟨(some (sl 6)), none, (.mv (.c (.int .i64 0))), none⟩])
  (.block 0
  (.loop (.seq (.seq (.reg [⟨(some (sl 7)), none, (.mv (.s (sl 6))), none⟩, ⟨(some (sl 8)), none, (.mv (.s (sl 1))), none⟩, ⟨(some (sl 9)), none, (.len false (.s (sl 8))), none⟩, ⟨(some (sl 10)), none, (.bin .lss (.s (sl 7)) (.s (sl 9))), none⟩])
  (.cond (.s (sl 10))
  .skip
  (.exit 0)))
  (.seq (.block 1
  (.reg [⟨(some (sl 13)), none, (.mv (.s (sl 5))), none⟩, ⟨(some (sl 14)), none, (.mv (.s (sl 0))), none⟩, ⟨(some (sl 15)), none, (.mv (.s (sl 1))), none⟩, ⟨(some (sl 16)), none, (.mv (.s (sl 6))), none⟩, ⟨(some (sl 17)), none, (.idx true (.s (sl 15)) (.s (sl 16)) 1), none⟩, ⟨(some (sl 18)), none, (.ld true (.s (sl 17)) none), none⟩, ⟨(some (sl 19)), none, (.idx true (.s (sl 14)) (.s (sl 18)) 1), none⟩, ⟨(some (sl 20)), none, (.ld true (.s (sl 19)) none), none⟩, ⟨(some (sl 21)), none, (.mksl 1 1 [(.int .u64 0)] [(0, 1, (.s (sl 20)))]), none⟩, ⟨(some (sl 22)), none, (.app 32 1 8 (.s (sl 13)) (.s (sl 21))), none⟩, ⟨(some (sl 5)), none, (.mv (.s (sl 22))), none⟩]))
  (.reg [⟨(some (sl 11)), none, (.mv (.s (sl 6))), none⟩, ⟨(some (sl 12)), none, (.bin .add (.s (sl 11)) (.c (.int .i64 1))), none⟩, ⟨(some (sl 6)), none, (.mv (.s (sl 12))), none⟩]))))))
  (.seq (.reg [⟨(some (sl 23)), none, (.mv (.s (sl 5))), none⟩, ⟨(some (sl 4)), none, (.mv (.s (sl 23))), none⟩])
  .ret))))
def r_marlineref07_pick : List ARes := [(.tmp (sl 4))]
theorem t_marlineref07_pick : (Try.f80).body.bind (trCode Try.prog 8 (Try.f80).ntmps [4, 5, 13, 22, 23] [] (drOk 8)) = some c_marlineref07_pick := by kernel_rfl
theorem u_marlineref07_pick : trRess Try.prog 8 (Try.f80).results.toList = some r_marlineref07_pick := by kernel_rfl

/-- marline/marlineref07.step -/
def c_marlineref07_step : ACode :=
  (.seq (.reg [⟨(some (sl 2)), none, (.box false (.s (sl 0))), none⟩, ⟨(some (sl 4)), none, (.new [(.bool false), (.int .u64 0), (.string ⟨#[]⟩), (.int .i64 0), (.int .i64 0), (.int .i64 0), (.slice none 0 0), (.int .i64 0)]), none⟩])
  (.seq (.seq (.reg [⟨(some (sl 5)), none, (.fld (.s (sl 2)) 0), none⟩, ⟨(some (sl 6)), none, (.fld (.s (sl 5)) 4), none⟩, ⟨(some (sl 7)), none, (.ld false (.s (sl 6)) none), none⟩, ⟨(some (sl 8)), none, (.mv (.s (sl 1))), none⟩, ⟨(some (sl 9)), none, (.bin .eql (.s (sl 7)) (.s (sl 8))), none⟩])
  (.cond (.s (sl 9))
  (.seq (.reg [⟨(some (sl 10)), none, (.fld (.s (sl 2)) 7), none⟩, ⟨none, none, (.st (.s (sl 10)) (.c (.int .i64 12)) 1), none⟩])
  (.seq (.reg [⟨(some (sl 11)), none, (.ld false (.s (sl 2)) (some 8)), none⟩, ⟨none, none, (.st (.s (sl 4)) (.s (sl 11)) 8), none⟩])
  .ret))
  .skip))
  (.seq (.reg [⟨(some (sl 12)), none, (.fld (.s (sl 2)) 0), none⟩, ⟨(some (sl 13)), none, (.fld (.s (sl 12)) 4), none⟩, ⟨(some (sl 14)), none, (.ld false (.s (sl 13)) none), none⟩, ⟨(some (sl 15)), none, (.bin .add (.s (sl 14)) (.c (.int .i64 1))), none⟩, ⟨(some (sl 16)), none, (.fld (.s (sl 2)) 0), none⟩, ⟨(some (sl 17)), none, (.fld (.s (sl 16)) 4), none⟩, ⟨none, none, (.st (.s (sl 17)) (.s (sl 15)) 1), none⟩])
  (.seq (.reg [⟨(some (sl 18)), none, (.ld false (.s (sl 2)) (some 8)), none⟩, ⟨none, none, (.st (.s (sl 4)) (.s (sl 18)) 8), none⟩])
  .ret))))
def r_marlineref07_step : List ARes := [(.cell (sl 4) (some 8))]
theorem t_marlineref07_step : (Try.f79).body.bind (trCode Try.prog 8 (Try.f79).ntmps [2, 4, 5, 6, 7, 10, 11, 12, 13, 14, 16, 17, 18] [] (drOk 8)) = some c_marlineref07_step := by kernel_rfl
theorem u_marlineref07_step : trRess Try.prog 8 (Try.f79).results.toList = some r_marlineref07_step := by kernel_rfl

/-- marline/marlineref07.gives -/
def c_marlineref07_gives : ACode :=
  (.seq (.reg [⟨(some (sl 5)), none, (.box true (.s (sl 0))), none⟩, ⟨(some (sl 6)), none, (.box false (.s (sl 1))), none⟩, ⟨(some (sl 8)), none, (.box true (.s (sl 3))), none⟩, ⟨(some (sl 10)), none, (.new [(.bool false), (.int .u64 0), (.string ⟨#[]⟩), (.int .i64 0), (.int .i64 0), (.int .i64 0), (.slice none 0 0), (.int .i64 0)]), none⟩, ⟨(some (sl 11)), none, (.mv (.c (.int .u64 0))), none⟩])
  (.seq (.seq (.reg [⟨(some (sl 13)), none, (.fld (.s (sl 8)) 0), none⟩, ⟨(some (sl 14)), none, (.ld true (.s (sl 13)) none), none⟩, ⟨(some (sl 15)), none, (.bin .eql (.s (sl 14)) (.c (.int .i64 1))), none⟩])
  (.cond (.s (sl 15))
  (.seq (.reg [⟨(some (sl 16)), none, (.ld false (.s (sl 6)) (some 8)), (some (0, []))⟩, ⟨(some (sl 17)), none, (.fld (.s (sl 8)) 3), (some (1, []))⟩, ⟨(some (sl 18)), none, (.ld true (.s (sl 17)) none), (some (2, []))⟩, ⟨none, none, (.st (.s (sl 10)) (.s (sl 16)) 8), (some (3, []))⟩, ⟨(some (sl 11)), none, (.mv (.s (sl 18))), (some (4, []))⟩])
  .ret)
  .skip))
  (.seq (.seq (.reg [⟨(some (sl 19)), none, (.fld (.s (sl 8)) 0), none⟩, ⟨(some (sl 20)), none, (.ld true (.s (sl 19)) none), none⟩, ⟨(some (sl 21)), none, (.bin .eql (.s (sl 20)) (.c (.int .i64 12))), none⟩])
  (.cond (.s (sl 21))
  (.seq (.reg [⟨(some (sl 22)), none, (.ld false (.s (sl 6)) (some 8)), (some (0, [(sl 10)]))⟩, ⟨(some (sl 23)), none, (.fld (.s (sl 6)) 6), (some (1, [(sl 10)]))⟩, ⟨(some (sl 24)), none, (.ld false (.s (sl 23)) none), (some (2, [(sl 10)]))⟩, ⟨(some (sl 25)), none, (.ld true (.s (sl 5)) (some 2)), (some (3, [(sl 10)]))⟩, ⟨(some (sl 26)), none, (.fld (.s (sl 8)) 4), (some (4, [(sl 10)]))⟩, ⟨(some (sl 27)), none, (.ld true (.s (sl 26)) none), (some (5, [(sl 10)]))⟩, ⟨(some (sl 28)), none, (.call true (.f 27) [(.s (sl 25)), (.s (sl 27))]), (some (6, [(sl 10)]))⟩, ⟨(some (sl 29)), none, (.idx false (.s (sl 24)) (.s (sl 28)) 1), (some (7, [(sl 10)]))⟩, ⟨(some (sl 30)), none, (.ld false (.s (sl 29)) none), (some (8, [(sl 10)]))⟩, ⟨none, none, (.st (.s (sl 10)) (.s (sl 22)) 8), (some (9, [(sl 10)]))⟩, ⟨(some (sl 11)), none, (.mv (.s (sl 30))), (some (10, [(sl 10)]))⟩])
  .ret)
  .skip))
  (.seq (.seq (.reg [⟨(some (sl 31)), none, (.fld (.s (sl 8)) 0), none⟩, ⟨(some (sl 32)), none, (.ld true (.s (sl 31)) none), none⟩, ⟨(some (sl 33)), none, (.bin .eql (.s (sl 32)) (.c (.int .i64 13))), none⟩])
  (.cond (.s (sl 33))
  (.seq (.reg [⟨(some (sl 34)), none, (.nrow 32 1), none⟩, ⟨(some (sl 35)), none, (.fld (.s (sl 6)) 6), none⟩, ⟨(some (sl 36)), none, (.ld false (.s (sl 35)) none), none⟩, ⟨(some (sl 37)), none, (.app 32 1 8 (.s (sl 34)) (.s (sl 36))), none⟩, ⟨(some (sl 12)), none, (.mv (.s (sl 37))), none⟩])
  (.seq (.reg [⟨(some (sl 38)), none, (.mv (.s (sl 12))), (some (0, []))⟩, ⟨(some (sl 39)), none, (.ld true (.s (sl 5)) (some 2)), (some (1, []))⟩, ⟨(some (sl 40)), none, (.fld (.s (sl 8)) 4), (some (2, []))⟩, ⟨(some (sl 41)), none, (.ld true (.s (sl 40)) none), (some (3, []))⟩, ⟨(some (sl 42)), none, (.call true (.f 27) [(.s (sl 39)), (.s (sl 41))]), (some (4, []))⟩, ⟨(some (sl 43)), none, (.mv (.s (sl 4))), (some (5, []))⟩, ⟨(some (sl 44)), none, (.fld (.s (sl 8)) 1), (some (6, []))⟩, ⟨(some (sl 45)), none, (.ld true (.s (sl 44)) none), (some (7, []))⟩, ⟨(some (sl 46)), none, (.idx true (.s (sl 43)) (.s (sl 45)) 1), (some (8, []))⟩, ⟨(some (sl 47)), none, (.ld true (.s (sl 46)) none), (some (9, []))⟩, ⟨(some (sl 48)), none, (.idx false (.s (sl 38)) (.s (sl 42)) 1), (some (10, []))⟩, ⟨none, none, (.st (.s (sl 48)) (.s (sl 47)) 1), (some (11, []))⟩])
  (.seq (.reg [⟨(some (sl 49)), none, (.mv (.s (sl 12))), none⟩, ⟨(some (sl 50)), none, (.fld (.s (sl 6)) 6), none⟩, ⟨none, none, (.st (.s (sl 50)) (.s (sl 49)) 1), none⟩])
  (.seq (.reg [⟨(some (sl 51)), none, (.ld false (.s (sl 6)) (some 8)), none⟩, ⟨none, none, (.st (.s (sl 10)) (.s (sl 51)) 8), none⟩, ⟨(some (sl 11)), none, (.mv (.c (.int .u64 0))), none⟩])
  .ret))))
  .skip))
  (.seq (.seq (.reg [⟨(some (sl 52)), none, (.fld (.s (sl 8)) 0), none⟩, ⟨(some (sl 53)), none, (.ld true (.s (sl 52)) none), none⟩, ⟨(some (sl 54)), none, (.bin .eql (.s (sl 53)) (.c (.int .i64 15))), none⟩])
  (.cond (.s (sl 54))
  (.seq (.seq (.reg [⟨(some (sl 55)), none, (.fld (.s (sl 6)) 0), none⟩, ⟨(some (sl 56)), none, (.fld (.s (sl 55)) 3), none⟩, ⟨(some (sl 57)), none, (.ld false (.s (sl 56)) none), none⟩, ⟨(some (sl 58)), none, (.mv (.s (sl 2))), none⟩, ⟨(some (sl 59)), none, (.len true (.s (sl 58))), none⟩, ⟨(some (sl 60)), none, (.bin .geq (.s (sl 57)) (.s (sl 59))), none⟩])
  (.cond (.s (sl 60))
  (.seq (.reg [⟨(some (sl 61)), none, (.ld false (.s (sl 6)) (some 8)), none⟩, ⟨none, none, (.st (.s (sl 10)) (.s (sl 61)) 8), none⟩, ⟨(some (sl 11)), none, (.mv (.c (.int .u64 256))), none⟩])
  .ret)
  .skip))
  (.seq (.reg [⟨(some (sl 62)), none, (.fld (.s (sl 6)) 0), none⟩, ⟨(some (sl 63)), none, (.fld (.s (sl 62)) 3), none⟩, ⟨(some (sl 64)), none, (.ld false (.s (sl 63)) none), none⟩, ⟨(some (sl 65)), none, (.bin .add (.s (sl 64)) (.c (.int .i64 1))), none⟩, ⟨(some (sl 66)), none, (.fld (.s (sl 6)) 0), none⟩, ⟨(some (sl 67)), none, (.fld (.s (sl 66)) 3), none⟩, ⟨none, none, (.st (.s (sl 67)) (.s (sl 65)) 1), none⟩])
  (.seq (.reg [⟨(some (sl 68)), none, (.ld false (.s (sl 6)) (some 8)), (some (0, [(sl 10)]))⟩, ⟨(some (sl 69)), none, (.mv (.s (sl 2))), (some (1, [(sl 10)]))⟩, ⟨(some (sl 70)), none, (.fld (.s (sl 6)) 0), (some (2, [(sl 10)]))⟩, ⟨(some (sl 71)), none, (.fld (.s (sl 70)) 3), (some (3, [(sl 10)]))⟩, ⟨(some (sl 72)), none, (.ld false (.s (sl 71)) none), (some (4, [(sl 10)]))⟩, ⟨(some (sl 73)), none, (.bin .sub (.s (sl 72)) (.c (.int .i64 1))), (some (5, [(sl 10)]))⟩, ⟨(some (sl 74)), none, (.sidx (.s (sl 69)) (.s (sl 73))), (some (6, [(sl 10)]))⟩, ⟨(some (sl 75)), none, (.cnv .u64 (.s (sl 74))), (some (7, [(sl 10)]))⟩, ⟨none, none, (.st (.s (sl 10)) (.s (sl 68)) 8), (some (8, [(sl 10)]))⟩, ⟨(some (sl 11)), none, (.mv (.s (sl 75))), (some (9, [(sl 10)]))⟩])
  .ret)))
  .skip))
  (.seq (.seq (.reg [⟨(some (sl 76)), none, (.fld (.s (sl 8)) 0), none⟩, ⟨(some (sl 77)), none, (.ld true (.s (sl 76)) none), none⟩, ⟨(some (sl 78)), none, (.bin .eql (.s (sl 77)) (.c (.int .i64 16))), none⟩])
  (.cond (.s (sl 78))
  (.seq (.reg [⟨(some (sl 79)), none, (.fld (.s (sl 6)) 0), (some (0, []))⟩, ⟨(some (sl 80)), none, (.fld (.s (sl 79)) 2), (some (1, []))⟩, ⟨(some (sl 81)), none, (.ld false (.s (sl 80)) none), (some (2, []))⟩, ⟨(some (sl 82)), none, (.mv (.s (sl 4))), (some (3, []))⟩, ⟨(some (sl 83)), none, (.fld (.s (sl 8)) 1), (some (4, []))⟩, ⟨(some (sl 84)), none, (.ld true (.s (sl 83)) none), (some (5, []))⟩, ⟨(some (sl 85)), none, (.idx true (.s (sl 82)) (.s (sl 84)) 1), (some (6, []))⟩, ⟨(some (sl 86)), none, (.ld true (.s (sl 85)) none), (some (7, []))⟩, ⟨(some (sl 87)), none, (.bin .rem (.s (sl 86)) (.c (.int .u64 256))), (some (8, []))⟩, ⟨(some (sl 88)), none, (.cnv .u8 (.s (sl 87))), (some (9, []))⟩, ⟨(some (sl 89)), none, (.mksl 1 1 [(.int .u8 0)] [(0, 1, (.s (sl 88)))]), (some (10, []))⟩, ⟨(some (sl 90)), none, (.cnvs (.s (sl 89))), (some (11, []))⟩, ⟨(some (sl 91)), none, (.bin .add (.s (sl 81)) (.s (sl 90))), (some (12, []))⟩, ⟨(some (sl 92)), none, (.fld (.s (sl 6)) 0), (some (13, []))⟩, ⟨(some (sl 93)), none, (.fld (.s (sl 92)) 2), (some (14, []))⟩, ⟨none, none, (.st (.s (sl 93)) (.s (sl 91)) 1), (some (15, []))⟩])
  (.seq (.reg [⟨(some (sl 94)), none, (.ld false (.s (sl 6)) (some 8)), none⟩, ⟨none, none, (.st (.s (sl 10)) (.s (sl 94)) 8), none⟩, ⟨(some (sl 11)), none, (.mv (.c (.int .u64 0))), none⟩])
  .ret))
  .skip))
  (.seq (.reg [⟨(some (sl 95)), none, (.ld false (.s (sl 6)) (some 8)), (some (0, []))⟩, ⟨(some (sl 96)), none, (.fld (.s (sl 8)) 0), (some (1, []))⟩, ⟨(some (sl 97)), none, (.ld true (.s (sl 96)) none), (some (2, []))⟩, ⟨(some (sl 98)), none, (.mv (.s (sl 4))), (some (3, []))⟩, ⟨(some (sl 99)), none, (.fld (.s (sl 8)) 1), (some (4, []))⟩, ⟨(some (sl 100)), none, (.ld true (.s (sl 99)) none), (some (5, []))⟩, ⟨(some (sl 101)), none, (.idx true (.s (sl 98)) (.s (sl 100)) 1), (some (6, []))⟩, ⟨(some (sl 102)), none, (.ld true (.s (sl 101)) none), (some (7, []))⟩, ⟨(some (sl 103)), none, (.mv (.s (sl 4))), (some (8, []))⟩, ⟨(some (sl 104)), none, (.fld (.s (sl 8)) 2), (some (9, []))⟩, ⟨(some (sl 105)), none, (.ld true (.s (sl 104)) none), (some (10, []))⟩, ⟨(some (sl 106)), none, (.idx true (.s (sl 103)) (.s (sl 105)) 1), (some (11, []))⟩, ⟨(some (sl 107)), none, (.ld true (.s (sl 106)) none), (some (12, []))⟩, ⟨(some (sl 108)), none, (.call true (.f 95) [(.s (sl 97)), (.s (sl 102)), (.s (sl 107))]), (some (13, []))⟩, ⟨none, none, (.st (.s (sl 10)) (.s (sl 95)) 8), (some (14, []))⟩, ⟨(some (sl 11)), none, (.mv (.s (sl 108))), (some (15, []))⟩])
  .ret)))))))
def r_marlineref07_gives : List ARes := [(.cell (sl 10) (some 8)), (.tmp (sl 11))]
theorem t_marlineref07_gives : (Try.f81).body.bind (trCode Try.prog 8 (Try.f81).ntmps [6, 10, 11, 12, 16, 22, 23, 24, 29, 30, 35, 36, 37, 38, 48, 49, 50, 51, 55, 56, 57, 61, 62, 63, 64, 66, 67, 68, 70, 71, 72, 79, 80, 81, 92, 93, 94, 95] [] (drOk 8)) = some c_marlineref07_gives := by kernel_rfl
theorem u_marlineref07_gives : trRess Try.prog 8 (Try.f81).results.toList = some r_marlineref07_gives := by kernel_rfl

/-- marline/marlineref07.call -/
def c_marlineref07_call : ACode :=
  (.seq (.reg [⟨(some (sl 8)), none, (.box true (.s (sl 0))), none⟩, ⟨(some (sl 9)), none, (.box false (.s (sl 1))), none⟩, ⟨(some (sl 16)), none, (.new [(.bool false), (.int .u64 0), (.string ⟨#[]⟩), (.int .i64 0), (.int .i64 0), (.int .i64 0), (.slice none 0 0), (.int .i64 0)]), none⟩, ⟨(some (sl 17)), none, (.mv (.c (.int .u64 0))), none⟩])
  (.seq (.seq (.reg [⟨(some (sl 25)), none, (.mv (.s (sl 5))), none⟩, ⟨(some (sl 26)), none, (.fld (.s (sl 9)) 0), none⟩, ⟨(some (sl 27)), none, (.fld (.s (sl 26)) 5), none⟩, ⟨(some (sl 28)), none, (.ld false (.s (sl 27)) none), none⟩, ⟨(some (sl 29)), none, (.bin .gtr (.s (sl 25)) (.s (sl 28))), none⟩])
  (.cond (.s (sl 29))
  (.reg [⟨(some (sl 30)), none, (.mv (.s (sl 5))), none⟩, ⟨(some (sl 31)), none, (.fld (.s (sl 9)) 0), none⟩, ⟨(some (sl 32)), none, (.fld (.s (sl 31)) 5), none⟩, ⟨none, none, (.st (.s (sl 32)) (.s (sl 30)) 1), none⟩])
  .skip))
  (.seq (.seq (.reg [⟨(some (sl 33)), none, (.fld (.s (sl 8)) 0), (some (0, []))⟩, ⟨(some (sl 34)), none, (.ld true (.s (sl 33)) none), (some (1, []))⟩, ⟨(some (sl 35)), none, (.ld true (.s (sl 8)) (some 2)), (some (2, []))⟩, ⟨(some (sl 36)), none, (.mv (.s (sl 3))), (some (3, []))⟩, ⟨(some (sl 37)), none, (.call true (.f 25) [(.s (sl 35)), (.s (sl 36))]), (some (4, []))⟩, ⟨(some (sl 38)), none, (.idx true (.s (sl 34)) (.s (sl 37)) 4), (some (5, []))⟩, ⟨(some (sl 39)), none, (.ld true (.s (sl 38)) (some 4)), (some (6, []))⟩, ⟨(some (sl 18)), none, (.new [(.string ⟨#[]⟩), (.int .i64 0), (.int .i64 0), (.slice none 0 0)]), (some (7, []))⟩, ⟨none, none, (.ini 1 (.s (sl 18)) (.s (sl 39)) 4), none⟩])
  (.frz (sl 18)))
  (.seq (.reg [⟨(some (sl 19)), none, (.mv (.c (.int .i64 0))), none⟩])
  (.seq (.reg [⟨(some (sl 40)), none, (.mv (.s (sl 4))), none⟩, ⟨(some (sl 20)), none, (.mv (.s (sl 40))), none⟩])
  (.block 0
  (.loop (.block 1
  (.seq (.seq (.reg [⟨(some (sl 41)), none, (.fld (.s (sl 18)) 3), none⟩, ⟨(some (sl 42)), none, (.ld true (.s (sl 41)) none), none⟩, ⟨(some (sl 43)), none, (.mv (.s (sl 19))), none⟩, ⟨(some (sl 44)), none, (.idx true (.s (sl 42)) (.s (sl 43)) 8), none⟩, ⟨(some (sl 45)), none, (.ld true (.s (sl 44)) (some 8)), none⟩, ⟨(some (sl 21)), none, (.new [(.int .i64 0), (.slice none 0 0), (.int .i64 0), (.int .i64 0), (.int .i64 0), (.slice none 0 0), (.int .i64 0), (.slice none 0 0)]), none⟩, ⟨none, none, (.ini 1 (.s (sl 21)) (.s (sl 45)) 8), none⟩])
  (.frz (sl 21)))
  (.seq (.seq (.reg [⟨(some (sl 22)), none, (.mv (.c (.int .i64 0))), none⟩])
  (.block 2
  (.loop (.seq (.seq (.reg [⟨(some (sl 46)), none, (.mv (.s (sl 22))), none⟩, ⟨(some (sl 47)), none, (.fld (.s (sl 21)) 1), none⟩, ⟨(some (sl 48)), none, (.ld true (.s (sl 47)) none), none⟩, ⟨(some (sl 49)), none, (.len false (.s (sl 48))), none⟩, ⟨(some (sl 50)), none, (.bin .lss (.s (sl 46)) (.s (sl 49))), none⟩])
  (.cond (.s (sl 50))
  .skip
  (.exit 2)))
  (.seq (.block 3
  (.seq (.seq (.reg [⟨(some (sl 53)), none, (.fld (.s (sl 21)) 1), none⟩, ⟨(some (sl 54)), none, (.ld true (.s (sl 53)) none), none⟩, ⟨(some (sl 55)), none, (.mv (.s (sl 22))), none⟩, ⟨(some (sl 56)), none, (.idx true (.s (sl 54)) (.s (sl 55)) 6), none⟩, ⟨(some (sl 57)), none, (.ld true (.s (sl 56)) (some 6)), none⟩, ⟨(some (sl 23)), none, (.new [(.int .i64 0), (.int .i64 0), (.int .i64 0), (.int .u64 0), (.string ⟨#[]⟩), (.slice none 0 0)]), none⟩, ⟨none, none, (.ini 1 (.s (sl 23)) (.s (sl 57)) 6), none⟩])
  (.frz (sl 23)))
  (.seq (.reg [⟨(some (sl 58)), none, (.ld false (.s (sl 9)) (some 8)), none⟩, ⟨(some (sl 59)), none, (.mv (.s (sl 6))), none⟩, ⟨(some (sl 60)), none, (.call false (.f 79) [(.s (sl 58)), (.s (sl 59))]), none⟩, ⟨none, none, (.st (.s (sl 9)) (.s (sl 60)) 8), none⟩])
  (.seq (.seq (.reg [⟨(some (sl 61)), none, (.fld (.s (sl 9)) 7), none⟩, ⟨(some (sl 62)), none, (.ld false (.s (sl 61)) none), none⟩, ⟨(some (sl 63)), none, (.bin .neq (.s (sl 62)) (.c (.int .i64 0))), none⟩])
  (.cond (.s (sl 63))
  (.seq (.reg [⟨(some (sl 64)), none, (.ld false (.s (sl 9)) (some 8)), none⟩, ⟨none, none, (.st (.s (sl 16)) (.s (sl 64)) 8), none⟩, ⟨(some (sl 17)), none, (.mv (.c (.int .u64 0))), none⟩])
  .ret)
  .skip))
  (.seq (.reg [⟨(some (sl 24)), none, (.mv (.c (.int .u64 0))), none⟩])
  (.seq (.seq (.reg [⟨(some (sl 65)), none, (.fld (.s (sl 23)) 0), none⟩, ⟨(some (sl 66)), none, (.ld true (.s (sl 65)) none), none⟩, ⟨(some (sl 67)), none, (.bin .eql (.s (sl 66)) (.c (.int .i64 14))), none⟩])
  (.cond (.s (sl 67))
  (.seq (.seq (.reg [⟨(some (sl 68)), none, (.mv (.s (sl 5))), none⟩, ⟨(some (sl 69)), none, (.mv (.s (sl 7))), none⟩, ⟨(some (sl 70)), none, (.bin .eql (.s (sl 68)) (.s (sl 69))), none⟩])
  (.cond (.s (sl 70))
  (.seq (.reg [⟨(some (sl 71)), none, (.fld (.s (sl 9)) 7), none⟩, ⟨none, none, (.st (.s (sl 71)) (.c (.int .i64 13)) 1), none⟩])
  (.seq (.reg [⟨(some (sl 72)), none, (.ld false (.s (sl 9)) (some 8)), none⟩, ⟨none, none, (.st (.s (sl 16)) (.s (sl 72)) 8), none⟩, ⟨(some (sl 17)), none, (.mv (.c (.int .u64 0))), none⟩])
  .ret))
  .skip))
  (.seq (.reg [⟨(some (sl 74)), none, (.ld true (.s (sl 8)) (some 2)), (some (0, []))⟩, ⟨(some (sl 75)), none, (.ld false (.s (sl 9)) (some 8)), (some (1, []))⟩, ⟨(some (sl 76)), none, (.mv (.s (sl 2))), (some (2, []))⟩, ⟨(some (sl 77)), none, (.fld (.s (sl 23)) 4), (some (3, []))⟩, ⟨(some (sl 78)), none, (.ld true (.s (sl 77)) none), (some (4, []))⟩, ⟨(some (sl 79)), none, (.mv (.s (sl 20))), (some (5, []))⟩, ⟨(some (sl 80)), none, (.fld (.s (sl 23)) 5), (some (6, []))⟩, ⟨(some (sl 81)), none, (.ld true (.s (sl 80)) none), (some (7, []))⟩, ⟨(some (sl 82)), none, (.call false (.f 80) [(.s (sl 79)), (.s (sl 81))]), (some (8, []))⟩, ⟨(some (sl 83)), none, (.mv (.s (sl 5))), (some (9, []))⟩, ⟨(some (sl 84)), none, (.bin .add (.s (sl 83)) (.c (.int .i64 1))), (some (10, []))⟩, ⟨(some (sl 85)), none, (.mv (.s (sl 6))), (some (11, []))⟩, ⟨(some (sl 86)), none, (.mv (.s (sl 7))), (some (12, []))⟩, ⟨(some (sl 87)), none, (.call false (.f 50) [(.s (sl 74)), (.s (sl 75)), (.s (sl 76)), (.s (sl 78)), (.s (sl 82)), (.s (sl 84)), (.s (sl 85)), (.s (sl 86))]), (some (13, []))⟩, ⟨(some (sl 73)), none, (.mv (.s (sl 87))), (some (14, []))⟩, ⟨(some (sl 88)), none, (.ext (.s (sl 73)) 0), (some (15, []))⟩, ⟨(some (sl 89)), none, (.ext (.s (sl 73)) 1), (some (16, []))⟩, ⟨none, none, (.st (.s (sl 9)) (.s (sl 88)) 8), (some (17, []))⟩, ⟨(some (sl 24)), none, (.mv (.s (sl 89))), (some (18, []))⟩])
  (.seq (.reg [⟨(some (sl 90)), none, (.fld (.s (sl 9)) 7), none⟩, ⟨(some (sl 91)), none, (.ld false (.s (sl 90)) none), none⟩, ⟨(some (sl 92)), none, (.bin .neq (.s (sl 91)) (.c (.int .i64 0))), none⟩])
  (.cond (.s (sl 92))
  (.seq (.reg [⟨(some (sl 93)), none, (.ld false (.s (sl 9)) (some 8)), none⟩, ⟨none, none, (.st (.s (sl 16)) (.s (sl 93)) 8), none⟩, ⟨(some (sl 17)), none, (.mv (.c (.int .u64 0))), none⟩])
  .ret)
  .skip))))
  (.reg [⟨(some (sl 95)), none, (.ld true (.s (sl 8)) (some 2)), none⟩, ⟨(some (sl 96)), none, (.ld false (.s (sl 9)) (some 8)), none⟩, ⟨(some (sl 97)), none, (.mv (.s (sl 2))), none⟩, ⟨(some (sl 98)), none, (.ld true (.s (sl 23)) (some 6)), none⟩, ⟨(some (sl 99)), none, (.mv (.s (sl 20))), none⟩, ⟨(some (sl 100)), none, (.call false (.f 81) [(.s (sl 95)), (.s (sl 96)), (.s (sl 97)), (.s (sl 98)), (.s (sl 99))]), none⟩, ⟨(some (sl 94)), none, (.mv (.s (sl 100))), none⟩, ⟨(some (sl 101)), none, (.ext (.s (sl 94)) 0), none⟩, ⟨(some (sl 102)), none, (.ext (.s (sl 94)) 1), none⟩, ⟨none, none, (.st (.s (sl 9)) (.s (sl 101)) 8), none⟩, ⟨(some (sl 24)), none, (.mv (.s (sl 102))), none⟩])))
  (.reg [⟨(some (sl 103)), none, (.nrow 32 1), none⟩, ⟨(some (sl 104)), none, (.mv (.s (sl 20))), none⟩, ⟨(some (sl 105)), none, (.app 32 1 8 (.s (sl 103)) (.s (sl 104))), none⟩, ⟨(some (sl 106)), none, (.mv (.s (sl 24))), none⟩, ⟨(some (sl 107)), none, (.mksl 1 1 [(.int .u64 0)] [(0, 1, (.s (sl 106)))]), none⟩, ⟨(some (sl 108)), none, (.app 32 1 8 (.s (sl 105)) (.s (sl 107))), none⟩, ⟨(some (sl 20)), none, (.mv (.s (sl 108))), none⟩])))))))
  (.reg [⟨(some (sl 51)), none, (.mv (.s (sl 22))), none⟩, ⟨(some (sl 52)), none, (.bin .add (.s (sl 51)) (.c (.int .i64 1))), none⟩, ⟨(some (sl 22)), none, (.mv (.s (sl 52))), none⟩]))))))
  (.seq (.reg [⟨(some (sl 109)), none, (.ld false (.s (sl 9)) (some 8)), none⟩, ⟨(some (sl 110)), none, (.mv (.s (sl 6))), none⟩, ⟨(some (sl 111)), none, (.call false (.f 79) [(.s (sl 109)), (.s (sl 110))]), none⟩, ⟨none, none, (.st (.s (sl 9)) (.s (sl 111)) 8), none⟩])
  (.seq (.seq (.reg [⟨(some (sl 112)), none, (.fld (.s (sl 9)) 7), none⟩, ⟨(some (sl 113)), none, (.ld false (.s (sl 112)) none), none⟩, ⟨(some (sl 114)), none, (.bin .neq (.s (sl 113)) (.c (.int .i64 0))), none⟩])
  (.cond (.s (sl 114))
  (.seq (.reg [⟨(some (sl 115)), none, (.ld false (.s (sl 9)) (some 8)), none⟩, ⟨none, none, (.st (.s (sl 16)) (.s (sl 115)) 8), none⟩, ⟨(some (sl 17)), none, (.mv (.c (.int .u64 0))), none⟩])
  .ret)
  .skip))
  (.seq (.seq (.reg [⟨(some (sl 116)), none, (.fld (.s (sl 21)) 2), none⟩, ⟨(some (sl 117)), none, (.fld (.s (sl 116)) 0), none⟩, ⟨(some (sl 118)), none, (.ld true (.s (sl 117)) none), none⟩, ⟨(some (sl 119)), none, (.bin .eql (.s (sl 118)) (.c (.int .i64 3))), none⟩])
  (.cond (.s (sl 119))
  (.seq (.reg [⟨(some (sl 120)), none, (.ld false (.s (sl 9)) (some 8)), (some (0, [(sl 16)]))⟩, ⟨(some (sl 121)), none, (.mv (.s (sl 20))), (some (1, [(sl 16)]))⟩, ⟨(some (sl 122)), none, (.fld (.s (sl 21)) 2), (some (2, [(sl 16)]))⟩, ⟨(some (sl 123)), none, (.fld (.s (sl 122)) 1), (some (3, [(sl 16)]))⟩, ⟨(some (sl 124)), none, (.ld true (.s (sl 123)) none), (some (4, [(sl 16)]))⟩, ⟨(some (sl 125)), none, (.idx false (.s (sl 121)) (.s (sl 124)) 1), (some (5, [(sl 16)]))⟩, ⟨(some (sl 126)), none, (.ld false (.s (sl 125)) none), (some (6, [(sl 16)]))⟩, ⟨none, none, (.st (.s (sl 16)) (.s (sl 120)) 8), (some (7, [(sl 16)]))⟩, ⟨(some (sl 17)), none, (.mv (.s (sl 126))), (some (8, [(sl 16)]))⟩])
  .ret)
  .skip))
  (.seq (.reg [⟨(some (sl 127)), none, (.fld (.s (sl 21)) 2), none⟩, ⟨(some (sl 128)), none, (.fld (.s (sl 127)) 0), none⟩, ⟨(some (sl 129)), none, (.ld true (.s (sl 128)) none), none⟩, ⟨(some (sl 130)), none, (.bin .eql (.s (sl 129)) (.c (.int .i64 2))), none⟩, ⟨(some (sl 131)), none, (.mv (.s (sl 130))), none⟩, ⟨(some (sl 132)), (some ((sl 131), true)), (.mv (.s (sl 20))), none⟩, ⟨(some (sl 133)), (some ((sl 131), true)), (.fld (.s (sl 21)) 2), none⟩, ⟨(some (sl 134)), (some ((sl 131), true)), (.fld (.s (sl 133)) 1), none⟩, ⟨(some (sl 135)), (some ((sl 131), true)), (.ld true (.s (sl 134)) none), none⟩, ⟨(some (sl 136)), (some ((sl 131), true)), (.idx false (.s (sl 132)) (.s (sl 135)) 1), none⟩, ⟨(some (sl 137)), (some ((sl 131), true)), (.ld false (.s (sl 136)) none), none⟩, ⟨(some (sl 138)), (some ((sl 131), true)), (.bin .eql (.s (sl 137)) (.c (.int .u64 0))), none⟩, ⟨(some (sl 139)), none, (.pick (.s (sl 131)) (.s (sl 138)) (.c (.bool false))), none⟩])
  (.cond (.s (sl 139))
  (.seq (.reg [⟨(some (sl 140)), none, (.fld (.s (sl 21)) 2), none⟩, ⟨(some (sl 141)), none, (.fld (.s (sl 140)) 4), none⟩, ⟨(some (sl 142)), none, (.ld true (.s (sl 141)) none), none⟩, ⟨(some (sl 19)), none, (.mv (.s (sl 142))), none⟩])
  (.reg [⟨(some (sl 143)), none, (.mv (.s (sl 20))), none⟩, ⟨(some (sl 144)), none, (.fld (.s (sl 21)) 2), none⟩, ⟨(some (sl 145)), none, (.fld (.s (sl 144)) 5), none⟩, ⟨(some (sl 146)), none, (.ld true (.s (sl 145)) none), none⟩, ⟨(some (sl 147)), none, (.call false (.f 80) [(.s (sl 143)), (.s (sl 146))]), none⟩, ⟨(some (sl 20)), none, (.mv (.s (sl 147))), none⟩]))
  (.seq (.reg [⟨(some (sl 148)), none, (.fld (.s (sl 21)) 2), none⟩, ⟨(some (sl 149)), none, (.fld (.s (sl 148)) 2), none⟩, ⟨(some (sl 150)), none, (.ld true (.s (sl 149)) none), none⟩, ⟨(some (sl 19)), none, (.mv (.s (sl 150))), none⟩])
  (.reg [⟨(some (sl 151)), none, (.mv (.s (sl 20))), none⟩, ⟨(some (sl 152)), none, (.fld (.s (sl 21)) 2), none⟩, ⟨(some (sl 153)), none, (.fld (.s (sl 152)) 3), none⟩, ⟨(some (sl 154)), none, (.ld true (.s (sl 153)) none), none⟩, ⟨(some (sl 155)), none, (.call false (.f 80) [(.s (sl 151)), (.s (sl 154))]), none⟩, ⟨(some (sl 20)), none, (.mv (.s (sl 155))), none⟩])))))))))))))))))
def r_marlineref07_call : List ARes := [(.cell (sl 16) (some 8)), (.tmp (sl 17))]
theorem t_marlineref07_call : (Try.f50).body.bind (trCode Try.prog 8 (Try.f50).ntmps [9, 16, 17, 20, 26, 27, 28, 31, 32, 58, 61, 62, 64, 71, 72, 75, 79, 90, 91, 93, 96, 99, 104, 105, 108, 109, 112, 113, 115, 120, 121, 125, 126, 132, 136, 137, 143, 151] [] (drOk 8)) = some c_marlineref07_call := by kernel_rfl
theorem u_marlineref07_call : trRess Try.prog 8 (Try.f50).results.toList = some r_marlineref07_call := by kernel_rfl

/-- marline/marlineref07.Run -/
def c_marlineref07_Run : ACode :=
  (.seq (.reg [⟨(some (sl 4)), none, (.box true (.s (sl 0))), none⟩, ⟨(some (sl 8)), none, (.new [(.bool false), (.int .u64 0), (.string ⟨#[]⟩), (.int .i64 0), (.int .i64 0), (.int .i64 0)]), none⟩, ⟨(some (sl 9)), none, (.mv (.c (.int .i64 0))), none⟩])
  (.seq (.seq (.reg [⟨(some (sl 14)), none, (.mv (.s (sl 2))), none⟩, ⟨(some (sl 15)), none, (.bin .lss (.s (sl 14)) (.c (.int .i64 0))), none⟩, ⟨(some (sl 16)), none, (.mv (.s (sl 15))), none⟩, ⟨(some (sl 17)), (some ((sl 16), false)), (.mv (.s (sl 2))), none⟩, ⟨(some (sl 18)), (some ((sl 16), false)), (.bin .gtr (.s (sl 17)) (.c (.int .i64 100000))), none⟩, ⟨(some (sl 19)), none, (.pick (.s (sl 16)) (.c (.bool true)) (.s (sl 18))), none⟩, ⟨(some (sl 20)), none, (.mv (.s (sl 19))), none⟩, ⟨(some (sl 21)), (some ((sl 20), false)), (.mv (.s (sl 3))), none⟩, ⟨(some (sl 22)), (some ((sl 20), false)), (.bin .lss (.s (sl 21)) (.c (.int .i64 1))), none⟩, ⟨(some (sl 23)), none, (.pick (.s (sl 20)) (.c (.bool true)) (.s (sl 22))), none⟩, ⟨(some (sl 24)), none, (.mv (.s (sl 23))), none⟩, ⟨(some (sl 25)), (some ((sl 24), false)), (.mv (.s (sl 3))), none⟩, ⟨(some (sl 26)), (some ((sl 24), false)), (.bin .gtr (.s (sl 25)) (.c (.int .i64 64))), none⟩, ⟨(some (sl 27)), none, (.pick (.s (sl 24)) (.c (.bool true)) (.s (sl 26))), none⟩])
  (.cond (.s (sl 27))
  (.seq (.reg [⟨(some (sl 28)), none, (.bld [(.bool false), (.int .u64 0), (.string ⟨#[]⟩), (.int .i64 0), (.int .i64 0), (.int .i64 0)] []), none⟩, ⟨none, none, (.st (.s (sl 8)) (.s (sl 28)) 6), none⟩, ⟨(some (sl 9)), none, (.mv (.c (.int .i64 1))), none⟩])
  .ret)
  .skip))
  (.seq (.reg [⟨(some (sl 29)), none, (.ld true (.s (sl 4)) (some 2)), none⟩, ⟨(some (sl 30)), none, (.call true (.f 20) [(.s (sl 29))]), none⟩, ⟨(some (sl 10)), none, (.mv (.s (sl 30))), none⟩])
  (.seq (.seq (.reg [⟨(some (sl 31)), none, (.mv (.s (sl 10))), none⟩, ⟨(some (sl 32)), none, (.bin .neq (.s (sl 31)) (.c (.int .i64 0))), none⟩])
  (.cond (.s (sl 32))
  (.seq (.reg [⟨(some (sl 33)), none, (.bld [(.bool false), (.int .u64 0), (.string ⟨#[]⟩), (.int .i64 0), (.int .i64 0), (.int .i64 0)] []), none⟩, ⟨(some (sl 34)), none, (.mv (.s (sl 10))), none⟩, ⟨none, none, (.st (.s (sl 8)) (.s (sl 33)) 6), none⟩, ⟨(some (sl 9)), none, (.mv (.s (sl 34))), none⟩])
  .ret)
  .skip))
  (.seq (.reg [⟨(some (sl 35)), none, (.bld [(.bool false), (.int .u64 0), (.string ⟨#[]⟩), (.int .i64 0), (.int .i64 0), (.int .i64 0), (.slice none 0 0), (.int .i64 0)] []), none⟩, ⟨(some (sl 11)), none, (.new [(.bool false), (.int .u64 0), (.string ⟨#[]⟩), (.int .i64 0), (.int .i64 0), (.int .i64 0), (.slice none 0 0), (.int .i64 0)]), none⟩, ⟨none, none, (.ini 1 (.s (sl 11)) (.s (sl 35)) 8), none⟩])
  (.seq (.seq (.reg [⟨(some (sl 12)), none, (.mv (.c (.int .i64 0))), none⟩])
  (.block 0
  (.loop (.seq (.seq (.reg [⟨(some (sl 36)), none, (.mv (.s (sl 12))), none⟩, ⟨(some (sl 37)), none, (.fld (.s (sl 4)) 1), none⟩, ⟨(some (sl 38)), none, (.ld true (.s (sl 37)) none), none⟩, ⟨(some (sl 39)), none, (.len false (.s (sl 38))), none⟩, ⟨(some (sl 40)), none, (.bin .lss (.s (sl 36)) (.s (sl 39))), none⟩])
  (.cond (.s (sl 40))
  .skip
  (.exit 0)))
  (.seq (.block 1
  (.reg [⟨(some (sl 43)), none, (.fld (.s (sl 11)) 6), (some (0, []))⟩, ⟨(some (sl 44)), none, (.ld false (.s (sl 43)) none), (some (1, []))⟩, ⟨(some (sl 45)), none, (.fld (.s (sl 4)) 1), (some (2, []))⟩, ⟨(some (sl 46)), none, (.ld true (.s (sl 45)) none), (some (3, []))⟩, ⟨(some (sl 47)), none, (.mv (.s (sl 12))), (some (4, []))⟩, ⟨(some (sl 48)), none, (.idx true (.s (sl 46)) (.s (sl 47)) 4), (some (5, []))⟩, ⟨(some (sl 49)), none, (.fld (.s (sl 48)) 3), (some (6, []))⟩, ⟨(some (sl 50)), none, (.ld true (.s (sl 49)) none), (some (7, []))⟩, ⟨(some (sl 51)), none, (.mksl 1 1 [(.int .u64 0)] [(0, 1, (.s (sl 50)))]), (some (8, []))⟩, ⟨(some (sl 52)), none, (.app 32 1 8 (.s (sl 44)) (.s (sl 51))), (some (9, []))⟩, ⟨(some (sl 53)), none, (.fld (.s (sl 11)) 6), (some (10, []))⟩, ⟨none, none, (.st (.s (sl 53)) (.s (sl 52)) 1), (some (11, []))⟩]))
  (.reg [⟨(some (sl 41)), none, (.mv (.s (sl 12))), none⟩, ⟨(some (sl 42)), none, (.bin .add (.s (sl 41)) (.c (.int .i64 1))), none⟩, ⟨(some (sl 12)), none, (.mv (.s (sl 42))), none⟩]))))))
  (.seq (.reg [⟨(some (sl 55)), none, (.ld true (.s (sl 4)) (some 2)), none⟩, ⟨(some (sl 56)), none, (.ld false (.s (sl 11)) (some 8)), none⟩, ⟨(some (sl 57)), none, (.mv (.s (sl 1))), none⟩, ⟨(some (sl 58)), none, (.mv (.s (sl 2))), none⟩, ⟨(some (sl 59)), none, (.mv (.s (sl 3))), none⟩, ⟨(some (sl 60)), none, (.call false (.f 50) [(.s (sl 55)), (.s (sl 56)), (.s (sl 57)), (.c (.string ⟨#[109, 97, 105, 110]⟩)), (.c (.slice none 0 0)), (.c (.int .i64 1)), (.s (sl 58)), (.s (sl 59))]), none⟩, ⟨(some (sl 54)), none, (.mv (.s (sl 60))), none⟩, ⟨(some (sl 61)), none, (.ext (.s (sl 54)) 0), none⟩, ⟨(some (sl 62)), none, (.ext (.s (sl 54)) 1), none⟩, ⟨none, none, (.st (.s (sl 11)) (.s (sl 61)) 8), none⟩, ⟨(some (sl 13)), none, (.mv (.s (sl 62))), none⟩])
  (.seq (.seq (.reg [⟨(some (sl 63)), none, (.fld (.s (sl 11)) 7), none⟩, ⟨(some (sl 64)), none, (.ld false (.s (sl 63)) none), none⟩, ⟨(some (sl 65)), none, (.bin .neq (.s (sl 64)) (.c (.int .i64 0))), none⟩])
  (.cond (.s (sl 65))
  (.seq (.reg [⟨(some (sl 66)), none, (.fld (.s (sl 11)) 0), (some (0, [(sl 8)]))⟩, ⟨(some (sl 67)), none, (.ld false (.s (sl 66)) (some 6)), (some (1, [(sl 8)]))⟩, ⟨(some (sl 68)), none, (.fld (.s (sl 11)) 7), (some (2, [(sl 8)]))⟩, ⟨(some (sl 69)), none, (.ld false (.s (sl 68)) none), (some (3, [(sl 8)]))⟩, ⟨none, none, (.st (.s (sl 8)) (.s (sl 67)) 6), (some (4, [(sl 8)]))⟩, ⟨(some (sl 9)), none, (.mv (.s (sl 69))), (some (5, [(sl 8)]))⟩])
  .ret)
  .skip))
  (.seq (.reg [⟨(some (sl 70)), none, (.fld (.s (sl 11)) 0), none⟩, ⟨(some (sl 71)), none, (.fld (.s (sl 70)) 0), none⟩, ⟨none, none, (.st (.s (sl 71)) (.c (.bool true)) 1), none⟩])
  (.seq (.reg [⟨(some (sl 72)), none, (.mv (.s (sl 13))), none⟩, ⟨(some (sl 73)), none, (.fld (.s (sl 11)) 0), none⟩, ⟨(some (sl 74)), none, (.fld (.s (sl 73)) 1), none⟩, ⟨none, none, (.st (.s (sl 74)) (.s (sl 72)) 1), none⟩])
  (.seq (.reg [⟨(some (sl 75)), none, (.fld (.s (sl 11)) 0), none⟩, ⟨(some (sl 76)), none, (.ld false (.s (sl 75)) (some 6)), none⟩, ⟨none, none, (.st (.s (sl 8)) (.s (sl 76)) 6), none⟩, ⟨(some (sl 9)), none, (.mv (.c (.int .i64 0))), none⟩])
  .ret)))))))))))
def r_marlineref07_Run : List ARes := [(.cell (sl 8) (some 6)), (.tmp (sl 9))]
theorem t_marlineref07_Run : (Try.f21).body.bind (trCode Try.prog 8 (Try.f21).ntmps [8, 9, 11, 43, 44, 52, 53, 56, 63, 64, 66, 67, 68, 69, 70, 71, 73, 74, 75, 76] [] (drOk 8)) = some c_marlineref07_Run := by kernel_rfl
theorem u_marlineref07_Run : trRess Try.prog 8 (Try.f21).results.toList = some r_marlineref07_Run := by kernel_rfl

end Go.Proofs.Ytifinpijhbkhnaa
