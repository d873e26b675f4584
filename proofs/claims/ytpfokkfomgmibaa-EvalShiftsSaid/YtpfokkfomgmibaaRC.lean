/- The bodies of some functions, as the evaluator has them (printed by program), and that they are the program's own. -/
import Derived.Test.YtpfokkfomgmibaaKE
namespace Go.Proofs.Ytpfokkfomgmibaa
open Go.RowKit

/-- marline/marlineref07.Whole -/
def c_marlineref07_Whole : ACode :=
  (.seq (.reg [⟨(some (sl 1)), none, (.box true (.s (sl 0))), none⟩, ⟨(some (sl 2)), none, (.mv (.c (.int .i64 0))), none⟩])
  (.seq (.reg [⟨(some (sl 10)), none, (.ld true (.s (sl 1)) (some 2)), none⟩, ⟨(some (sl 11)), none, (.call true (.f 31) [(.s (sl 10))]), none⟩, ⟨(some (sl 3)), none, (.mv (.s (sl 11))), none⟩])
  (.seq (.seq (.reg [⟨(some (sl 12)), none, (.mv (.s (sl 3))), none⟩, ⟨(some (sl 13)), none, (.bin .neq (.s (sl 12)) (.c (.int .i64 0))), none⟩])
  (.cond (.s (sl 13))
  (.seq (.reg [⟨(some (sl 14)), none, (.mv (.s (sl 3))), none⟩, ⟨(some (sl 2)), none, (.mv (.s (sl 14))), none⟩])
  .ret)
  .skip))
  (.seq (.reg [⟨(some (sl 15)), none, (.ld true (.s (sl 1)) (some 2)), none⟩, ⟨(some (sl 16)), none, (.call true (.f 32) [(.s (sl 15)), (.c (.string ⟨#[109, 97, 105, 110]⟩))]), none⟩, ⟨(some (sl 4)), none, (.mv (.s (sl 16))), none⟩])
  (.seq (.seq (.reg [⟨(some (sl 17)), none, (.mv (.s (sl 4))), none⟩, ⟨(some (sl 18)), none, (.bin .lss (.s (sl 17)) (.c (.int .i64 0))), none⟩, ⟨(some (sl 19)), none, (.mv (.s (sl 18))), none⟩, ⟨(some (sl 20)), (some ((sl 19), false)), (.fld (.s (sl 1)) 0), none⟩, ⟨(some (sl 21)), (some ((sl 19), false)), (.ld true (.s (sl 20)) none), none⟩, ⟨(some (sl 22)), (some ((sl 19), false)), (.mv (.s (sl 4))), none⟩, ⟨(some (sl 23)), (some ((sl 19), false)), (.idx true (.s (sl 21)) (.s (sl 22)) 4), none⟩, ⟨(some (sl 24)), (some ((sl 19), false)), (.fld (.s (sl 23)) 3), none⟩, ⟨(some (sl 25)), (some ((sl 19), false)), (.ld true (.s (sl 24)) none), none⟩, ⟨(some (sl 26)), (some ((sl 19), false)), (.len false (.s (sl 25))), none⟩, ⟨(some (sl 27)), (some ((sl 19), false)), (.bin .eql (.s (sl 26)) (.c (.int .i64 0))), none⟩, ⟨(some (sl 28)), none, (.pick (.s (sl 19)) (.c (.bool true)) (.s (sl 27))), none⟩, ⟨(some (sl 29)), none, (.mv (.s (sl 28))), none⟩, ⟨(some (sl 30)), (some ((sl 29), false)), (.fld (.s (sl 1)) 0), none⟩, ⟨(some (sl 31)), (some ((sl 29), false)), (.ld true (.s (sl 30)) none), none⟩, ⟨(some (sl 32)), (some ((sl 29), false)), (.mv (.s (sl 4))), none⟩, ⟨(some (sl 33)), (some ((sl 29), false)), (.idx true (.s (sl 31)) (.s (sl 32)) 4), none⟩, ⟨(some (sl 34)), (some ((sl 29), false)), (.fld (.s (sl 33)) 2), none⟩, ⟨(some (sl 35)), (some ((sl 29), false)), (.ld true (.s (sl 34)) none), none⟩, ⟨(some (sl 36)), (some ((sl 29), false)), (.bin .neq (.s (sl 35)) (.c (.int .i64 0))), none⟩, ⟨(some (sl 37)), none, (.pick (.s (sl 29)) (.c (.bool true)) (.s (sl 36))), none⟩])
  (.cond (.s (sl 37))
  (.seq (.reg [⟨(some (sl 2)), none, (.mv (.c (.int .i64 11))), none⟩])
  .ret)
  .skip))
  (.seq (.seq (.reg [⟨(some (sl 5)), none, (.mv (.c (.int .i64 0))), none⟩])
  (.block 0
  (.loop (.seq (.seq (.reg [⟨(some (sl 38)), none, (.mv (.s (sl 5))), none⟩, ⟨(some (sl 39)), none, (.fld (.s (sl 1)) 0), none⟩, ⟨(some (sl 40)), none, (.ld true (.s (sl 39)) none), none⟩, ⟨(some (sl 41)), none, (.len false (.s (sl 40))), none⟩, ⟨(some (sl 42)), none, (.bin .lss (.s (sl 38)) (.s (sl 41))), none⟩])
  (.cond (.s (sl 42))
  .skip
  (.exit 0)))
  (.seq (.block 1
  (.seq (.reg [⟨(some (sl 45)), none, (.fld (.s (sl 1)) 0), none⟩, ⟨(some (sl 46)), none, (.ld true (.s (sl 45)) none), none⟩, ⟨(some (sl 47)), none, (.mv (.s (sl 5))), none⟩, ⟨(some (sl 48)), none, (.idx true (.s (sl 46)) (.s (sl 47)) 4), none⟩, ⟨(some (sl 49)), none, (.ld true (.s (sl 48)) (some 4)), none⟩, ⟨(some (sl 50)), none, (.call true (.f 33) [(.s (sl 49))]), none⟩, ⟨(some (sl 6)), none, (.mv (.s (sl 50))), none⟩])
  (.seq (.reg [⟨(some (sl 7)), none, (.mv (.c (.int .i64 0))), none⟩])
  (.block 2
  (.loop (.seq (.seq (.reg [⟨(some (sl 51)), none, (.mv (.s (sl 7))), none⟩, ⟨(some (sl 52)), none, (.mv (.s (sl 6))), none⟩, ⟨(some (sl 53)), none, (.len false (.s (sl 52))), none⟩, ⟨(some (sl 54)), none, (.bin .lss (.s (sl 51)) (.s (sl 53))), none⟩])
  (.cond (.s (sl 54))
  .skip
  (.exit 2)))
  (.seq (.block 3
  (.seq (.reg [⟨(some (sl 57)), none, (.ld true (.s (sl 1)) (some 2)), (some (0, []))⟩, ⟨(some (sl 58)), none, (.mv (.s (sl 6))), (some (1, []))⟩, ⟨(some (sl 59)), none, (.mv (.s (sl 7))), (some (2, []))⟩, ⟨(some (sl 60)), none, (.idx true (.s (sl 58)) (.s (sl 59)) 1), (some (3, []))⟩, ⟨(some (sl 61)), none, (.ld true (.s (sl 60)) none), (some (4, []))⟩, ⟨(some (sl 62)), none, (.call true (.f 32) [(.s (sl 57)), (.s (sl 61))]), (some (5, []))⟩, ⟨(some (sl 8)), none, (.mv (.s (sl 62))), (some (6, []))⟩])
  (.seq (.reg [⟨(some (sl 63)), none, (.ld true (.s (sl 1)) (some 2)), (some (0, []))⟩, ⟨(some (sl 64)), none, (.mv (.s (sl 6))), (some (1, []))⟩, ⟨(some (sl 65)), none, (.mv (.s (sl 7))), (some (2, []))⟩, ⟨(some (sl 66)), none, (.idx true (.s (sl 64)) (.s (sl 65)) 1), (some (3, []))⟩, ⟨(some (sl 67)), none, (.ld true (.s (sl 66)) none), (some (4, []))⟩, ⟨(some (sl 68)), none, (.call true (.f 34) [(.s (sl 63)), (.s (sl 67))]), (some (5, []))⟩, ⟨(some (sl 9)), none, (.mv (.s (sl 68))), (some (6, []))⟩])
  (.seq (.reg [⟨(some (sl 69)), none, (.mv (.s (sl 8))), none⟩, ⟨(some (sl 70)), none, (.bin .geq (.s (sl 69)) (.c (.int .i64 0))), none⟩, ⟨(some (sl 71)), none, (.mv (.s (sl 70))), none⟩, ⟨(some (sl 72)), (some ((sl 71), true)), (.fld (.s (sl 1)) 0), none⟩, ⟨(some (sl 73)), (some ((sl 71), true)), (.ld true (.s (sl 72)) none), none⟩, ⟨(some (sl 74)), (some ((sl 71), true)), (.mv (.s (sl 8))), none⟩, ⟨(some (sl 75)), (some ((sl 71), true)), (.idx true (.s (sl 73)) (.s (sl 74)) 4), none⟩, ⟨(some (sl 76)), (some ((sl 71), true)), (.fld (.s (sl 75)) 3), none⟩, ⟨(some (sl 77)), (some ((sl 71), true)), (.ld true (.s (sl 76)) none), none⟩, ⟨(some (sl 78)), (some ((sl 71), true)), (.len false (.s (sl 77))), none⟩, ⟨(some (sl 79)), (some ((sl 71), true)), (.bin .eql (.s (sl 78)) (.c (.int .i64 0))), none⟩, ⟨(some (sl 80)), none, (.pick (.s (sl 71)) (.s (sl 79)) (.c (.bool false))), none⟩, ⟨(some (sl 81)), none, (.mv (.s (sl 80))), none⟩, ⟨(some (sl 82)), (some ((sl 81), false)), (.mv (.s (sl 8))), none⟩, ⟨(some (sl 83)), (some ((sl 81), false)), (.bin .lss (.s (sl 82)) (.c (.int .i64 0))), none⟩, ⟨(some (sl 84)), (some ((sl 81), false)), (.mv (.s (sl 83))), none⟩, ⟨(some (sl 85)), (some ((sl 84), true)), (.fld (.s (sl 1)) 1), none⟩, ⟨(some (sl 86)), (some ((sl 84), true)), (.ld true (.s (sl 85)) none), none⟩, ⟨(some (sl 87)), (some ((sl 84), true)), (.mv (.s (sl 9))), none⟩, ⟨(some (sl 88)), (some ((sl 84), true)), (.idx true (.s (sl 86)) (.s (sl 87)) 4), none⟩, ⟨(some (sl 89)), (some ((sl 84), true)), (.fld (.s (sl 88)) 2), none⟩, ⟨(some (sl 90)), (some ((sl 84), true)), (.ld true (.s (sl 89)) none), none⟩, ⟨(some (sl 91)), (some ((sl 84), true)), (.not (.s (sl 90))), none⟩, ⟨(some (sl 92)), (some ((sl 81), false)), (.pick (.s (sl 84)) (.s (sl 91)) (.c (.bool false))), none⟩, ⟨(some (sl 93)), none, (.pick (.s (sl 81)) (.c (.bool true)) (.s (sl 92))), none⟩])
  (.cond (.s (sl 93))
  (.seq (.reg [⟨(some (sl 2)), none, (.mv (.c (.int .i64 8))), none⟩])
  .ret)
  .skip)))))
  (.reg [⟨(some (sl 55)), none, (.mv (.s (sl 7))), none⟩, ⟨(some (sl 56)), none, (.bin .add (.s (sl 55)) (.c (.int .i64 1))), none⟩, ⟨(some (sl 7)), none, (.mv (.s (sl 56))), none⟩]))))))))
  (.reg [⟨(some (sl 43)), none, (.mv (.s (sl 5))), none⟩, ⟨(some (sl 44)), none, (.bin .add (.s (sl 43)) (.c (.int .i64 1))), none⟩, ⟨(some (sl 5)), none, (.mv (.s (sl 44))), none⟩]))))))
  (.seq (.reg [⟨(some (sl 2)), none, (.mv (.c (.int .i64 0))), none⟩])
  .ret)))))))
def r_marlineref07_Whole : List ARes := [(.tmp (sl 2))]
theorem t_marlineref07_Whole : (Try.f16).body.bind (trCode Try.prog 8 (Try.f16).ntmps [] [] (drOk 8)) = some c_marlineref07_Whole := by kernel_rfl
theorem u_marlineref07_Whole : trRess Try.prog 8 (Try.f16).results.toList = some r_marlineref07_Whole := by kernel_rfl

/-- marline/marlineref07.power -/
def c_marlineref07_power : ACode :=
  (.seq (.reg [⟨(some (sl 2)), none, (.mv (.c (.int .u64 0))), none⟩])
  (.seq (.reg [⟨(some (sl 3)), none, (.mv (.c (.int .u64 1))), none⟩])
  (.seq (.block 0
  (.loop (.seq (.seq (.reg [⟨(some (sl 4)), none, (.mv (.s (sl 0))), none⟩, ⟨(some (sl 5)), none, (.bin .gtr (.s (sl 4)) (.c (.int .u64 0))), none⟩])
  (.cond (.s (sl 5))
  .skip
  (.exit 0)))
  (.block 1
  (.seq (.reg [⟨(some (sl 6)), none, (.mv (.s (sl 3))), none⟩, ⟨(some (sl 7)), none, (.mv (.s (sl 3))), none⟩, ⟨(some (sl 8)), none, (.bin .add (.s (sl 6)) (.s (sl 7))), none⟩, ⟨(some (sl 3)), none, (.mv (.s (sl 8))), none⟩])
  (.reg [⟨(some (sl 9)), none, (.mv (.s (sl 0))), none⟩, ⟨(some (sl 10)), none, (.bin .sub (.s (sl 9)) (.c (.int .u64 1))), none⟩, ⟨(some (sl 0)), none, (.mv (.s (sl 10))), none⟩]))))))
  (.seq (.reg [⟨(some (sl 11)), none, (.mv (.s (sl 3))), none⟩, ⟨(some (sl 2)), none, (.mv (.s (sl 11))), none⟩])
  .ret))))
def r_marlineref07_power : List ARes := [(.tmp (sl 2))]
theorem t_marlineref07_power : (Try.f36).body.bind (trCode Try.prog 8 (Try.f36).ntmps [] [] (drOk 8)) = some c_marlineref07_power := by kernel_rfl
theorem u_marlineref07_power : trRess Try.prog 8 (Try.f36).results.toList = some r_marlineref07_power := by kernel_rfl

/-- marline/marlineref07.Reckon -/
def c_marlineref07_Reckon : ACode :=
  (.seq (.reg [⟨(some (sl 6)), none, (.mv (.c (.int .u64 0))), none⟩])
  (.seq (.seq (.reg [⟨(some (sl 7)), none, (.mv (.s (sl 0))), none⟩, ⟨(some (sl 8)), none, (.bin .eql (.s (sl 7)) (.c (.int .i64 2))), none⟩])
  (.cond (.s (sl 8))
  (.seq (.reg [⟨(some (sl 9)), none, (.mv (.s (sl 1))), none⟩, ⟨(some (sl 10)), none, (.mv (.s (sl 2))), none⟩, ⟨(some (sl 11)), none, (.bin .add (.s (sl 9)) (.s (sl 10))), none⟩, ⟨(some (sl 6)), none, (.mv (.s (sl 11))), none⟩])
  .ret)
  .skip))
  (.seq (.seq (.reg [⟨(some (sl 12)), none, (.mv (.s (sl 0))), none⟩, ⟨(some (sl 13)), none, (.bin .eql (.s (sl 12)) (.c (.int .i64 3))), none⟩])
  (.cond (.s (sl 13))
  (.seq (.reg [⟨(some (sl 14)), none, (.mv (.s (sl 1))), none⟩, ⟨(some (sl 15)), none, (.mv (.s (sl 2))), none⟩, ⟨(some (sl 16)), none, (.bin .sub (.s (sl 14)) (.s (sl 15))), none⟩, ⟨(some (sl 6)), none, (.mv (.s (sl 16))), none⟩])
  .ret)
  .skip))
  (.seq (.seq (.reg [⟨(some (sl 17)), none, (.mv (.s (sl 0))), none⟩, ⟨(some (sl 18)), none, (.bin .eql (.s (sl 17)) (.c (.int .i64 4))), none⟩])
  (.cond (.s (sl 18))
  (.seq (.reg [⟨(some (sl 19)), none, (.mv (.s (sl 1))), none⟩, ⟨(some (sl 20)), none, (.mv (.s (sl 2))), none⟩, ⟨(some (sl 21)), none, (.bin .mul (.s (sl 19)) (.s (sl 20))), none⟩, ⟨(some (sl 6)), none, (.mv (.s (sl 21))), none⟩])
  .ret)
  .skip))
  (.seq (.seq (.reg [⟨(some (sl 22)), none, (.mv (.s (sl 0))), none⟩, ⟨(some (sl 23)), none, (.bin .eql (.s (sl 22)) (.c (.int .i64 5))), none⟩])
  (.cond (.s (sl 23))
  (.seq (.reg [⟨(some (sl 24)), none, (.mv (.s (sl 1))), none⟩, ⟨(some (sl 25)), none, (.mv (.s (sl 2))), none⟩, ⟨(some (sl 26)), none, (.bin .and (.s (sl 24)) (.s (sl 25))), none⟩, ⟨(some (sl 6)), none, (.mv (.s (sl 26))), none⟩])
  .ret)
  .skip))
  (.seq (.seq (.reg [⟨(some (sl 27)), none, (.mv (.s (sl 0))), none⟩, ⟨(some (sl 28)), none, (.bin .eql (.s (sl 27)) (.c (.int .i64 6))), none⟩])
  (.cond (.s (sl 28))
  (.seq (.reg [⟨(some (sl 29)), none, (.mv (.s (sl 1))), none⟩, ⟨(some (sl 30)), none, (.mv (.s (sl 2))), none⟩, ⟨(some (sl 31)), none, (.bin .or (.s (sl 29)) (.s (sl 30))), none⟩, ⟨(some (sl 6)), none, (.mv (.s (sl 31))), none⟩])
  .ret)
  .skip))
  (.seq (.seq (.reg [⟨(some (sl 32)), none, (.mv (.s (sl 0))), none⟩, ⟨(some (sl 33)), none, (.bin .eql (.s (sl 32)) (.c (.int .i64 7))), none⟩])
  (.cond (.s (sl 33))
  (.seq (.reg [⟨(some (sl 34)), none, (.mv (.s (sl 1))), none⟩, ⟨(some (sl 35)), none, (.mv (.s (sl 2))), none⟩, ⟨(some (sl 36)), none, (.bin .xor (.s (sl 34)) (.s (sl 35))), none⟩, ⟨(some (sl 6)), none, (.mv (.s (sl 36))), none⟩])
  .ret)
  .skip))
  (.seq (.seq (.reg [⟨(some (sl 37)), none, (.mv (.s (sl 0))), none⟩, ⟨(some (sl 38)), none, (.bin .eql (.s (sl 37)) (.c (.int .i64 8))), none⟩])
  (.cond (.s (sl 38))
  (.seq (.reg [⟨(some (sl 39)), none, (.mv (.s (sl 1))), none⟩, ⟨(some (sl 40)), none, (.mv (.s (sl 2))), none⟩, ⟨(some (sl 41)), none, (.bin .rem (.s (sl 40)) (.c (.int .u64 64))), none⟩, ⟨(some (sl 42)), none, (.call true (.f 36) [(.s (sl 41))]), none⟩, ⟨(some (sl 43)), none, (.bin .mul (.s (sl 39)) (.s (sl 42))), none⟩, ⟨(some (sl 6)), none, (.mv (.s (sl 43))), none⟩])
  .ret)
  .skip))
  (.seq (.seq (.reg [⟨(some (sl 44)), none, (.mv (.s (sl 0))), none⟩, ⟨(some (sl 45)), none, (.bin .eql (.s (sl 44)) (.c (.int .i64 9))), none⟩])
  (.cond (.s (sl 45))
  (.seq (.reg [⟨(some (sl 46)), none, (.mv (.s (sl 1))), none⟩, ⟨(some (sl 47)), none, (.mv (.s (sl 2))), none⟩, ⟨(some (sl 48)), none, (.bin .rem (.s (sl 47)) (.c (.int .u64 64))), none⟩, ⟨(some (sl 49)), none, (.call true (.f 36) [(.s (sl 48))]), none⟩, ⟨(some (sl 50)), none, (.bin .quo (.s (sl 46)) (.s (sl 49))), none⟩, ⟨(some (sl 6)), none, (.mv (.s (sl 50))), none⟩])
  .ret)
  .skip))
  (.seq (.seq (.reg [⟨(some (sl 51)), none, (.mv (.s (sl 0))), none⟩, ⟨(some (sl 52)), none, (.bin .eql (.s (sl 51)) (.c (.int .i64 10))), none⟩, ⟨(some (sl 53)), none, (.mv (.s (sl 52))), none⟩, ⟨(some (sl 54)), (some ((sl 53), true)), (.mv (.s (sl 1))), none⟩, ⟨(some (sl 55)), (some ((sl 53), true)), (.mv (.s (sl 2))), none⟩, ⟨(some (sl 56)), (some ((sl 53), true)), (.bin .lss (.s (sl 54)) (.s (sl 55))), none⟩, ⟨(some (sl 57)), none, (.pick (.s (sl 53)) (.s (sl 56)) (.c (.bool false))), none⟩, ⟨(some (sl 58)), none, (.mv (.s (sl 57))), none⟩, ⟨(some (sl 59)), (some ((sl 58), false)), (.mv (.s (sl 0))), none⟩, ⟨(some (sl 60)), (some ((sl 58), false)), (.bin .eql (.s (sl 59)) (.c (.int .i64 11))), none⟩, ⟨(some (sl 61)), (some ((sl 58), false)), (.mv (.s (sl 60))), none⟩, ⟨(some (sl 62)), (some ((sl 61), true)), (.mv (.s (sl 1))), none⟩, ⟨(some (sl 63)), (some ((sl 61), true)), (.mv (.s (sl 2))), none⟩, ⟨(some (sl 64)), (some ((sl 61), true)), (.bin .eql (.s (sl 62)) (.s (sl 63))), none⟩, ⟨(some (sl 65)), (some ((sl 58), false)), (.pick (.s (sl 61)) (.s (sl 64)) (.c (.bool false))), none⟩, ⟨(some (sl 66)), none, (.pick (.s (sl 58)) (.c (.bool true)) (.s (sl 65))), none⟩])
  (.cond (.s (sl 66))
  (.seq (.reg [⟨(some (sl 6)), none, (.mv (.c (.int .u64 1))), none⟩])
  .ret)
  .skip))
  (.seq (.reg [⟨(some (sl 6)), none, (.mv (.c (.int .u64 0))), none⟩])
  .ret)))))))))))
def r_marlineref07_Reckon : List ARes := [(.tmp (sl 6))]
theorem t_marlineref07_Reckon : (Try.f18).body.bind (trCode Try.prog 8 (Try.f18).ntmps [] [] (drOk 8)) = some c_marlineref07_Reckon := by kernel_rfl
theorem u_marlineref07_Reckon : trRess Try.prog 8 (Try.f18).results.toList = some r_marlineref07_Reckon := by kernel_rfl

/-- marline/marlineref07.pick -/
def c_marlineref07_pick : ACode :=
  (.seq (.reg [⟨(some (sl 4)), none, (.mv (.c (.slice none 0 0))), none⟩])
  (.seq (.reg [⟨(some (sl 5)), none, (.mv (.c (.slice none 0 0))), none⟩])
  (.seq (.seq (.reg [⟨(some (sl 6)), none, (.mv (.c (.int .i64 0))), none⟩])
  (.block 0
  (.loop (.seq (.seq (.reg [⟨(some (sl 7)), none, (.mv (.s (sl 6))), none⟩, ⟨(some (sl 8)), none, (.mv (.s (sl 1))), none⟩, ⟨(some (sl 9)), none, (.len false (.s (sl 8))), none⟩, ⟨(some (sl 10)), none, (.bin .lss (.s (sl 7)) (.s (sl 9))), none⟩])
  (.cond (.s (sl 10))
  .skip
  (.exit 0)))
  (.seq (.block 1
  (.reg [⟨(some (sl 13)), none, (.mv (.s (sl 5))), none⟩, ⟨(some (sl 14)), none, (.mv (.s (sl 0))), none⟩, ⟨(some (sl 15)), none, (.mv (.s (sl 1))), none⟩, ⟨(some (sl 16)), none, (.mv (.s (sl 6))), none⟩, ⟨(some (sl 17)), none, (.idx true (.s (sl 15)) (.s (sl 16)) 1), none⟩, ⟨(some (sl 18)), none, (.ld true (.s (sl 17)) none), none⟩, ⟨(some (sl 19)), none, (.idx true (.s (sl 14)) (.s (sl 18)) 1), none⟩, ⟨(some (sl 20)), none, (.ld true (.s (sl 19)) none), none⟩, ⟨(some (sl 21)), none, (.mksl 1 1 [(.int .u64 0)] [(0, 1, (.s (sl 20)))]), none⟩, ⟨(some (sl 22)), none, (.app 29 1 8 (.s (sl 13)) (.s (sl 21))), none⟩, ⟨(some (sl 5)), none, (.mv (.s (sl 22))), none⟩]))
  (.reg [⟨(some (sl 11)), none, (.mv (.s (sl 6))), none⟩, ⟨(some (sl 12)), none, (.bin .add (.s (sl 11)) (.c (.int .i64 1))), none⟩, ⟨(some (sl 6)), none, (.mv (.s (sl 12))), none⟩]))))))
  (.seq (.reg [⟨(some (sl 23)), none, (.mv (.s (sl 5))), none⟩, ⟨(some (sl 4)), none, (.mv (.s (sl 23))), none⟩])
  .ret))))
def r_marlineref07_pick : List ARes := [(.tmp (sl 4))]
theorem t_marlineref07_pick : (Try.f38).body.bind (trCode Try.prog 8 (Try.f38).ntmps [4, 5, 13, 22, 23] [] (drOk 8)) = some c_marlineref07_pick := by kernel_rfl
theorem u_marlineref07_pick : trRess Try.prog 8 (Try.f38).results.toList = some r_marlineref07_pick := by kernel_rfl

/-- marline/marlineref07.step -/
def c_marlineref07_step : ACode :=
  (.seq (.reg [⟨(some (sl 2)), none, (.box false (.s (sl 0))), none⟩, ⟨(some (sl 4)), none, (.new [(.bool false), (.int .u64 0), (.string ⟨#[]⟩), (.int .i64 0), (.int .i64 0), (.int .i64 0), (.slice none 0 0), (.int .i64 0)]), none⟩])
  (.seq (.seq (.reg [⟨(some (sl 5)), none, (.fld (.s (sl 2)) 0), none⟩, ⟨(some (sl 6)), none, (.fld (.s (sl 5)) 4), none⟩, ⟨(some (sl 7)), none, (.ld false (.s (sl 6)) none), none⟩, ⟨(some (sl 8)), none, (.mv (.s (sl 1))), none⟩, ⟨(some (sl 9)), none, (.bin .eql (.s (sl 7)) (.s (sl 8))), none⟩])
  (.cond (.s (sl 9))
  (.seq (.reg [⟨(some (sl 10)), none, (.fld (.s (sl 2)) 7), none⟩, ⟨none, none, (.st (.s (sl 10)) (.c (.int .i64 12)) 1), none⟩])
  (.seq (.reg [⟨(some (sl 11)), none, (.ld false (.s (sl 2)) (some 8)), none⟩, ⟨none, none, (.st (.s (sl 4)) (.s (sl 11)) 8), none⟩])
  .ret))
  .skip))
  (.seq (.reg [⟨(some (sl 12)), none, (.fld (.s (sl 2)) 0), none⟩, ⟨(some (sl 13)), none, (.fld (.s (sl 12)) 4), none⟩, ⟨(some (sl 14)), none, (.ld false (.s (sl 13)) none), none⟩, ⟨(some (sl 15)), none, (.bin .add (.s (sl 14)) (.c (.int .i64 1))), none⟩, ⟨(some (sl 16)), none, (.fld (.s (sl 2)) 0), none⟩, ⟨(some (sl 17)), none, (.fld (.s (sl 16)) 4), none⟩, ⟨none, none, (.st (.s (sl 17)) (.s (sl 15)) 1), none⟩])
  (.seq (.reg [⟨(some (sl 18)), none, (.ld false (.s (sl 2)) (some 8)), none⟩, ⟨none, none, (.st (.s (sl 4)) (.s (sl 18)) 8), none⟩])
  .ret))))
def r_marlineref07_step : List ARes := [(.cell (sl 4) (some 8))]
theorem t_marlineref07_step : (Try.f37).body.bind (trCode Try.prog 8 (Try.f37).ntmps [2, 4, 5, 6, 7, 10, 11, 12, 13, 14, 16, 17, 18] [] (drOk 8)) = some c_marlineref07_step := by kernel_rfl
theorem u_marlineref07_step : trRess Try.prog 8 (Try.f37).results.toList = some r_marlineref07_step := by kernel_rfl

/-- marline/marlineref07.Run -/
def c_marlineref07_Run : ACode :=
  (.seq (.reg [⟨(some (sl 4)), none, (.box true (.s (sl 0))), none⟩, ⟨(some (sl 8)), none, (.new [(.bool false), (.int .u64 0), (.string ⟨#[]⟩), (.int .i64 0), (.int .i64 0), (.int .i64 0)]), none⟩, ⟨(some (sl 9)), none, (.mv (.c (.int .i64 0))), none⟩])
  (.seq (.seq (.reg [⟨(some (sl 14)), none, (.mv (.s (sl 2))), none⟩, ⟨(some (sl 15)), none, (.bin .lss (.s (sl 14)) (.c (.int .i64 0))), none⟩, ⟨(some (sl 16)), none, (.mv (.s (sl 15))), none⟩, ⟨(some (sl 17)), (some ((sl 16), false)), (.mv (.s (sl 2))), none⟩, ⟨(some (sl 18)), (some ((sl 16), false)), (.bin .gtr (.s (sl 17)) (.c (.int .i64 100000))), none⟩, ⟨(some (sl 19)), none, (.pick (.s (sl 16)) (.c (.bool true)) (.s (sl 18))), none⟩, ⟨(some (sl 20)), none, (.mv (.s (sl 19))), none⟩, ⟨(some (sl 21)), (some ((sl 20), false)), (.mv (.s (sl 3))), none⟩, ⟨(some (sl 22)), (some ((sl 20), false)), (.bin .lss (.s (sl 21)) (.c (.int .i64 1))), none⟩, ⟨(some (sl 23)), none, (.pick (.s (sl 20)) (.c (.bool true)) (.s (sl 22))), none⟩, ⟨(some (sl 24)), none, (.mv (.s (sl 23))), none⟩, ⟨(some (sl 25)), (some ((sl 24), false)), (.mv (.s (sl 3))), none⟩, ⟨(some (sl 26)), (some ((sl 24), false)), (.bin .gtr (.s (sl 25)) (.c (.int .i64 64))), none⟩, ⟨(some (sl 27)), none, (.pick (.s (sl 24)) (.c (.bool true)) (.s (sl 26))), none⟩])
  (.cond (.s (sl 27))
  (.seq (.reg [⟨(some (sl 28)), none, (.bld [(.bool false), (.int .u64 0), (.string ⟨#[]⟩), (.int .i64 0), (.int .i64 0), (.int .i64 0)] []), none⟩, ⟨none, none, (.st (.s (sl 8)) (.s (sl 28)) 6), none⟩, ⟨(some (sl 9)), none, (.mv (.c (.int .i64 1))), none⟩])
  .ret)
  .skip))
  (.seq (.reg [⟨(some (sl 29)), none, (.ld true (.s (sl 4)) (some 2)), none⟩, ⟨(some (sl 30)), none, (.call true (.f 16) [(.s (sl 29))]), none⟩, ⟨(some (sl 10)), none, (.mv (.s (sl 30))), none⟩])
  (.seq (.seq (.reg [⟨(some (sl 31)), none, (.mv (.s (sl 10))), none⟩, ⟨(some (sl 32)), none, (.bin .neq (.s (sl 31)) (.c (.int .i64 0))), none⟩])
  (.cond (.s (sl 32))
  (.seq (.reg [⟨(some (sl 33)), none, (.bld [(.bool false), (.int .u64 0), (.string ⟨#[]⟩), (.int .i64 0), (.int .i64 0), (.int .i64 0)] []), none⟩, ⟨(some (sl 34)), none, (.mv (.s (sl 10))), none⟩, ⟨none, none, (.st (.s (sl 8)) (.s (sl 33)) 6), none⟩, ⟨(some (sl 9)), none, (.mv (.s (sl 34))), none⟩])
  .ret)
  .skip))
  (.seq (.reg [⟨(some (sl 35)), none, (.bld [(.bool false), (.int .u64 0), (.string ⟨#[]⟩), (.int .i64 0), (.int .i64 0), (.int .i64 0), (.slice none 0 0), (.int .i64 0)] []), none⟩, ⟨(some (sl 11)), none, (.new [(.bool false), (.int .u64 0), (.string ⟨#[]⟩), (.int .i64 0), (.int .i64 0), (.int .i64 0), (.slice none 0 0), (.int .i64 0)]), none⟩, ⟨none, none, (.ini 1 (.s (sl 11)) (.s (sl 35)) 8), none⟩])
  (.seq (.seq (.reg [⟨(some (sl 12)), none, (.mv (.c (.int .i64 0))), none⟩])
  (.block 0
  (.loop (.seq (.seq (.reg [⟨(some (sl 36)), none, (.mv (.s (sl 12))), none⟩, ⟨(some (sl 37)), none, (.fld (.s (sl 4)) 1), none⟩, ⟨(some (sl 38)), none, (.ld true (.s (sl 37)) none), none⟩, ⟨(some (sl 39)), none, (.len false (.s (sl 38))), none⟩, ⟨(some (sl 40)), none, (.bin .lss (.s (sl 36)) (.s (sl 39))), none⟩])
  (.cond (.s (sl 40))
  .skip
  (.exit 0)))
  (.seq (.block 1
  (.reg [⟨(some (sl 43)), none, (.fld (.s (sl 11)) 6), (some (0, []))⟩, ⟨(some (sl 44)), none, (.ld false (.s (sl 43)) none), (some (1, []))⟩, ⟨(some (sl 45)), none, (.fld (.s (sl 4)) 1), (some (2, []))⟩, ⟨(some (sl 46)), none, (.ld true (.s (sl 45)) none), (some (3, []))⟩, ⟨(some (sl 47)), none, (.mv (.s (sl 12))), (some (4, []))⟩, ⟨(some (sl 48)), none, (.idx true (.s (sl 46)) (.s (sl 47)) 4), (some (5, []))⟩, ⟨(some (sl 49)), none, (.fld (.s (sl 48)) 3), (some (6, []))⟩, ⟨(some (sl 50)), none, (.ld true (.s (sl 49)) none), (some (7, []))⟩, ⟨(some (sl 51)), none, (.mksl 1 1 [(.int .u64 0)] [(0, 1, (.s (sl 50)))]), (some (8, []))⟩, ⟨(some (sl 52)), none, (.app 29 1 8 (.s (sl 44)) (.s (sl 51))), (some (9, []))⟩, ⟨(some (sl 53)), none, (.fld (.s (sl 11)) 6), (some (10, []))⟩, ⟨none, none, (.st (.s (sl 53)) (.s (sl 52)) 1), (some (11, []))⟩]))
  (.reg [⟨(some (sl 41)), none, (.mv (.s (sl 12))), none⟩, ⟨(some (sl 42)), none, (.bin .add (.s (sl 41)) (.c (.int .i64 1))), none⟩, ⟨(some (sl 12)), none, (.mv (.s (sl 42))), none⟩]))))))
  (.seq (.reg [⟨(some (sl 55)), none, (.ld true (.s (sl 4)) (some 2)), none⟩, ⟨(some (sl 56)), none, (.ld false (.s (sl 11)) (some 8)), none⟩, ⟨(some (sl 57)), none, (.mv (.s (sl 1))), none⟩, ⟨(some (sl 58)), none, (.mv (.s (sl 2))), none⟩, ⟨(some (sl 59)), none, (.mv (.s (sl 3))), none⟩, ⟨(some (sl 60)), none, (.call false (.f 25) [(.s (sl 55)), (.s (sl 56)), (.s (sl 57)), (.c (.string ⟨#[109, 97, 105, 110]⟩)), (.c (.slice none 0 0)), (.c (.int .i64 1)), (.s (sl 58)), (.s (sl 59))]), none⟩, ⟨(some (sl 54)), none, (.mv (.s (sl 60))), none⟩, ⟨(some (sl 61)), none, (.ext (.s (sl 54)) 0), none⟩, ⟨(some (sl 62)), none, (.ext (.s (sl 54)) 1), none⟩, ⟨none, none, (.st (.s (sl 11)) (.s (sl 61)) 8), none⟩, ⟨(some (sl 13)), none, (.mv (.s (sl 62))), none⟩])
  (.seq (.seq (.reg [⟨(some (sl 63)), none, (.fld (.s (sl 11)) 7), none⟩, ⟨(some (sl 64)), none, (.ld false (.s (sl 63)) none), none⟩, ⟨(some (sl 65)), none, (.bin .neq (.s (sl 64)) (.c (.int .i64 0))), none⟩])
  (.cond (.s (sl 65))
  (.seq (.reg [⟨(some (sl 66)), none, (.fld (.s (sl 11)) 0), (some (0, [(sl 8)]))⟩, ⟨(some (sl 67)), none, (.ld false (.s (sl 66)) (some 6)), (some (1, [(sl 8)]))⟩, ⟨(some (sl 68)), none, (.fld (.s (sl 11)) 7), (some (2, [(sl 8)]))⟩, ⟨(some (sl 69)), none, (.ld false (.s (sl 68)) none), (some (3, [(sl 8)]))⟩, ⟨none, none, (.st (.s (sl 8)) (.s (sl 67)) 6), (some (4, [(sl 8)]))⟩, ⟨(some (sl 9)), none, (.mv (.s (sl 69))), (some (5, [(sl 8)]))⟩])
  .ret)
  .skip))
  (.seq (.reg [⟨(some (sl 70)), none, (.fld (.s (sl 11)) 0), none⟩, ⟨(some (sl 71)), none, (.fld (.s (sl 70)) 0), none⟩, ⟨none, none, (.st (.s (sl 71)) (.c (.bool true)) 1), none⟩])
  (.seq (.reg [⟨(some (sl 72)), none, (.mv (.s (sl 13))), none⟩, ⟨(some (sl 73)), none, (.fld (.s (sl 11)) 0), none⟩, ⟨(some (sl 74)), none, (.fld (.s (sl 73)) 1), none⟩, ⟨none, none, (.st (.s (sl 74)) (.s (sl 72)) 1), none⟩])
  (.seq (.reg [⟨(some (sl 75)), none, (.fld (.s (sl 11)) 0), none⟩, ⟨(some (sl 76)), none, (.ld false (.s (sl 75)) (some 6)), none⟩, ⟨none, none, (.st (.s (sl 8)) (.s (sl 76)) 6), none⟩, ⟨(some (sl 9)), none, (.mv (.c (.int .i64 0))), none⟩])
  .ret)))))))))))
def r_marlineref07_Run : List ARes := [(.cell (sl 8) (some 6)), (.tmp (sl 9))]
theorem t_marlineref07_Run : (Try.f14).body.bind (trCode Try.prog 8 (Try.f14).ntmps [8, 9, 11, 43, 44, 52, 53, 56, 63, 64, 66, 67, 68, 69, 70, 71, 73, 74, 75, 76] [] (drOk 8)) = some c_marlineref07_Run := by kernel_rfl
theorem u_marlineref07_Run : trRess Try.prog 8 (Try.f14).results.toList = some r_marlineref07_Run := by kernel_rfl

end Go.Proofs.Ytpfokkfomgmibaa
