/- The bodies of some functions, as the evaluator has them (printed by program), and that they are the program's own. -/
import Derived.Test.YtkpjokhiobclbaaKE
namespace Go.Proofs.Ytkpjokhiobclbaa
open Go.RowKit

/-- marline/pick.open -/
def c_pick_open : ACode :=
  (.seq (.reg [⟨(some (sl 2)), none, (.mv (.c (.map none))), none⟩])
  (.seq (.reg [⟨(some (sl 12)), none, (.mmk .string), none⟩, ⟨(some (sl 3)), none, (.mv (.s (sl 12))), none⟩])
  (.seq (.seq (.reg [⟨(some (sl 13)), none, (.mv (.s (sl 0))), none⟩, ⟨(some (sl 14)), none, (.len false (.s (sl 13))), none⟩, ⟨(some (sl 15)), none, (.mv (.c (.int .i64 0))), none⟩])
  (.block 0
  (.loop (.seq (.reg [⟨(some (sl 16)), none, (.bin .lss (.s (sl 15)) (.s (sl 14))), none⟩])
  (.seq (.cond (.s (sl 16))
  .skip
  (.exit 0))
  (.seq (.block 1
  (.seq (.seq (.reg [⟨(some (sl 17)), none, (.idx true (.s (sl 13)) (.s (sl 15)) 2), none⟩, ⟨(some (sl 18)), none, (.ld true (.s (sl 17)) (some 2)), none⟩, ⟨(some (sl 5)), none, (.new [(.slice none 0 0), (.slice none 0 0)]), none⟩, ⟨none, none, (.ini 1 (.s (sl 5)) (.s (sl 18)) 2), none⟩])
  (.frz (sl 5)))
  (.seq (.reg [⟨(some (sl 19)), none, (.ld true (.s (sl 5)) (some 2)), none⟩, ⟨(some (sl 20)), none, (.call true (.f 17) [(.s (sl 19))]), none⟩, ⟨(some (sl 21)), none, (.len false (.s (sl 20))), none⟩, ⟨(some (sl 22)), none, (.mv (.c (.int .i64 0))), none⟩])
  (.block 2
  (.loop (.seq (.reg [⟨(some (sl 23)), none, (.bin .lss (.s (sl 22)) (.s (sl 21))), none⟩])
  (.seq (.cond (.s (sl 23))
  .skip
  (.exit 2))
  (.seq (.block 3
  (.seq (.reg [⟨(some (sl 24)), none, (.idx true (.s (sl 20)) (.s (sl 22)) 1), none⟩, ⟨(some (sl 25)), none, (.ld true (.s (sl 24)) none), none⟩, ⟨(some (sl 7)), none, (.mv (.s (sl 25))), none⟩])
  (.reg [⟨(some (sl 26)), none, (.mv (.s (sl 3))), none⟩, ⟨(some (sl 27)), none, (.mv (.s (sl 7))), none⟩, ⟨none, none, (.mset false (.s (sl 26)) (.s (sl 27)) (.c (.bool true)) .string), none⟩])))
  (.reg [⟨(some (sl 28)), none, (.bin .add (.s (sl 22)) (.c (.int .i64 1))), none⟩, ⟨(some (sl 22)), none, (.mv (.s (sl 28))), none⟩])))))))))
  (.reg [⟨(some (sl 29)), none, (.bin .add (.s (sl 15)) (.c (.int .i64 1))), none⟩, ⟨(some (sl 15)), none, (.mv (.s (sl 29))), none⟩])))))))
  (.seq (.seq (.reg [⟨(some (sl 30)), none, (.mv (.s (sl 0))), none⟩, ⟨(some (sl 31)), none, (.len false (.s (sl 30))), none⟩, ⟨(some (sl 32)), none, (.mv (.c (.int .i64 0))), none⟩])
  (.block 4
  (.loop (.seq (.reg [⟨(some (sl 33)), none, (.bin .lss (.s (sl 32)) (.s (sl 31))), none⟩])
  (.seq (.cond (.s (sl 33))
  .skip
  (.exit 4))
  (.seq (.block 5
  (.seq (.seq (.reg [⟨(some (sl 34)), none, (.idx true (.s (sl 30)) (.s (sl 32)) 2), none⟩, ⟨(some (sl 35)), none, (.ld true (.s (sl 34)) (some 2)), none⟩, ⟨(some (sl 9)), none, (.new [(.slice none 0 0), (.slice none 0 0)]), none⟩, ⟨none, none, (.ini 1 (.s (sl 9)) (.s (sl 35)) 2), none⟩])
  (.frz (sl 9)))
  (.seq (.reg [⟨(some (sl 36)), none, (.ld true (.s (sl 9)) (some 2)), none⟩, ⟨(some (sl 37)), none, (.call true (.f 15) [(.s (sl 36))]), none⟩, ⟨(some (sl 38)), none, (.len false (.s (sl 37))), none⟩, ⟨(some (sl 39)), none, (.mv (.c (.int .i64 0))), none⟩])
  (.block 6
  (.loop (.seq (.reg [⟨(some (sl 40)), none, (.bin .lss (.s (sl 39)) (.s (sl 38))), none⟩])
  (.seq (.cond (.s (sl 40))
  .skip
  (.exit 6))
  (.seq (.block 7
  (.seq (.reg [⟨(some (sl 41)), none, (.idx true (.s (sl 37)) (.s (sl 39)) 1), none⟩, ⟨(some (sl 42)), none, (.ld true (.s (sl 41)) none), none⟩, ⟨(some (sl 11)), none, (.mv (.s (sl 42))), none⟩])
  (.reg [⟨(some (sl 43)), none, (.mv (.s (sl 3))), none⟩, ⟨(some (sl 44)), none, (.mv (.s (sl 11))), none⟩, ⟨none, none, (.mset true (.s (sl 43)) (.s (sl 44)) (.c (.bool false)) .string), none⟩])))
  (.reg [⟨(some (sl 45)), none, (.bin .add (.s (sl 39)) (.c (.int .i64 1))), none⟩, ⟨(some (sl 39)), none, (.mv (.s (sl 45))), none⟩])))))))))
  (.reg [⟨(some (sl 46)), none, (.bin .add (.s (sl 32)) (.c (.int .i64 1))), none⟩, ⟨(some (sl 32)), none, (.mv (.s (sl 46))), none⟩])))))))
  (.seq (.reg [⟨(some (sl 47)), none, (.mv (.s (sl 3))), none⟩, ⟨(some (sl 2)), none, (.mv (.s (sl 47))), none⟩])
  .ret)))))
def r_pick_open : List ARes := [(.tmp (sl 2))]
theorem t_pick_open : (Try.f26).body.bind (trCode Try.prog 8 (Try.f26).ntmps [] [] (drOk 8)) = some c_pick_open := by kernel_rfl
theorem u_pick_open : trRess Try.prog 8 (Try.f26).results.toList = some r_pick_open := by kernel_rfl

/-- marline/marlineref08.Take -/
def c_marlineref08_Take : ACode :=
  (.seq (.reg [⟨(some (sl 2)), none, (.mv (.c (.slice none 0 0))), none⟩, ⟨(some (sl 3)), none, (.mv (.c (.int .i64 0))), none⟩])
  (.seq (.reg [⟨(some (sl 12)), none, (.mv (.s (sl 0))), none⟩, ⟨(some (sl 13)), none, (.call true (.f 20) [(.s (sl 12))]), none⟩, ⟨(some (sl 4)), none, (.mv (.s (sl 13))), none⟩])
  (.seq (.seq (.reg [⟨(some (sl 14)), none, (.mv (.s (sl 4))), none⟩, ⟨(some (sl 15)), none, (.bin .neq (.s (sl 14)) (.c (.int .i64 0))), none⟩])
  (.cond (.s (sl 15))
  (.seq (.reg [⟨(some (sl 16)), none, (.mv (.s (sl 4))), none⟩, ⟨(some (sl 2)), none, (.mv (.c (.slice none 0 0))), none⟩, ⟨(some (sl 3)), none, (.mv (.s (sl 16))), none⟩])
  .ret)
  .skip))
  (.seq (.reg [⟨(some (sl 5)), none, (.mv (.c (.slice none 0 0))), none⟩])
  (.seq (.seq (.reg [⟨(some (sl 6)), none, (.mv (.c (.int .i64 0))), none⟩])
  (.block 0
  (.loop (.seq (.seq (.reg [⟨(some (sl 17)), none, (.mv (.s (sl 6))), none⟩, ⟨(some (sl 18)), none, (.mv (.s (sl 0))), none⟩, ⟨(some (sl 19)), none, (.len false (.s (sl 18))), none⟩, ⟨(some (sl 20)), none, (.bin .lss (.s (sl 17)) (.s (sl 19))), none⟩])
  (.cond (.s (sl 20))
  .skip
  (.exit 0)))
  (.seq (.block 1
  (.seq (.reg [⟨(some (sl 23)), none, (.mv (.s (sl 0))), none⟩, ⟨(some (sl 24)), none, (.mv (.s (sl 6))), none⟩, ⟨(some (sl 25)), none, (.idx true (.s (sl 23)) (.s (sl 24)) 2), none⟩, ⟨(some (sl 26)), none, (.fld (.s (sl 25)) 0), none⟩, ⟨(some (sl 27)), none, (.ld true (.s (sl 26)) none), none⟩, ⟨(some (sl 28)), none, (.not (.s (sl 27))), none⟩])
  (.cond (.s (sl 28))
  (.reg [⟨(some (sl 29)), none, (.mv (.s (sl 5))), none⟩, ⟨(some (sl 30)), none, (.mv (.s (sl 0))), none⟩, ⟨(some (sl 31)), none, (.mv (.s (sl 6))), none⟩, ⟨(some (sl 32)), none, (.idx true (.s (sl 30)) (.s (sl 31)) 2), none⟩, ⟨(some (sl 33)), none, (.fld (.s (sl 32)) 1), none⟩, ⟨(some (sl 34)), none, (.ld true (.s (sl 33)) none), none⟩, ⟨(some (sl 35)), none, (.idx true (.s (sl 34)) (.c (.int .i64 0)) 2), none⟩, ⟨(some (sl 36)), none, (.ld true (.s (sl 35)) (some 2)), none⟩, ⟨(some (sl 37)), none, (.mksl 2 1 [(.slice none 0 0), (.slice none 0 0)] [(0, 2, (.s (sl 36)))]), none⟩, ⟨(some (sl 38)), none, (.app 25 2 48 (.s (sl 29)) (.s (sl 37))), none⟩, ⟨(some (sl 5)), none, (.mv (.s (sl 38))), none⟩])
  .skip)))
  (.reg [⟨(some (sl 21)), none, (.mv (.s (sl 6))), none⟩, ⟨(some (sl 22)), none, (.bin .add (.s (sl 21)) (.c (.int .i64 1))), none⟩, ⟨(some (sl 6)), none, (.mv (.s (sl 22))), none⟩]))))))
  (.seq (.reg [⟨(some (sl 7)), none, (.new [(.bool false), (.bool false), (.bool false), (.bool false), (.bool false), (.bool false), (.bool false), (.bool false), (.bool false), (.bool false), (.bool false), (.bool false), (.bool false), (.bool false), (.bool false), (.bool false), (.bool false), (.bool false), (.bool false), (.bool false), (.bool false), (.bool false), (.bool false), (.bool false), (.bool false), (.bool false), (.bool false), (.bool false), (.bool false), (.bool false), (.bool false), (.bool false), (.bool false), (.bool false), (.bool false), (.bool false), (.bool false), (.bool false), (.bool false), (.bool false), (.bool false), (.bool false), (.bool false), (.bool false), (.bool false), (.bool false), (.bool false), (.bool false), (.bool false), (.bool false), (.bool false), (.bool false), (.bool false), (.bool false), (.bool false), (.bool false), (.bool false), (.bool false), (.bool false), (.bool false), (.bool false), (.bool false), (.bool false), (.bool false), (.bool false), (.bool false), (.bool false), (.bool false), (.bool false), (.bool false), (.bool false), (.bool false), (.bool false), (.bool false), (.bool false), (.bool false), (.bool false), (.bool false), (.bool false), (.bool false), (.bool false), (.bool false), (.bool false), (.bool false), (.bool false), (.bool false), (.bool false), (.bool false), (.bool false), (.bool false), (.bool false), (.bool false), (.bool false), (.bool false), (.bool false), (.bool false), (.bool false), (.bool false), (.bool false), (.bool false), (.bool false), (.bool false), (.bool false), (.bool false), (.bool false), (.bool false), (.bool false), (.bool false), (.bool false), (.bool false), (.bool false), (.bool false), (.bool false), (.bool false), (.bool false), (.bool false), (.bool false), (.bool false), (.bool false), (.bool false), (.bool false), (.bool false), (.bool false), (.bool false), (.bool false), (.bool false), (.bool false), (.bool false)]), none⟩])
  (.seq (.reg [⟨(some (sl 8)), none, (.mv (.c (.bool true))), none⟩])
  (.seq (.block 2
  (.loop (.seq (.seq (.reg [⟨(some (sl 39)), none, (.mv (.s (sl 8))), none⟩])
  (.cond (.s (sl 39))
  .skip
  (.exit 2)))
  (.block 3
  (.seq (.reg [⟨(some (sl 8)), none, (.mv (.c (.bool false))), none⟩])
  (.seq (.reg [⟨(some (sl 9)), none, (.mv (.c (.int .i64 0))), none⟩])
  (.block 4
  (.loop (.seq (.seq (.reg [⟨(some (sl 40)), none, (.mv (.s (sl 9))), none⟩, ⟨(some (sl 41)), none, (.mv (.s (sl 0))), none⟩, ⟨(some (sl 42)), none, (.len false (.s (sl 41))), none⟩, ⟨(some (sl 43)), none, (.bin .lss (.s (sl 40)) (.s (sl 42))), none⟩, ⟨(some (sl 44)), none, (.mv (.s (sl 43))), none⟩, ⟨(some (sl 45)), (some ((sl 44), true)), (.mv (.s (sl 8))), none⟩, ⟨(some (sl 46)), (some ((sl 44), true)), (.not (.s (sl 45))), none⟩, ⟨(some (sl 47)), none, (.pick (.s (sl 44)) (.s (sl 46)) (.c (.bool false))), none⟩])
  (.cond (.s (sl 47))
  .skip
  (.exit 4)))
  (.seq (.block 5
  (.seq (.reg [⟨(some (sl 10)), none, (.mv (.c (.int .i64 0))), none⟩])
  (.block 6
  (.loop (.seq (.seq (.reg [⟨(some (sl 50)), none, (.mv (.s (sl 10))), none⟩, ⟨(some (sl 51)), none, (.mv (.s (sl 0))), none⟩, ⟨(some (sl 52)), none, (.mv (.s (sl 9))), none⟩, ⟨(some (sl 53)), none, (.idx true (.s (sl 51)) (.s (sl 52)) 2), none⟩, ⟨(some (sl 54)), none, (.fld (.s (sl 53)) 1), none⟩, ⟨(some (sl 55)), none, (.ld true (.s (sl 54)) none), none⟩, ⟨(some (sl 56)), none, (.len false (.s (sl 55))), none⟩, ⟨(some (sl 57)), none, (.bin .lss (.s (sl 50)) (.s (sl 56))), none⟩, ⟨(some (sl 58)), none, (.mv (.s (sl 57))), none⟩, ⟨(some (sl 59)), (some ((sl 58), true)), (.mv (.s (sl 8))), none⟩, ⟨(some (sl 60)), (some ((sl 58), true)), (.not (.s (sl 59))), none⟩, ⟨(some (sl 61)), none, (.pick (.s (sl 58)) (.s (sl 60)) (.c (.bool false))), none⟩, ⟨(some (sl 62)), none, (.mv (.s (sl 61))), none⟩, ⟨(some (sl 63)), (some ((sl 62), true)), (.mv (.s (sl 0))), none⟩, ⟨(some (sl 64)), (some ((sl 62), true)), (.mv (.s (sl 9))), none⟩, ⟨(some (sl 65)), (some ((sl 62), true)), (.idx true (.s (sl 63)) (.s (sl 64)) 2), none⟩, ⟨(some (sl 66)), (some ((sl 62), true)), (.fld (.s (sl 65)) 0), none⟩, ⟨(some (sl 67)), (some ((sl 62), true)), (.ld true (.s (sl 66)) none), none⟩, ⟨(some (sl 68)), none, (.pick (.s (sl 62)) (.s (sl 67)) (.c (.bool false))), none⟩])
  (.cond (.s (sl 68))
  .skip
  (.exit 6)))
  (.seq (.block 7
  (.seq (.reg [⟨(some (sl 71)), none, (.mv (.s (sl 5))), none⟩, ⟨(some (sl 72)), none, (.mv (.s (sl 0))), none⟩, ⟨(some (sl 73)), none, (.mv (.s (sl 9))), none⟩, ⟨(some (sl 74)), none, (.idx true (.s (sl 72)) (.s (sl 73)) 2), none⟩, ⟨(some (sl 75)), none, (.fld (.s (sl 74)) 1), none⟩, ⟨(some (sl 76)), none, (.ld true (.s (sl 75)) none), none⟩, ⟨(some (sl 77)), none, (.mv (.s (sl 10))), none⟩, ⟨(some (sl 78)), none, (.idx true (.s (sl 76)) (.s (sl 77)) 2), none⟩, ⟨(some (sl 79)), none, (.ld true (.s (sl 78)) (some 2)), none⟩, ⟨(some (sl 80)), none, (.call false (.f 22) [(.s (sl 71)), (.s (sl 79))]), none⟩, ⟨(some (sl 11)), none, (.mv (.s (sl 80))), none⟩])
  (.seq (.reg [⟨(some (sl 81)), none, (.mv (.s (sl 9))), none⟩, ⟨(some (sl 82)), none, (.mv (.s (sl 10))), none⟩, ⟨(some (sl 83)), none, (.aidx (.s (sl 7)) (.s (sl 81)) 16 8), none⟩, ⟨(some (sl 84)), none, (.aidx (.s (sl 83)) (.s (sl 82)) 1 16), none⟩, ⟨(some (sl 85)), none, (.ld false (.s (sl 84)) none), none⟩, ⟨(some (sl 86)), none, (.not (.s (sl 85))), none⟩, ⟨(some (sl 87)), none, (.mv (.s (sl 86))), none⟩, ⟨(some (sl 88)), (some ((sl 87), true)), (.mv (.s (sl 11))), none⟩, ⟨(some (sl 89)), none, (.pick (.s (sl 87)) (.s (sl 88)) (.c (.bool false))), none⟩])
  (.cond (.s (sl 89))
  (.seq (.reg [⟨(some (sl 90)), none, (.mv (.s (sl 9))), none⟩, ⟨(some (sl 91)), none, (.mv (.s (sl 10))), none⟩, ⟨(some (sl 92)), none, (.aidx (.s (sl 7)) (.s (sl 90)) 16 8), none⟩, ⟨(some (sl 93)), none, (.aidx (.s (sl 92)) (.s (sl 91)) 1 16), none⟩, ⟨none, none, (.st (.s (sl 93)) (.c (.bool true)) 1), none⟩])
  (.seq (.reg [⟨(some (sl 94)), none, (.mv (.s (sl 5))), none⟩, ⟨(some (sl 95)), none, (.mv (.s (sl 0))), none⟩, ⟨(some (sl 96)), none, (.mv (.s (sl 9))), none⟩, ⟨(some (sl 97)), none, (.idx true (.s (sl 95)) (.s (sl 96)) 2), none⟩, ⟨(some (sl 98)), none, (.fld (.s (sl 97)) 1), none⟩, ⟨(some (sl 99)), none, (.ld true (.s (sl 98)) none), none⟩, ⟨(some (sl 100)), none, (.mv (.s (sl 10))), none⟩, ⟨(some (sl 101)), none, (.idx true (.s (sl 99)) (.s (sl 100)) 2), none⟩, ⟨(some (sl 102)), none, (.ld true (.s (sl 101)) (some 2)), none⟩, ⟨(some (sl 103)), none, (.mksl 2 1 [(.slice none 0 0), (.slice none 0 0)] [(0, 2, (.s (sl 102)))]), none⟩, ⟨(some (sl 104)), none, (.app 25 2 48 (.s (sl 94)) (.s (sl 103))), none⟩, ⟨(some (sl 5)), none, (.mv (.s (sl 104))), none⟩])
  (.reg [⟨(some (sl 8)), none, (.mv (.c (.bool true))), none⟩])))
  .skip))))
  (.reg [⟨(some (sl 69)), none, (.mv (.s (sl 10))), none⟩, ⟨(some (sl 70)), none, (.bin .add (.s (sl 69)) (.c (.int .i64 1))), none⟩, ⟨(some (sl 10)), none, (.mv (.s (sl 70))), none⟩])))))))
  (.reg [⟨(some (sl 48)), none, (.mv (.s (sl 9))), none⟩, ⟨(some (sl 49)), none, (.bin .add (.s (sl 48)) (.c (.int .i64 1))), none⟩, ⟨(some (sl 9)), none, (.mv (.s (sl 49))), none⟩])))))))))))
  (.seq (.reg [⟨(some (sl 105)), none, (.mv (.s (sl 5))), none⟩, ⟨(some (sl 2)), none, (.mv (.s (sl 105))), none⟩, ⟨(some (sl 3)), none, (.mv (.c (.int .i64 0))), none⟩])
  .ret)))))))))
def r_marlineref08_Take : List ARes := [(.tmp (sl 2)), (.tmp (sl 3))]
theorem t_marlineref08_Take : (Try.f12).body.bind (trCode Try.prog 8 (Try.f12).ntmps [2, 5, 7, 29, 38, 71, 83, 84, 85, 92, 93, 94, 104, 105] [] (drOk 8)) = some c_marlineref08_Take := by kernel_rfl
theorem u_marlineref08_Take : trRess Try.prog 8 (Try.f12).results.toList = some r_marlineref08_Take := by kernel_rfl

end Go.Proofs.Ytkpjokhiobclbaa
