/- The bodies of some functions, as the evaluator has them (printed by program), and that they are the program's own. -/
import Derived.Test.YtkpjokhiobclbaaKE
namespace Go.Proofs.Ytkpjokhiobclbaa
open Go.RowKit

/-- marline/pick.Take -/
def c_pick_Take : ACode :=
  (.seq (.reg [⟨(some (sl 2)), none, (.mv (.c (.slice none 0 0))), none⟩, ⟨(some (sl 3)), none, (.mv (.c (.int .i64 0))), none⟩])
  (.seq (.seq (.reg [⟨(some (sl 15)), none, (.mv (.s (sl 0))), none⟩, ⟨(some (sl 16)), none, (.call true (.f 19) [(.s (sl 15))]), none⟩, ⟨(some (sl 4)), none, (.mv (.s (sl 16))), none⟩])
  (.seq (.reg [⟨(some (sl 17)), none, (.mv (.s (sl 4))), none⟩, ⟨(some (sl 18)), none, (.bin .neq (.s (sl 17)) (.c (.int .i64 0))), none⟩])
  (.cond (.s (sl 18))
  (.seq (.reg [⟨(some (sl 19)), none, (.mv (.s (sl 4))), none⟩, ⟨(some (sl 2)), none, (.mv (.c (.slice none 0 0))), none⟩, ⟨(some (sl 3)), none, (.mv (.s (sl 19))), none⟩])
  .ret)
  .skip)))
  (.seq (.reg [⟨(some (sl 20)), none, (.mmk (.two .i64 .i64)), none⟩, ⟨(some (sl 5)), none, (.mv (.s (sl 20))), none⟩])
  (.seq (.reg [⟨(some (sl 6)), none, (.mv (.c (.slice none 0 0))), none⟩])
  (.seq (.seq (.reg [⟨(some (sl 21)), none, (.mv (.s (sl 0))), none⟩, ⟨(some (sl 22)), none, (.len false (.s (sl 21))), none⟩, ⟨(some (sl 23)), none, (.mv (.c (.int .i64 0))), none⟩])
  (.block 0
  (.loop (.seq (.reg [⟨(some (sl 24)), none, (.bin .lss (.s (sl 23)) (.s (sl 22))), none⟩])
  (.seq (.cond (.s (sl 24))
  .skip
  (.exit 0))
  (.seq (.block 1
  (.seq (.seq (.reg [⟨(some (sl 25)), none, (.mv (.s (sl 23))), none⟩, ⟨(some (sl 26)), none, (.idx true (.s (sl 21)) (.s (sl 23)) 2), none⟩, ⟨(some (sl 27)), none, (.ld true (.s (sl 26)) (some 2)), none⟩, ⟨(some (sl 8)), none, (.new [(.bool false), (.slice none 0 0)]), none⟩, ⟨(some (sl 7)), none, (.mv (.s (sl 25))), none⟩, ⟨none, none, (.ini 2 (.s (sl 8)) (.s (sl 27)) 2), none⟩])
  (.frz (sl 8)))
  (.seq (.reg [⟨(some (sl 28)), none, (.fld (.s (sl 8)) 0), none⟩, ⟨(some (sl 29)), none, (.ld true (.s (sl 28)) none), none⟩, ⟨(some (sl 30)), none, (.not (.s (sl 29))), none⟩])
  (.cond (.s (sl 30))
  (.seq (.reg [⟨(some (sl 31)), none, (.mv (.s (sl 6))), none⟩, ⟨(some (sl 32)), none, (.fld (.s (sl 8)) 1), none⟩, ⟨(some (sl 33)), none, (.ld true (.s (sl 32)) none), none⟩, ⟨(some (sl 34)), none, (.idx true (.s (sl 33)) (.c (.int .i64 0)) 2), none⟩, ⟨(some (sl 35)), none, (.ld true (.s (sl 34)) (some 2)), none⟩, ⟨(some (sl 36)), none, (.mksl 2 1 [(.slice none 0 0), (.slice none 0 0)] [(0, 2, (.s (sl 35)))]), none⟩, ⟨(some (sl 37)), none, (.app 25 2 48 (.s (sl 31)) (.s (sl 36))), none⟩, ⟨(some (sl 6)), none, (.mv (.s (sl 37))), none⟩])
  (.reg [⟨(some (sl 38)), none, (.mv (.s (sl 5))), none⟩, ⟨(some (sl 39)), none, (.mv (.s (sl 7))), none⟩, ⟨(some (sl 40)), none, (.bld [(.int .i64 0), (.int .i64 0)] [(0, 1, (.s (sl 39))), (1, 1, (.c (.int .i64 0)))]), none⟩, ⟨none, none, (.mset false (.s (sl 38)) (.s (sl 40)) (.c (.bool true)) (.two .i64 .i64)), none⟩]))
  .skip))))
  (.reg [⟨(some (sl 41)), none, (.bin .add (.s (sl 23)) (.c (.int .i64 1))), none⟩, ⟨(some (sl 23)), none, (.mv (.s (sl 41))), none⟩])))))))
  (.seq .skip
  (.block 2
  (.loop (.block 3
  (.seq (.reg [⟨(some (sl 42)), none, (.mv (.s (sl 6))), none⟩, ⟨(some (sl 43)), none, (.callm .string (.f 26) [(.s (sl 42))]), none⟩, ⟨(some (sl 9)), none, (.new [(.map none)]), none⟩, ⟨none, none, (.ini 1 (.s (sl 9)) (.s (sl 43)) 1), none⟩])
  (.seq (.seq (.reg [⟨(some (sl 44)), none, (.mv (.s (sl 0))), none⟩, ⟨(some (sl 45)), none, (.len false (.s (sl 44))), none⟩, ⟨(some (sl 46)), none, (.mv (.c (.int .i64 0))), none⟩])
  (.block 4
  (.loop (.seq (.reg [⟨(some (sl 47)), none, (.bin .lss (.s (sl 46)) (.s (sl 45))), none⟩])
  (.seq (.cond (.s (sl 47))
  .skip
  (.exit 4))
  (.seq (.block 5
  (.seq (.seq (.reg [⟨(some (sl 48)), none, (.mv (.s (sl 46))), none⟩, ⟨(some (sl 49)), none, (.idx true (.s (sl 44)) (.s (sl 46)) 2), none⟩, ⟨(some (sl 50)), none, (.ld true (.s (sl 49)) (some 2)), none⟩, ⟨(some (sl 11)), none, (.new [(.bool false), (.slice none 0 0)]), none⟩, ⟨(some (sl 10)), none, (.mv (.s (sl 48))), none⟩, ⟨none, none, (.ini 2 (.s (sl 11)) (.s (sl 50)) 2), none⟩])
  (.frz (sl 11)))
  (.seq (.reg [⟨(some (sl 51)), none, (.fld (.s (sl 11)) 1), none⟩, ⟨(some (sl 52)), none, (.ld true (.s (sl 51)) none), none⟩, ⟨(some (sl 53)), none, (.len false (.s (sl 52))), none⟩, ⟨(some (sl 54)), none, (.mv (.c (.int .i64 0))), none⟩])
  (.block 6
  (.loop (.seq (.reg [⟨(some (sl 55)), none, (.bin .lss (.s (sl 54)) (.s (sl 53))), none⟩])
  (.seq (.cond (.s (sl 55))
  .skip
  (.exit 6))
  (.seq (.block 7
  (.seq (.seq (.reg [⟨(some (sl 56)), none, (.mv (.s (sl 54))), none⟩, ⟨(some (sl 57)), none, (.idx true (.s (sl 52)) (.s (sl 54)) 2), none⟩, ⟨(some (sl 58)), none, (.ld true (.s (sl 57)) (some 2)), none⟩, ⟨(some (sl 13)), none, (.new [(.slice none 0 0), (.slice none 0 0)]), none⟩, ⟨(some (sl 12)), none, (.mv (.s (sl 56))), none⟩, ⟨none, none, (.ini 2 (.s (sl 13)) (.s (sl 58)) 2), none⟩])
  (.frz (sl 13)))
  (.seq (.reg [⟨(some (sl 59)), none, (.ld true (.s (sl 13)) (some 2)), none⟩, ⟨(some (sl 60)), none, (.call true (.f 15) [(.s (sl 59))]), none⟩, ⟨(some (sl 61)), none, (.mkfn 28 [(.s (sl 9))]), none⟩, ⟨(some (sl 62)), none, (.calle (.f 27) [(.s (sl 60)), (.s (sl 61))]), none⟩, ⟨(some (sl 14)), none, (.mv (.s (sl 62))), none⟩])
  (.seq (.reg [⟨(some (sl 63)), none, (.mv (.s (sl 5))), none⟩, ⟨(some (sl 64)), none, (.mv (.s (sl 10))), none⟩, ⟨(some (sl 65)), none, (.mv (.s (sl 12))), none⟩, ⟨(some (sl 66)), none, (.bld [(.int .i64 0), (.int .i64 0)] [(0, 1, (.s (sl 64))), (1, 1, (.s (sl 65)))]), none⟩, ⟨(some (sl 67)), none, (.mget (.s (sl 63)) (.s (sl 66)) false (.two .i64 .i64) (.bool false)), none⟩, ⟨(some (sl 68)), none, (.not (.s (sl 67))), none⟩, ⟨(some (sl 69)), none, (.mv (.s (sl 68))), none⟩, ⟨(some (sl 70)), (some ((sl 69), true)), (.mv (.s (sl 14))), none⟩, ⟨(some (sl 71)), none, (.pick (.s (sl 69)) (.s (sl 70)) (.c (.bool false))), none⟩])
  (.cond (.s (sl 71))
  (.seq (.reg [⟨(some (sl 72)), none, (.mv (.s (sl 5))), none⟩, ⟨(some (sl 73)), none, (.mv (.s (sl 10))), none⟩, ⟨(some (sl 74)), none, (.mv (.s (sl 12))), none⟩, ⟨(some (sl 75)), none, (.bld [(.int .i64 0), (.int .i64 0)] [(0, 1, (.s (sl 73))), (1, 1, (.s (sl 74)))]), none⟩, ⟨none, none, (.mset false (.s (sl 72)) (.s (sl 75)) (.c (.bool true)) (.two .i64 .i64)), none⟩])
  (.seq (.reg [⟨(some (sl 76)), none, (.mv (.s (sl 6))), none⟩, ⟨(some (sl 77)), none, (.ld true (.s (sl 13)) (some 2)), none⟩, ⟨(some (sl 78)), none, (.mksl 2 1 [(.slice none 0 0), (.slice none 0 0)] [(0, 2, (.s (sl 77)))]), none⟩, ⟨(some (sl 79)), none, (.app 25 2 48 (.s (sl 76)) (.s (sl 78))), none⟩, ⟨(some (sl 6)), none, (.mv (.s (sl 79))), none⟩])
  (.exit 3)))
  .skip)))))
  (.reg [⟨(some (sl 80)), none, (.bin .add (.s (sl 54)) (.c (.int .i64 1))), none⟩, ⟨(some (sl 54)), none, (.mv (.s (sl 80))), none⟩])))))))))
  (.reg [⟨(some (sl 81)), none, (.bin .add (.s (sl 46)) (.c (.int .i64 1))), none⟩, ⟨(some (sl 46)), none, (.mv (.s (sl 81))), none⟩])))))))
  (.seq (.reg [⟨(some (sl 82)), none, (.mv (.s (sl 6))), none⟩, ⟨(some (sl 2)), none, (.mv (.s (sl 82))), none⟩, ⟨(some (sl 3)), none, (.mv (.c (.int .i64 0))), none⟩])
  .ret))))))))))))
def r_pick_Take : List ARes := [(.tmp (sl 2)), (.tmp (sl 3))]
theorem t_pick_Take : (Try.f11).body.bind (trCode Try.prog 8 (Try.f11).ntmps [2, 6, 9, 14, 31, 37, 42, 43, 61, 62, 70, 71, 76, 79, 82] [(26, 9, 2000), (27, 0, 0)] (drOk 8)) = some c_pick_Take := by kernel_rfl
theorem u_pick_Take : trRess Try.prog 8 (Try.f11).results.toList = some r_pick_Take := by kernel_rfl

end Go.Proofs.Ytkpjokhiobclbaa
