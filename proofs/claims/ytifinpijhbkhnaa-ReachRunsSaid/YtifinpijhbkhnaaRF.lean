/- The bodies of some functions, as the evaluator has them (printed by program), and that they are the program's own. -/
import Derived.Test.YtifinpijhbkhnaaKE
namespace Go.Proofs.Ytifinpijhbkhnaa
open Go.RowKit

/-- marline/marlinelaw11.ReachRuns -/
def c_marlinelaw11_ReachRuns : ACode :=
  (.seq (.reg [⟨(some (sl 1)), none, (.box true (.s (sl 0))), none⟩, ⟨(some (sl 2)), none, (.mv (.c (.bool false))), none⟩])
  (.seq (.seq (.reg [⟨(some (sl 12)), none, (.fld (.s (sl 1)) 0), none⟩, ⟨(some (sl 13)), none, (.ld true (.s (sl 12)) (some 2)), none⟩, ⟨(some (sl 3)), none, (.new [(.slice none 0 0), (.slice none 0 0)]), none⟩, ⟨none, none, (.ini 1 (.s (sl 3)) (.s (sl 13)) 2), none⟩])
  (.frz (sl 3)))
  (.seq (.reg [⟨(some (sl 14)), none, (.fld (.s (sl 1)) 2), none⟩, ⟨(some (sl 15)), none, (.ld true (.s (sl 14)) none), none⟩, ⟨(some (sl 4)), none, (.mv (.s (sl 15))), none⟩])
  (.seq (.reg [⟨(some (sl 16)), none, (.fld (.s (sl 1)) 3), none⟩, ⟨(some (sl 17)), none, (.ld true (.s (sl 16)) none), none⟩, ⟨(some (sl 5)), none, (.mv (.s (sl 17))), none⟩])
  (.seq (.reg [⟨(some (sl 18)), none, (.fld (.s (sl 1)) 4), none⟩, ⟨(some (sl 19)), none, (.ld true (.s (sl 18)) none), none⟩, ⟨(some (sl 6)), none, (.mv (.s (sl 19))), none⟩])
  (.seq (.reg [⟨(some (sl 20)), none, (.call true (.f 17) []), none⟩, ⟨(some (sl 7)), none, (.mv (.s (sl 20))), none⟩])
  (.seq (.seq (.reg [⟨(some (sl 21)), none, (.ld true (.s (sl 3)) (some 2)), none⟩, ⟨(some (sl 22)), none, (.call true (.f 20) [(.s (sl 21))]), none⟩, ⟨(some (sl 23)), none, (.bin .neq (.s (sl 22)) (.c (.int .i64 0))), none⟩, ⟨(some (sl 24)), none, (.mv (.s (sl 23))), none⟩, ⟨(some (sl 25)), (some ((sl 24), false)), (.mv (.s (sl 5))), none⟩, ⟨(some (sl 26)), (some ((sl 24), false)), (.bin .lss (.s (sl 25)) (.c (.int .i64 0))), none⟩, ⟨(some (sl 27)), none, (.pick (.s (sl 24)) (.c (.bool true)) (.s (sl 26))), none⟩, ⟨(some (sl 28)), none, (.mv (.s (sl 27))), none⟩, ⟨(some (sl 29)), (some ((sl 28), false)), (.mv (.s (sl 5))), none⟩, ⟨(some (sl 30)), (some ((sl 28), false)), (.bin .gtr (.s (sl 29)) (.c (.int .i64 1000))), none⟩, ⟨(some (sl 31)), none, (.pick (.s (sl 28)) (.c (.bool true)) (.s (sl 30))), none⟩, ⟨(some (sl 32)), none, (.mv (.s (sl 31))), none⟩, ⟨(some (sl 33)), (some ((sl 32), false)), (.mv (.s (sl 6))), none⟩, ⟨(some (sl 34)), (some ((sl 32), false)), (.bin .lss (.s (sl 33)) (.c (.int .i64 1))), none⟩, ⟨(some (sl 35)), none, (.pick (.s (sl 32)) (.c (.bool true)) (.s (sl 34))), none⟩, ⟨(some (sl 36)), none, (.mv (.s (sl 35))), none⟩, ⟨(some (sl 37)), (some ((sl 36), false)), (.mv (.s (sl 6))), none⟩, ⟨(some (sl 38)), (some ((sl 36), false)), (.bin .gtr (.s (sl 37)) (.c (.int .i64 20))), none⟩, ⟨(some (sl 39)), none, (.pick (.s (sl 36)) (.c (.bool true)) (.s (sl 38))), none⟩])
  (.cond (.s (sl 39))
  (.seq (.reg [⟨(some (sl 40)), none, (.mv (.s (sl 7))), none⟩, ⟨(some (sl 2)), none, (.mv (.s (sl 40))), none⟩])
  .ret)
  .skip))
  (.seq (.seq (.reg [⟨(some (sl 42)), none, (.ld true (.s (sl 3)) (some 2)), none⟩, ⟨(some (sl 43)), none, (.mv (.s (sl 4))), none⟩, ⟨(some (sl 44)), none, (.mv (.s (sl 5))), none⟩, ⟨(some (sl 45)), none, (.mv (.s (sl 6))), none⟩, ⟨(some (sl 46)), none, (.call true (.f 21) [(.s (sl 42)), (.s (sl 43)), (.s (sl 44)), (.s (sl 45))]), none⟩, ⟨(some (sl 41)), none, (.mv (.s (sl 46))), none⟩, ⟨(some (sl 47)), none, (.ext (.s (sl 41)) 0), none⟩, ⟨(some (sl 48)), none, (.ext (.s (sl 41)) 1), none⟩, ⟨(some (sl 8)), none, (.new [(.bool false), (.int .u64 0), (.string ⟨#[]⟩), (.int .i64 0), (.int .i64 0), (.int .i64 0)]), none⟩, ⟨none, none, (.ini 1 (.s (sl 8)) (.s (sl 47)) 6), none⟩, ⟨(some (sl 9)), none, (.mv (.s (sl 48))), none⟩])
  (.frz (sl 8)))
  (.seq (.seq (.reg [⟨(some (sl 50)), none, (.ld true (.s (sl 3)) (some 2)), none⟩, ⟨(some (sl 51)), none, (.call true (.f 18) [(.s (sl 50))]), none⟩, ⟨(some (sl 52)), none, (.mv (.s (sl 4))), none⟩, ⟨(some (sl 53)), none, (.mv (.s (sl 5))), none⟩, ⟨(some (sl 54)), none, (.mv (.s (sl 6))), none⟩, ⟨(some (sl 55)), none, (.call true (.f 21) [(.s (sl 51)), (.s (sl 52)), (.s (sl 53)), (.s (sl 54))]), none⟩, ⟨(some (sl 49)), none, (.mv (.s (sl 55))), none⟩, ⟨(some (sl 56)), none, (.ext (.s (sl 49)) 0), none⟩, ⟨(some (sl 57)), none, (.ext (.s (sl 49)) 1), none⟩, ⟨(some (sl 10)), none, (.new [(.bool false), (.int .u64 0), (.string ⟨#[]⟩), (.int .i64 0), (.int .i64 0), (.int .i64 0)]), none⟩, ⟨none, none, (.ini 1 (.s (sl 10)) (.s (sl 56)) 6), none⟩, ⟨(some (sl 11)), none, (.mv (.s (sl 57))), none⟩])
  (.frz (sl 10)))
  (.seq (.reg [⟨(some (sl 58)), none, (.mv (.s (sl 7))), none⟩, ⟨(some (sl 59)), none, (.mv (.s (sl 58))), none⟩, ⟨(some (sl 60)), (some ((sl 59), true)), (.ld true (.s (sl 8)) (some 6)), none⟩, ⟨(some (sl 61)), (some ((sl 59), true)), (.ld true (.s (sl 10)) (some 6)), none⟩, ⟨(some (sl 62)), (some ((sl 59), true)), (.eqs false (.s (sl 60)) (.s (sl 61)) [.bool, (.int .u64), .string, (.int .i64), (.int .i64), (.int .i64)]), none⟩, ⟨(some (sl 63)), none, (.pick (.s (sl 59)) (.s (sl 62)) (.c (.bool false))), none⟩, ⟨(some (sl 64)), none, (.mv (.s (sl 63))), none⟩, ⟨(some (sl 65)), (some ((sl 64), true)), (.mv (.s (sl 9))), none⟩, ⟨(some (sl 66)), (some ((sl 64), true)), (.mv (.s (sl 11))), none⟩, ⟨(some (sl 67)), (some ((sl 64), true)), (.bin .eql (.s (sl 65)) (.s (sl 66))), none⟩, ⟨(some (sl 68)), none, (.pick (.s (sl 64)) (.s (sl 67)) (.c (.bool false))), none⟩, ⟨(some (sl 2)), none, (.mv (.s (sl 68))), none⟩])
  .ret))))))))))
def r_marlinelaw11_ReachRuns : List ARes := [(.tmp (sl 2))]
theorem t_marlinelaw11_ReachRuns : (Try.f4).body.bind (trCode Try.prog 8 (Try.f4).ntmps [] [] (drOk 8)) = some c_marlinelaw11_ReachRuns := by kernel_rfl
theorem u_marlinelaw11_ReachRuns : trRess Try.prog 8 (Try.f4).results.toList = some r_marlinelaw11_ReachRuns := by kernel_rfl

end Go.Proofs.Ytifinpijhbkhnaa
