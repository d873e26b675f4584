/- The bodies of some functions, as the evaluator has them (printed by program), and that they are the program's own. -/
import Derived.Test.YtciihchbiifgkaaKE
namespace Go.Proofs.Ytciihchbiifgkaa
open Go.RowKit

/-- marline/marlinelaw06.BitBytes -/
def c_marlinelaw06_BitBytes : ACode :=
  (.seq (.reg [⟨(some (sl 2)), none, (.box true (.s (sl 0))), none⟩, ⟨(some (sl 4)), none, (.mv (.c (.bool false))), none⟩])
  (.seq (.reg [⟨(some (sl 15)), none, (.call true (.f 8) []), none⟩, ⟨(some (sl 5)), none, (.mv (.s (sl 15))), none⟩])
  (.seq (.reg [⟨(some (sl 17)), none, (.ld true (.s (sl 2)) (some 2)), none⟩, ⟨(some (sl 18)), none, (.call true (.f 9) [(.s (sl 17))]), none⟩, ⟨(some (sl 16)), none, (.mv (.s (sl 18))), none⟩, ⟨(some (sl 19)), none, (.ext (.s (sl 16)) 0), none⟩, ⟨(some (sl 20)), none, (.ext (.s (sl 16)) 1), none⟩, ⟨(some (sl 6)), none, (.mv (.s (sl 19))), none⟩, ⟨(some (sl 7)), none, (.mv (.s (sl 20))), none⟩])
  (.seq (.reg [⟨(some (sl 22)), none, (.ld true (.s (sl 2)) (some 2)), none⟩, ⟨(some (sl 23)), none, (.call true (.f 11) [(.s (sl 22))]), none⟩, ⟨(some (sl 21)), none, (.mv (.s (sl 23))), none⟩, ⟨(some (sl 24)), none, (.ext (.s (sl 21)) 0), none⟩, ⟨(some (sl 25)), none, (.ext (.s (sl 21)) 1), none⟩, ⟨(some (sl 8)), none, (.mv (.s (sl 24))), none⟩, ⟨(some (sl 9)), none, (.mv (.s (sl 25))), none⟩])
  (.seq (.seq (.reg [⟨(some (sl 27)), none, (.mv (.s (sl 1))), none⟩, ⟨(some (sl 28)), none, (.call true (.f 12) [(.s (sl 27))]), none⟩, ⟨(some (sl 26)), none, (.mv (.s (sl 28))), none⟩, ⟨(some (sl 29)), none, (.ext (.s (sl 26)) 0), none⟩, ⟨(some (sl 30)), none, (.ext (.s (sl 26)) 1), none⟩, ⟨(some (sl 10)), none, (.new [(.slice none 0 0), (.slice none 0 0)]), none⟩, ⟨none, none, (.ini 1 (.s (sl 10)) (.s (sl 29)) 2), none⟩, ⟨(some (sl 11)), none, (.mv (.s (sl 30))), none⟩])
  (.frz (sl 10)))
  (.seq (.seq (.reg [⟨(some (sl 32)), none, (.mv (.s (sl 1))), none⟩, ⟨(some (sl 33)), none, (.call true (.f 13) [(.s (sl 32))]), none⟩, ⟨(some (sl 31)), none, (.mv (.s (sl 33))), none⟩, ⟨(some (sl 34)), none, (.ext (.s (sl 31)) 0), none⟩, ⟨(some (sl 35)), none, (.ext (.s (sl 31)) 1), none⟩, ⟨(some (sl 12)), none, (.new [(.slice none 0 0), (.slice none 0 0)]), none⟩, ⟨none, none, (.ini 1 (.s (sl 12)) (.s (sl 34)) 2), none⟩, ⟨(some (sl 13)), none, (.mv (.s (sl 35))), none⟩])
  (.frz (sl 12)))
  (.seq (.reg [⟨(some (sl 36)), none, (.ld true (.s (sl 10)) (some 2)), none⟩, ⟨(some (sl 37)), none, (.ld true (.s (sl 12)) (some 2)), none⟩, ⟨(some (sl 38)), none, (.call true (.f 10) [(.s (sl 36)), (.s (sl 37))]), none⟩, ⟨(some (sl 14)), none, (.mv (.s (sl 38))), none⟩])
  (.seq (.reg [⟨(some (sl 39)), none, (.mv (.s (sl 5))), none⟩, ⟨(some (sl 40)), none, (.mv (.s (sl 39))), none⟩, ⟨(some (sl 41)), (some ((sl 40), true)), (.mv (.s (sl 6))), none⟩, ⟨(some (sl 42)), (some ((sl 40), true)), (.mv (.s (sl 8))), none⟩, ⟨(some (sl 43)), (some ((sl 40), true)), (.bin .eql (.s (sl 41)) (.s (sl 42))), none⟩, ⟨(some (sl 44)), none, (.pick (.s (sl 40)) (.s (sl 43)) (.c (.bool false))), none⟩, ⟨(some (sl 45)), none, (.mv (.s (sl 44))), none⟩, ⟨(some (sl 46)), (some ((sl 45), true)), (.mv (.s (sl 7))), none⟩, ⟨(some (sl 47)), (some ((sl 45), true)), (.mv (.s (sl 9))), none⟩, ⟨(some (sl 48)), (some ((sl 45), true)), (.bin .eql (.s (sl 46)) (.s (sl 47))), none⟩, ⟨(some (sl 49)), none, (.pick (.s (sl 45)) (.s (sl 48)) (.c (.bool false))), none⟩, ⟨(some (sl 50)), none, (.mv (.s (sl 49))), none⟩, ⟨(some (sl 51)), (some ((sl 50), true)), (.mv (.s (sl 14))), none⟩, ⟨(some (sl 52)), none, (.pick (.s (sl 50)) (.s (sl 51)) (.c (.bool false))), none⟩, ⟨(some (sl 53)), none, (.mv (.s (sl 52))), none⟩, ⟨(some (sl 54)), (some ((sl 53), true)), (.mv (.s (sl 11))), none⟩, ⟨(some (sl 55)), (some ((sl 53), true)), (.mv (.s (sl 13))), none⟩, ⟨(some (sl 56)), (some ((sl 53), true)), (.bin .eql (.s (sl 54)) (.s (sl 55))), none⟩, ⟨(some (sl 57)), none, (.pick (.s (sl 53)) (.s (sl 56)) (.c (.bool false))), none⟩, ⟨(some (sl 4)), none, (.mv (.s (sl 57))), none⟩])
  .ret))))))))
def r_marlinelaw06_BitBytes : List ARes := [(.tmp (sl 4))]
theorem t_marlinelaw06_BitBytes : (Try.f4).body.bind (trCode Try.prog 8 (Try.f4).ntmps [] [] (drOk 8)) = some c_marlinelaw06_BitBytes := by kernel_rfl
theorem u_marlinelaw06_BitBytes : trRess Try.prog 8 (Try.f4).results.toList = some r_marlinelaw06_BitBytes := by kernel_rfl

end Go.Proofs.Ytciihchbiifgkaa
