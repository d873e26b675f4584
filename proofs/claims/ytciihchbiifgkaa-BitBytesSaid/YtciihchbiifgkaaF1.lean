/- Contracts by the evaluator: the program's layer 11, small functions. -/
import Derived.Test.YtciihchbiifgkaaP0
import Derived.Test.YtciihchbiifgkaaRB
import Derived.Test.YtciihchbiifgkaaIF
namespace Go.Proofs.Ytciihchbiifgkaa
open Go.RowKit

/-- Names, each one once. -/
def onceL (l : List ByteArray) : List ByteArray := l.foldl (fun acc x => if hasN acc x = true then acc else acc ++ [x]) []
def onceT (l : List ByteArray) (k : Nat) : List ByteArray := onceL (l.take k)
@[simp] theorem onceT_zero (l : List ByteArray) : onceT l 0 = [] := rfl
end Go.Proofs.Ytciihchbiifgkaa
