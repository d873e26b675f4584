/- Contracts by the evaluator: the program's layer 11, small functions. -/
import Derived.Test.YtciihchbiifgkaaP0
import Derived.Test.YtciihchbiifgkaaRB
import Derived.Test.YtciihchbiifgkaaIF
namespace Go.Proofs.Ytciihchbiifgkaa
open Go.RowKit

def findR (m : Module) (s : ByteArray) : DV := match findF m s with | some f => .tup [.agg (funcC f), .bool true] | none => .tup [.agg [.str ⟨#[]⟩, .int 0, .int 0, .lit (.slice none 0 0)], .bool false]

theorem any_swap (xs : List ByteArray) (s : ByteArray) : (xs.any fun x => decide (s = x)) = hasN xs s := by
  unfold hasN
  congr 1
  funext x
  rw [Bool.eq_iff_iff]
  simp [eq_comm]

/-- Names, each one once. -/
def onceL (l : List ByteArray) : List ByteArray := l.foldl (fun acc x => if hasN acc x = true then acc else acc ++ [x]) []
def onceT (l : List ByteArray) (k : Nat) : List ByteArray := onceL (l.take k)
@[simp] theorem onceT_zero (l : List ByteArray) : onceT l 0 = [] := rfl
theorem onceT_all {l : List ByteArray} {k : Nat} (h : l.length ≤ k) : onceT l k = onceL l := by
  unfold onceT
  rw [List.take_of_length_le h]
theorem onceT_succ {l : List ByteArray} {k : Nat} (hk : k < l.length) : onceT l (k + 1) = if hasN (onceT l k) l[k] = true then onceT l k else onceT l k ++ [l[k]] := by
  unfold onceT onceL
  rw [List.take_succ_eq_append_getElem hk, List.foldl_append]
  rfl
theorem onceT_length (l : List ByteArray) : ∀ k, (onceT l k).length ≤ k := by
  intro k
  induction k with
  | zero => simp
  | succ k ih =>
    by_cases hk : k < l.length
    · rw [onceT_succ hk]
      split
      · omega
      · simp; omega
    · rw [onceT_all (by omega), ← onceT_all (l := l) (k := k) (by omega)]
      omega

end Go.Proofs.Ytciihchbiifgkaa
