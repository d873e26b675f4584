/- Contracts by the evaluator: the program's layer 11, small functions. -/
import Derived.Test.YtkpjokhiobclbaaP0
import Derived.Test.YtkpjokhiobclbaaRB
import Derived.Test.YtkpjokhiobclbaaIF
namespace Go.Proofs.Ytkpjokhiobclbaa
open Go.RowKit

def findR (m : Module) (s : ByteArray) : DV := match findF m s with | some f => .tup [.agg (funcC f), .bool true] | none => .tup [.agg [.str ⟨#[]⟩, .int 0, .int 0, .lit (.slice none 0 0)], .bool false]

theorem any_swap (xs : List ByteArray) (s : ByteArray) : (xs.any fun x => decide (s = x)) = hasN xs s := by
  unfold hasN
  congr 1
  funext x
  rw [Bool.eq_iff_iff]
  simp [eq_comm]

theorem has_pure (xs : List ByteArray) (s : ByteArray) : APure Try.prog 23 [strsD xs, .str s] (.bool (hasN xs s)) := by
  refine apureG _ _ Try.func23 (by kernel_rfl) t_marlineref08_Has u_marlineref08_Has rfl rfl (fun hx => len1 hx fun hl => ?_)
  clear hx
  simp [c_marlineref08_Has, r_marlineref08_Has]
  refine loop_s (κ := Nat) (fun k => k ≤ xs.length ∧ hasN (xs.take k) s = false) (fun k => xs.length - k) (fun k => [(sl 5, .int k)]) (fun _ => []) 0 0 (srcs []) (by simp [hasN]) (by simp) ?_
  rintro k ⟨hk, hb⟩
  simp
  refine ⟨fun hlt => ⟨hlt, ?_⟩, fun hge => ?_⟩
  · refine ⟨fun h => DLe_bool ?_, fun h => ⟨k + 1, ⟨by omega, ?_⟩, by omega, srcs [], ?_⟩⟩
    · symm
      rw [hasN_iff, ← h, getD_some hlt]
      exact List.getElem_mem hlt
    · rw [List.take_succ_eq_append_getElem hlt, hasN_append, hb]
      rw [getD_some hlt] at h
      simp [hasN, h]
    · simp [SLeK]
      exact DLe_int (wrap_succ (by omega))
  · rw [List.take_of_length_le hge] at hb
    rw [hb]
    exact DLe.refl _

/-- Names, each one once. -/
def onceL (l : List ByteArray) : List ByteArray := l.foldl (fun acc x => if hasN acc x = true then acc else acc ++ [x]) []
def onceT (l : List ByteArray) (k : Nat) : List ByteArray := onceL (l.take k)
@[simp] theorem onceT_zero (l : List ByteArray) : onceT l 0 = [] := rfl
theorem onceT_all {l : List ByteArray} {k : Nat} (h : l.length ≤ k) : onceT l k = onceL l := by
  unfold onceT
  rw [List.take_of_length_le h]
theorem onceT_succ {l : List ByteArray} {k : Nat} (hk : k < l.length) : onceT l (k + 1) = if hasN (onceT l k) l[k] = true then onceT l k else onceT l k ++ [l[k]] := by
  unfold onceT onceL
  rw [List.take_succ_eq_append_getElem hk, List.foldl_append]
  rfl
theorem onceT_length (l : List ByteArray) : ∀ k, (onceT l k).length ≤ k := by
  intro k
  induction k with
  | zero => simp
  | succ k ih =>
    by_cases hk : k < l.length
    · rw [onceT_succ hk]
      split
      · omega
      · simp; omega
    · rw [onceT_all (by omega), ← onceT_all (l := l) (k := k) (by omega)]
      omega

end Go.Proofs.Ytkpjokhiobclbaa
