/- Contracts by the evaluator: the program's layer 11, small functions. -/
import Derived.Test.YtifinpijhbkhnaaRB
import Derived.Test.YtifinpijhbkhnaaLD
namespace Go.Proofs.Ytifinpijhbkhnaa
open Go.RowKit

def findF (m : Module) (s : ByteArray) : Option Func := m.funcs.find? fun f => decide (f.name = s)

theorem find1_pure (f : Func) (s : ByteArray) : APure Try.prog 84 [.agg (funcC f), .cref [.str s] 0] (.bool (decide (f.name = s))) := by
  refine apureG _ _ Try.func84 (by kernel_rfl) t_reach_find_1 u_reach_find_1 rfl rfl (fun _ => ?_)
  simp [c_reach_find_1, r_reach_find_1]

theorem indexF_pure (xs : List Func) (F : FuncId) (caps : List DV) (p : Func → Bool) (hF : ∀ v ∈ xs, APure Try.prog F (.agg (funcC v) :: caps) (.bool (p v))) : APure Try.prog 83 [funcsD xs, .fn F caps] (.int (findI p xs)) := by
  refine apureG _ _ Try.func83 (by kernel_rfl) t_slices_IndexFunc___api_Func_api_Func_ u_slices_IndexFunc___api_Func_api_Func_ rfl rfl (fun hx => len1 hx fun hl => ?_)
  clear hx
  simp [c_slices_IndexFunc___api_Func_api_Func_, r_slices_IndexFunc___api_Func_api_Func_]
  refine loop_s (κ := Nat) (fun k => k ≤ xs.length ∧ ∀ i (h : i < xs.length), i < k → p xs[i] = false) (fun k => xs.length - k) (fun k => [(sl 8, .int k)]) (fun _ => []) 0 0 (srcs []) (by simp) (by simp) ?_
  rintro k ⟨hk, hb⟩
  simp
  refine ⟨fun hlt => ⟨hlt, ?_⟩, fun hge => ?_⟩
  · rw [getD_some hlt]
    refine call_plain _ (by simp) (by simp) (fun _ => by simp) (fun _ => hF _ (List.getElem_mem hlt)) ?_
    simp
    refine ⟨fun h => DLe_int (findI_hit hlt hb h).symm, fun h => ?_⟩
    refine ⟨k + 1, ⟨by omega, fun i hi h1 => ?_⟩, by omega, srcs [], ?_⟩
    · rcases Nat.lt_or_ge i k with h2 | h2
      · exact hb i hi h2
      · obtain rfl : i = k := by omega
        exact h
    · simp [SLeK]
      exact DLe_int (wrap_succ (by omega))
  · exact DLe_int (findI_miss fun i hi => hb i hi (by omega)).symm

def findR (m : Module) (s : ByteArray) : DV := match findF m s with | some f => .tup [.agg (funcC f), .bool true] | none => .tup [.agg [.str ⟨#[]⟩, .int 0, .int 0, .lit (.slice none 0 0)], .bool false]

theorem find_idx {α : Type} (p : α → Bool) : ∀ xs : List α, (∃ k, ∃ hk : k < xs.length, findI p xs = k ∧ xs.find? p = some xs[k]) ∨ (findI p xs = -1 ∧ xs.find? p = none)
  | [] => .inr ⟨rfl, rfl⟩
  | x :: xs => by
    by_cases hx : p x = true
    · exact .inl ⟨0, by simp, findI_hit (k := 0) (by simp) (fun i _ hi => by omega) hx, by simp [hx]⟩
    · have hx' : p x = false := by simpa using hx
      rcases find_idx p xs with ⟨k, hk, h1, h2⟩ | ⟨h1, h2⟩
      · refine .inl ⟨k + 1, by simpa using hk, ?_, by simp [hx', h2]⟩
        unfold findI at h1 ⊢
        rw [List.findIdx?_cons, hx']
        cases hf : xs.findIdx? p with
        | none => rw [hf] at h1; simp at h1
        | some i => rw [hf] at h1; simp at h1 ⊢; omega
      · refine .inr ⟨?_, by simp [hx', h2]⟩
        unfold findI at h1 ⊢
        rw [List.findIdx?_cons, hx']
        cases hf : xs.findIdx? p with
        | none => simp
        | some i => rw [hf] at h1; simp at h1

set_option maxRecDepth 10000 in
theorem find_pure (m : Module) (s : ByteArray) : APure Try.prog 54 [.agg (moduleC m), .str s] (findR m s) := by
  refine apureG _ _ Try.func54 (by kernel_rfl) t_reach_find u_reach_find rfl rfl (fun _ => ?_)
  simp [c_reach_find, r_reach_find]
  refine call_plain (ds := [funcsD m.funcs, .fn 84 [.cref [.str s] 0]]) _ (by simp) (by simp) (fun _ => by simp) (fun _ => indexF_pure m.funcs _ _ _ (fun f _ => find1_pure f s)) ?_
  simp
  unfold findR findF
  rcases find_idx (fun f : Func => decide (f.name = s)) m.funcs with ⟨k, hk, h1, h2⟩ | ⟨h1, h2⟩
  · rw [h1, h2]
    refine ⟨fun h => by omega, fun _ => ⟨⟨by omega, by omega⟩, ?_⟩⟩
    simp only [Int.toNat_natCast, getD_some hk]
    exact DLe.refl _
  · rw [h1, h2]
    exact ⟨fun _ => DLe.refl _, fun h => by omega⟩

theorem indexS_pure (xs : List ByteArray) (s : ByteArray) : APure Try.prog 77 [strsD xs, .str s] (.int (findI (fun x => decide (s = x)) xs)) := by
  refine apureG _ _ Try.func77 (by kernel_rfl) t_slices_Index___string_string_ u_slices_Index___string_string_ rfl rfl (fun hx => len1 hx fun hl => ?_)
  clear hx
  simp [c_slices_Index___string_string_, r_slices_Index___string_string_]
  refine loop_s (κ := Nat) (fun k => k ≤ xs.length ∧ ∀ i (h : i < xs.length), i < k → decide (s = xs[i]) = false) (fun k => xs.length - k) (fun k => [(sl 8, .int k)]) (fun _ => []) 0 0 (srcs []) (by simp) (by simp) ?_
  rintro k ⟨hk, hb⟩
  simp
  refine ⟨fun hlt => ⟨hlt, ?_⟩, fun hge => ?_⟩
  · refine ⟨fun h => DLe_int (findI_hit (p := fun x => decide (s = x)) hlt (by simpa using hb) (by simpa [hlt] using h)).symm, fun h => ?_⟩
    refine ⟨k + 1, ⟨by omega, fun i hi h1 => ?_⟩, by omega, srcs [], ?_⟩
    · rcases Nat.lt_or_ge i k with h2 | h2
      · simpa using hb i hi h2
      · obtain rfl : i = k := by omega
        simpa [hlt] using h
    · simp [SLeK]
      exact DLe_int (wrap_succ (by omega))
  · exact DLe_int (findI_miss fun i hi => hb i hi (by omega)).symm

theorem any_swap (xs : List ByteArray) (s : ByteArray) : (xs.any fun x => decide (s = x)) = hasN xs s := by
  unfold hasN
  congr 1
  funext x
  rw [Bool.eq_iff_iff]
  simp [eq_comm]

theorem containsS_pure (xs : List ByteArray) (s : ByteArray) : APure Try.prog 46 [strsD xs, .str s] (.bool (hasN xs s)) := by
  refine apureG _ _ Try.func46 (by kernel_rfl) t_slices_Contains___string_string_ u_slices_Contains___string_string_ rfl rfl (fun _ => ?_)
  simp [c_slices_Contains___string_string_, r_slices_Contains___string_string_]
  refine call_plain (ds := [strsD xs, .str s]) _ (by simp) (by simp) (fun _ => rfl) (fun _ => indexS_pure xs s) ?_
  simp
  exact DLe_bool ((findI_ge (fun x => decide (s = x)) xs).trans (any_swap xs s))

theorem has_pure (xs : List ByteArray) (s : ByteArray) : APure Try.prog 26 [strsD xs, .str s] (.bool (hasN xs s)) := by
  refine apureG _ _ Try.func26 (by kernel_rfl) t_marlineref08_Has u_marlineref08_Has rfl rfl (fun hx => len1 hx fun hl => ?_)
  clear hx
  simp [c_marlineref08_Has, r_marlineref08_Has]
  refine loop_s (κ := Nat) (fun k => k ≤ xs.length ∧ hasN (xs.take k) s = false) (fun k => xs.length - k) (fun k => [(sl 5, .int k)]) (fun _ => []) 0 0 (srcs []) (by simp [hasN]) (by simp) ?_
  rintro k ⟨hk, hb⟩
  simp
  refine ⟨fun hlt => ⟨hlt, ?_⟩, fun hge => ?_⟩
  · refine ⟨fun h => DLe_bool ?_, fun h => ⟨k + 1, ⟨by omega, ?_⟩, by omega, srcs [], ?_⟩⟩
    · symm
      rw [hasN_iff, ← h, getD_some hlt]
      exact List.getElem_mem hlt
    · rw [List.take_succ_eq_append_getElem hlt, hasN_append, hb]
      rw [getD_some hlt] at h
      simp [hasN, h]
    · simp [SLeK]
      exact DLe_int (wrap_succ (by omega))
  · rw [List.take_of_length_le hge] at hb
    rw [hb]
    exact DLe.refl _

/-- Names, each one once. -/
def onceL (l : List ByteArray) : List ByteArray := l.foldl (fun acc x => if hasN acc x = true then acc else acc ++ [x]) []
def onceT (l : List ByteArray) (k : Nat) : List ByteArray := onceL (l.take k)
@[simp] theorem onceT_zero (l : List ByteArray) : onceT l 0 = [] := rfl
theorem onceT_all {l : List ByteArray} {k : Nat} (h : l.length ≤ k) : onceT l k = onceL l := by
  unfold onceT
  rw [List.take_of_length_le h]
theorem onceT_succ {l : List ByteArray} {k : Nat} (hk : k < l.length) : onceT l (k + 1) = if hasN (onceT l k) l[k] = true then onceT l k else onceT l k ++ [l[k]] := by
  unfold onceT onceL
  rw [List.take_succ_eq_append_getElem hk, List.foldl_append]
  rfl
theorem onceT_length (l : List ByteArray) : ∀ k, (onceT l k).length ≤ k := by
  intro k
  induction k with
  | zero => simp
  | succ k ih =>
    by_cases hk : k < l.length
    · rw [onceT_succ hk]
      split
      · omega
      · simp; omega
    · rw [onceT_all (by omega), ← onceT_all (l := l) (k := k) (by omega)]
      omega

set_option maxRecDepth 10000 in
theorem once_own (l : List ByteArray) (hl : l.length ≤ 8796093022208) : AOwn Try.prog 85 [strsD l] 9 1 (onceL l).length (fun i => strC ((onceL l)[i]?.getD ⟨#[]⟩)) := by
  refine aownG _ _ Try.func85 (by kernel_rfl) t_reach_once_string_ u_reach_once_string_ rfl rfl (fun _ => ?_)
  simp [c_reach_once_string_, r_reach_once_string_]
  refine loop_s (κ := Nat) (fun k => k ≤ l.length) (fun k => l.length - k) (fun k => [(sl 8, .int k), (sl 3, .own 0 (onceT l k).length)])
    (fun k => [(0, .row 9 1 (onceT l k).length fun i => strC ((onceT l k)[i]?.getD ⟨#[]⟩))]) 1 0 (srcs [(0, .nil)]) (by simp) (by simp) ?_
  rintro k hk
  simp
  refine ⟨fun hlt => ⟨hlt, ?_⟩, fun hge => ?_⟩
  · rw [getD_some hlt]
    have hlen := onceT_length l k
    have hsucc := onceT_succ hlt
    refine call_plain (ds := [strsD (onceT l k), .str l[k]]) _ (by simp) (by simp) (fun _ => by simp; rfl) (fun _ => containsS_pure (onceT l k) l[k]) ?_
    simp
    refine ⟨fun h => ⟨by omega, k + 1, by omega, by omega, srcs [(0, .id 12)], ?_⟩, fun h => ⟨k + 1, by omega, by omega, srcs [(0, .id 0)], ?_⟩⟩
    · rw [h] at hsucc
      simp [SLeK, hsucc]
      exact ⟨DLe_int (wrap_succ (by omega)), fun i hi => appRow_str hi⟩
    · rw [h] at hsucc
      simp [SLeK, hsucc]
      exact DLe_int (wrap_succ (by omega))
  · rw [onceT_all hge]
    exact ⟨rfl, fun _ _ => rfl⟩

end Go.Proofs.Ytifinpijhbkhnaa
