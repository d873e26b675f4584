/- Contracts by the evaluator: the program's layer 11: a module without what isn't reached. -/
import Derived.Test.YtifinpijhbkhnaaF4
import Derived.Test.YtifinpijhbkhnaaRB
namespace Go.Proofs.Ytifinpijhbkhnaa
open Go.RowKit

/-- Of the first k those of which something holds. -/
def flT {α : Type} (p : α → Bool) (l : List α) (k : Nat) : List α := (l.take k).filter p
@[simp] theorem flT_zero {α : Type} (p : α → Bool) (l : List α) : flT p l 0 = [] := rfl
theorem flT_succ {α : Type} (p : α → Bool) {l : List α} {k : Nat} (hk : k < l.length) : flT p l (k + 1) = if p l[k] = true then flT p l k ++ [l[k]] else flT p l k := by
  unfold flT
  rw [List.take_succ_eq_append_getElem hk, List.filter_append]
  cases h : p l[k] <;> simp [h]
theorem flT_all {α : Type} (p : α → Bool) {l : List α} {k : Nat} (hk : l.length ≤ k) : flT p l k = l.filter p := by
  unfold flT
  rw [List.take_of_length_le hk]
theorem flT_length {α : Type} (p : α → Bool) (l : List α) (k : Nat) : (flT p l k).length ≤ k := by
  unfold flT
  have := List.length_filter_le p (l.take k)
  simp at this
  omega

theorem appRow_func {l : List Func} {x : Func} {i : Nat} (h : i < l.length + 1) : appRow l.length (fun i => funcC (l[i]?.getD default)) (fun i => List.take 4 (List.drop (i * 4) (funcC x))) i = funcC ((l ++ [x])[i]?.getD default) := by
  unfold appRow
  by_cases hi : i < l.length
  · rw [if_pos hi]; simp [List.getElem?_append_left hi, hi]
  · obtain rfl : i = l.length := by omega
    simp [funcC]
theorem appRow_glob {l : List Glob} {x : Glob} {i : Nat} (h : i < l.length + 1) : appRow l.length (fun i => globC (l[i]?.getD default)) (fun i => List.take 4 (List.drop (i * 4) (globC x))) i = globC ((l ++ [x])[i]?.getD default) := by
  unfold appRow
  by_cases hi : i < l.length
  · rw [if_pos hi]; simp [List.getElem?_append_left hi, hi]
  · obtain rfl : i = l.length := by omega
    simp [globC]

/-- A module without what isn't reached. -/
def dropM (m : Module) : Module := ⟨m.funcs.filter fun f => hasN (fromL m (rootsL m)) f.name, m.globs.filter fun g => hasN (fromL m (rootsL m)) g.name⟩

theorem rootsL_length (m : Module) : (rootsL m).length ≤ m.funcs.length + m.globs.length := by
  have := rgT_length m m.globs.length
  rwa [rgT_all (Nat.le_refl _)] at this

set_option maxRecDepth 10000 in
theorem drop_pure (m : Module) (hm : Small m) : APure Try.prog 18 [.agg (moduleC m)] (.agg (moduleC (dropM m))) := by
  refine apureG _ _ Try.func18 (by kernel_rfl) t_reach_Drop u_reach_Drop rfl rfl (fun _ => ?_)
  have hl := hm.len
  simp [c_reach_Drop, r_reach_Drop]
  refine call_plain (ds := [.agg (moduleC m)]) _ (by simp) (by simp) (fun _ => rfl) (fun _ => roots_pure m hl) ?_
  simp
  refine call_plain (ds := [.agg (moduleC m), strsD (rootsL m)]) _ (by simp) (by simp) (fun _ => rfl) (fun _ => from_pure m hm (rootsL m) (Nat.le_trans (rootsL_length m) hl)) ?_
  simp
  obtain ⟨R, hR⟩ : ∃ R, fromL m (rootsL m) = R := ⟨_, rfl⟩
  rw [hR]
  refine loop_s (κ := Nat) (fun k => k ≤ m.funcs.length) (fun k => m.funcs.length - k) (fun k => [(sl 16, .int k), (sl 4, .ptr 1 0), (sl 2, .ptr 2 0)])
    (fun k => [(0, .row 43 4 (flT (fun f => hasN R f.name) m.funcs k).length fun i => funcC ((flT (fun f => hasN R f.name) m.funcs k)[i]?.getD default)), (1, .box [.own 0 (flT (fun f => hasN R f.name) m.funcs k).length, .d (.lit (.slice none 0 0))]), (2, .box [.d (.lit (.slice none 0 0)), .d (.lit (.slice none 0 0))])]) 3 0 (srcs [(0, .nil), (1, .id 7), (2, .id 1)]) (by simp) ?_ ?_
  · simp
  rintro k hk
  simp
  refine ⟨fun hlt => ⟨hlt, ?_⟩, fun hge => ?_⟩
  · have hlm := flT_length (fun f : Func => hasN R f.name) m.funcs k
    have hs := flT_succ (fun f : Func => hasN R f.name) hlt
    rw [getD_some hlt]
    refine call_plain (ds := [strsD R, .str m.funcs[k].name]) _ (by simp) (by simp) (fun _ => rfl) (fun _ => containsS_pure R m.funcs[k].name) ?_
    simp
    refine ⟨fun h => ?_, fun h => ?_⟩
    · rw [if_pos h] at hs
      refine ⟨by omega, k + 1, by omega, by omega, srcs [(0, .id 16), (1, .id 1), (2, .id 2)], ?_⟩
      simp [SLeK, hs]
      exact ⟨DLe_int (wrap_succ (by omega)), fun i hi => appRow_func hi⟩
    · rw [if_neg (by simp [h])] at hs
      refine ⟨k + 1, by omega, by omega, srcs [(0, .id 0), (1, .id 1), (2, .id 2)], ?_⟩
      simp [SLeK, hs]
      exact DLe_int (wrap_succ (by omega))
  rw [flT_all _ hge]
  refine loop_s (κ := Nat) (fun k => k ≤ m.globs.length) (fun k => m.globs.length - k) (fun k => [(sl 34, .int k), (sl 4, .ptr 1 0), (sl 2, .ptr 2 0)])
    (fun k => [(0, .row 43 4 (m.funcs.filter fun f => hasN R f.name).length fun i => funcC ((m.funcs.filter fun f => hasN R f.name)[i]?.getD default)), (1, .box [.own 0 (m.funcs.filter fun f => hasN R f.name).length, .own 3 (flT (fun g => hasN R g.name) m.globs k).length]), (2, .box [.d (.lit (.slice none 0 0)), .d (.lit (.slice none 0 0))]),
      (3, .row 47 4 (flT (fun g => hasN R g.name) m.globs k).length fun i => globC ((flT (fun g => hasN R g.name) m.globs k)[i]?.getD default))]) 4 0 (srcs [(0, .id 0), (1, .id 1), (2, .id 2), (3, .nil)]) (by simp) ?_ ?_
  · simp
  rintro j hj
  simp
  refine ⟨fun hlt => ⟨hlt, ?_⟩, fun hge => ?_⟩
  · have hlm := flT_length (fun g : Glob => hasN R g.name) m.globs j
    have hs := flT_succ (fun g : Glob => hasN R g.name) hlt
    rw [getD_some hlt]
    refine call_plain (ds := [strsD R, .str m.globs[j].name]) _ (by simp) (by simp) (fun _ => rfl) (fun _ => containsS_pure R m.globs[j].name) ?_
    simp
    refine ⟨fun h => ?_, fun h => ?_⟩
    · rw [if_pos h] at hs
      refine ⟨by omega, j + 1, by omega, by omega, srcs [(0, .id 0), (1, .id 1), (2, .id 2), (3, .id 17)], ?_⟩
      simp [SLeK, hs]
      exact ⟨DLe_int (wrap_succ (by omega)), fun i hi => appRow_glob hi⟩
    · rw [if_neg (by simp [h])] at hs
      refine ⟨j + 1, by omega, by omega, srcs [(0, .id 0), (1, .id 1), (2, .id 2), (3, .id 3)], ?_⟩
      simp [SLeK, hs]
      exact DLe_int (wrap_succ (by omega))
  · rw [flT_all _ hge]
    subst hR
    exact DLe.refl _

end Go.Proofs.Ytifinpijhbkhnaa
