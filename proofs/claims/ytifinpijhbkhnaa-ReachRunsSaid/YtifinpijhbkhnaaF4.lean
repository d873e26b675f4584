/- Contracts by the evaluator: the program's layer 11: what is reached from some names. -/
import Derived.Test.YtifinpijhbkhnaaDel
import Derived.Test.YtifinpijhbkhnaaRB
namespace Go.Proofs.Ytifinpijhbkhnaa
open Go.RowKit

/-- The names reached from some. -/
def reachL (m : Module) (roots : List ByteArray) : List ByteArray := roots.foldl (dfs m (m.funcs.length + 1)) []
def fromL (m : Module) (roots : List ByteArray) : List ByteArray := (onceL (namesM m)).filter fun s => hasN (reachL m roots) s

def tauR (c : Nat) : Nat → Nat := fun i => if i = 1000000 then 1 else if i = 1000001 then 0 else if i = 1000002 then 2 else c

theorem left_le (m : Module) (S : List ByteArray) : left m S < m.funcs.length + 1 := Nat.lt_succ_of_le (List.length_filter_le _ _)

set_option maxRecDepth 10000 in
theorem from_pure (m : Module) (hm : Small m) (roots : List ByteArray) (hr : roots.length ≤ 1048576) : APure Try.prog 32 [.agg (moduleC m), strsD roots] (strsD (fromL m roots)) := by
  refine apureG _ _ Try.func32 (by kernel_rfl) t_reach_From u_reach_From rfl rfl (fun _ => ?_)
  simp [c_reach_From, r_reach_From]
  refine loop_s (κ := Nat) (fun k => k ≤ roots.length) (fun k => roots.length - k) (fun k => [(sl 13, .int k), (sl 5, .ptr 1 0), (sl 6, .ptr 2 0), (sl 9, .d .top), (sl 10, .d .top)])
    (fun k => [(0, .map .string ((roots.take k).foldl (dfs m (m.funcs.length + 1)) []).length (mapN ((roots.take k).foldl (dfs m (m.funcs.length + 1)) []))), (1, .box [.mp 0]), (2, .box [.fn 57 [.ptr 1 0, .d (.cref (moduleC m) 0), .ptr 2 0]])]) 3 0 (srcs [(0, .id 2), (1, .id 3), (2, .id 5)]) (by simp) ?_ ?_
  · simp
    exact ⟨fun k _ => by cases k <;> rfl, DLe.refl _⟩
  rintro k hk
  simp
  refine ⟨fun hlt => ⟨hlt, ?_⟩, fun hge => ?_⟩
  · have hsucc : (roots.take (k + 1)).foldl (dfs m (m.funcs.length + 1)) [] = dfs m (m.funcs.length + 1) ((roots.take k).foldl (dfs m (m.funcs.length + 1)) []) roots[k] := by
      rw [List.take_succ_eq_append_getElem hlt, List.foldl_append]
      rfl
    obtain ⟨S, hS⟩ : ∃ S, (roots.take k).foldl (dfs m (m.funcs.length + 1)) [] = S := ⟨_, rfl⟩
    rw [hS] at hsucc
    simp only [hS]
    refine calle_k (reach_eff m hm (m.funcs.length + 1) S roots[k] (left_le m S)) (tauR _) rfl [.d (.str roots[k]), .ptr 1 0, .d (.cref (moduleC m) 0), .ptr 2 0] (by simp) (by simp) (by simp [hlt]) ?_ ?_ ?_ (by simp [LR, idsOk]) ?_
    · simp [gOf, LR, tauR]
    · simp [gOf, LR, tauR]
    · simp [gOf, LR, tauR]
    simp [LR, tauR]
    refine ⟨k + 1, by omega, by omega, srcs [(0, .id 0), (1, .id 1), (2, .id 2)], ?_⟩
    simp [SLeK, hsucc]
    exact DLe_int (wrap_succ (by omega))
  · rw [List.take_of_length_le hge]
    refine callv_k (ds := [.agg (moduleC m)]) _ _ rfl (by simp) rfl (names_own m hm.len) (fun _ _ => rfl) ?_
    simp
    refine calle_k (del_eff (reachL m roots) (onceL (namesM m))) (fun i => if i = 1000000 then 1 else if i = 1000001 then 0 else if i = 1000003 then 5 else _) rfl [.own 5 (onceL (namesM m)).length, .fn 61 [.ptr 1 0]] (by simp) (by simp) (by simp) ?_ ?_ ?_ (by simp [LD, LD', idsOk]) ?_
    · simp [gOf, LD]
    · simp [gOf, LD, reachL]
    · simp [gOf, LD]
    simp [LD, LD']
    exact DLe.refl _

end Go.Proofs.Ytifinpijhbkhnaa
