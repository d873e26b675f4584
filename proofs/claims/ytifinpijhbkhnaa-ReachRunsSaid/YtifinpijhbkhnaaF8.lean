/- Contracts by the evaluator: the program's layer 11: Deepest. -/
import Derived.Test.YtifinpijhbkhnaaF7
namespace Go.Proofs.Ytifinpijhbkhnaa
open Go.RowKit

/-- Functions, those that are called first. -/
def deepP (m : Module) (k : Nat) : List ByteArray × List ByteArray := ((fnames m).take k).foldl (vis m (m.funcs.length + 1)) ([], [])
def deepL (m : Module) : List ByteArray := (deepP m m.funcs.length).2

theorem deepP_succ {m : Module} {k : Nat} (hk : k < m.funcs.length) : deepP m (k + 1) = vis m (m.funcs.length + 1) (deepP m k) m.funcs[k].name := by
  unfold deepP
  rw [List.take_succ_eq_append_getElem (by simpa [fnames] using hk), List.foldl_append]
  simp [fnames]
theorem deepP_len (m : Module) (k : Nat) : (deepP m k).2.length + left m (deepP m k).1 ≤ m.funcs.length := by
  have h := vis_fold_len m (m.funcs.length + 1) ((fnames m).take k) ([], [])
  have h2 := left_le m []
  unfold deepP
  simp only [List.length_nil] at h
  omega

set_option maxRecDepth 10000 in
theorem deepest_pure (m : Module) (hm : Small m) : APure Try.prog 29 [.agg (moduleC m)] (strsD (deepL m)) := by
  refine apureG _ _ Try.func29 (by kernel_rfl) t_reach_Deepest u_reach_Deepest rfl rfl (fun _ => ?_)
  have hlm := hm.len
  simp [c_reach_Deepest, r_reach_Deepest]
  refine loop_s (κ := Nat) (fun k => k ≤ m.funcs.length) (fun k => m.funcs.length - k) (fun k => [(sl 13, .int k), (sl 3, .ptr 3 0), (sl 4, .ptr 1 0), (sl 5, .ptr 2 0), (sl 8, .d .top), (sl 9, .d .top)])
    (fun k => [(0, .map .string (deepP m k).1.length (mapN (deepP m k).1)), (1, .box [.mp 0]), (2, .box [.fn 53 [.d (.cref (moduleC m) 0), .ptr 1 0, .ptr 2 0, .ptr 3 0]]), (3, .box [.own 4 (deepP m k).2.length]), (4, .row 9 1 (deepP m k).2.length fun i => strC ((deepP m k).2[i]?.getD ⟨#[]⟩))]) 5 0
    (srcs [(0, .id 3), (1, .id 4), (2, .id 6), (3, .id 2), (4, .nil)]) (by simp) ?_ ?_
  · simp [deepP]
    exact ⟨fun k _ => by cases k <;> rfl, DLe.refl _⟩
  rintro k hk
  simp
  refine ⟨fun hlt => ⟨hlt, ?_⟩, fun hge => ?_⟩
  · have hsucc := deepP_succ hlt
    have hlen := deepP_len m k
    rw [getD_some hlt]
    obtain ⟨q, hq⟩ : ∃ q, deepP m k = q := ⟨_, rfl⟩
    rw [hq] at hsucc hlen
    simp only [hq]
    refine calle_k (vis_eff m hm (m.funcs.length + 1) q m.funcs[k].name (by omega) (by omega)) (fun i => if i = 1000000 then 1 else if i = 1000001 then 0 else if i = 1000002 then 2 else if i = 1000003 then 3 else if i = 1000004 then 4 else _) rfl
      [.d (.str m.funcs[k].name), .d (.cref (moduleC m) 0), .ptr 1 0, .ptr 2 0, .ptr 3 0] (by simp) (by simp) (by simp) ?_ ?_ ?_ (by simp [LV, idsOk]) ?_
    · simp [gOf, LV]
    · simp [gOf, LV]
    · simp [gOf, LV]
    simp [LV]
    refine ⟨k + 1, by omega, by omega, srcs [(0, .id 0), (1, .id 1), (2, .id 2), (3, .id 3), (4, .id 13)], ?_⟩
    simp [SLeK, hsucc]
    exact DLe_int (wrap_succ (by omega))
  · obtain rfl : k = m.funcs.length := by omega
    exact DLe.refl _

end Go.Proofs.Ytifinpijhbkhnaa
