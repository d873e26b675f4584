/- Contracts by the evaluator: the program's layer 11, names, roots, calls. -/
import Derived.Test.YtifinpijhbkhnaaF1
import Derived.Test.YtifinpijhbkhnaaLD
namespace Go.Proofs.Ytifinpijhbkhnaa
open Go.RowKit

set_option maxRecDepth 10000 in
theorem names_own (m : Module) (hl : m.funcs.length + m.globs.length ≤ 1048576) : AOwn Try.prog 60 [.agg (moduleC m)] 9 1 (onceL (namesM m)).length (fun i => strC ((onceL (namesM m))[i]?.getD ⟨#[]⟩)) := by
  refine aownG _ _ Try.func60 (by kernel_rfl) t_reach_names u_reach_names rfl rfl (fun _ => ?_)
  simp [c_reach_names, r_reach_names]
  refine loop_s (κ := Nat) (fun k => k ≤ m.funcs.length) (fun k => m.funcs.length - k) (fun k => [(sl 11, .int k), (sl 3, .own 0 (fnT m k).length)]) (fun k => [(0, .row 9 1 (fnT m k).length fun i => strC ((fnT m k)[i]?.getD ⟨#[]⟩))]) 1 0 (srcs [(0, .nil)]) (by simp) (by simp) ?_
  rintro k hk
  simp
  refine ⟨fun hlt => ⟨hlt, ?_⟩, fun hge => ?_⟩
  · have hlm := fnT_length m k
    refine ⟨by omega, k + 1, by omega, by omega, srcs [(0, .id 10)], ?_⟩
    simp [SLeK, fnT_succ hlt, getD_some hlt]
    exact ⟨DLe_int (wrap_succ (by omega)), fun i hi => appRow_str hi⟩
  rw [fnT_all hge]
  refine loop_s (κ := Nat) (fun k => k ≤ m.globs.length) (fun k => m.globs.length - k) (fun k => [(sl 24, .int k), (sl 3, .own 0 (gnT m k).length)]) (fun k => [(0, .row 9 1 (gnT m k).length fun i => strC ((gnT m k)[i]?.getD ⟨#[]⟩))]) 1 0 (srcs [(0, .id 0)]) (by simp) (by simp) ?_
  rintro j hj
  simp
  refine ⟨fun hlt => ⟨hlt, ?_⟩, fun hge => ?_⟩
  · have hlm := gnT_length m j
    refine ⟨by omega, j + 1, by omega, by omega, srcs [(0, .id 10)], ?_⟩
    simp [SLeK, gnT_succ hlt, getD_some hlt]
    exact ⟨DLe_int (wrap_succ (by omega)), fun i hi => appRow_str hi⟩
  · rw [gnT_all hge]
    have hn := namesM_length m
    refine callo_k (ds := [strsD (namesM m)]) _ _ (by simp) (by simp) (by simp) (once_own (namesM m) (by omega)) ?_
    simp

/-- The names that stay. -/
def rootF (f : Func) : Bool := decide (f.bind = 2) || decide (f.name = ⟨#[109, 97, 105, 110]⟩)
def rootG (g : Glob) : Bool := g.bind == 2
def rootsL (m : Module) : List ByteArray := (m.funcs.filter rootF).map (·.name) ++ (m.globs.filter rootG).map (·.name)
def rfT (m : Module) (k : Nat) : List ByteArray := ((m.funcs.take k).filter rootF).map (·.name)
def rgT (m : Module) (k : Nat) : List ByteArray := (m.funcs.filter rootF).map (·.name) ++ ((m.globs.take k).filter rootG).map (·.name)
@[simp] theorem rfT_zero (m : Module) : rfT m 0 = [] := rfl
theorem rfT_succ {m : Module} {k : Nat} (hk : k < m.funcs.length) : rfT m (k + 1) = if rootF m.funcs[k] = true then rfT m k ++ [m.funcs[k].name] else rfT m k := by
  unfold rfT
  rw [List.take_succ_eq_append_getElem hk, List.filter_append]
  cases h : rootF m.funcs[k] <;> simp [h]
theorem rfT_all {m : Module} {k : Nat} (hk : m.funcs.length ≤ k) : rfT m k = rgT m 0 := by
  unfold rfT rgT
  rw [List.take_of_length_le hk]
  simp
theorem rfT_length (m : Module) (k : Nat) : (rfT m k).length ≤ k := by
  unfold rfT
  rw [List.length_map]
  have := List.length_filter_le rootF (m.funcs.take k)
  simp at this
  omega
theorem rgT_succ {m : Module} {k : Nat} (hk : k < m.globs.length) : rgT m (k + 1) = if rootG m.globs[k] = true then rgT m k ++ [m.globs[k].name] else rgT m k := by
  unfold rgT
  rw [List.take_succ_eq_append_getElem hk, List.filter_append]
  cases h : rootG m.globs[k] <;> simp [h]
theorem rgT_all {m : Module} {k : Nat} (hk : m.globs.length ≤ k) : rgT m k = rootsL m := by
  unfold rgT rootsL
  rw [List.take_of_length_le hk]
theorem rgT_length (m : Module) (k : Nat) : (rgT m k).length ≤ m.funcs.length + k := by
  unfold rgT
  rw [List.length_append, List.length_map, List.length_map]
  have h1 := List.length_filter_le rootF m.funcs
  have h2 := List.length_filter_le rootG (m.globs.take k)
  simp at h2
  omega

set_option maxRecDepth 10000 in
theorem roots_pure (m : Module) (hl : m.funcs.length + m.globs.length ≤ 1048576) : APure Try.prog 23 [.agg (moduleC m)] (strsD (rootsL m)) := by
  refine apureG _ _ Try.func23 (by kernel_rfl) t_reach_Roots u_reach_Roots rfl rfl (fun _ => ?_)
  simp [c_reach_Roots, r_reach_Roots]
  refine loop_s (κ := Nat) (fun k => k ≤ m.funcs.length) (fun k => m.funcs.length - k) (fun k => [(sl 11, .int k), (sl 3, .own 0 (rfT m k).length)]) (fun k => [(0, .row 9 1 (rfT m k).length fun i => strC ((rfT m k)[i]?.getD ⟨#[]⟩))]) 1 0 (srcs [(0, .nil)]) (by simp) (by simp) ?_
  rintro k hk
  simp
  refine ⟨fun hlt => ⟨hlt, ?_⟩, fun hge => ?_⟩
  · have hlm := rfT_length m k
    have hs := rfT_succ hlt
    rw [getD_some hlt]
    refine ⟨fun h => ?_, fun h1 h2 => ?_⟩
    · have hr : rootF m.funcs[k] = true := by simpa [rootF] using h
      rw [if_pos hr] at hs
      refine ⟨by omega, k + 1, by omega, by omega, srcs [(0, .id 18)], ?_⟩
      simp [SLeK, hs]
      exact ⟨DLe_int (wrap_succ (by omega)), fun i hi => appRow_str hi⟩
    · have hr : ¬ rootF m.funcs[k] = true := by simp [rootF, h1, h2]
      rw [if_neg hr] at hs
      refine ⟨k + 1, by omega, by omega, srcs [(0, .id 0)], ?_⟩
      simp [SLeK, hs]
      exact DLe_int (wrap_succ (by omega))
  rw [rfT_all hge]
  refine loop_s (κ := Nat) (fun k => k ≤ m.globs.length) (fun k => m.globs.length - k) (fun k => [(sl 32, .int k), (sl 3, .own 0 (rgT m k).length)]) (fun k => [(0, .row 9 1 (rgT m k).length fun i => strC ((rgT m k)[i]?.getD ⟨#[]⟩))]) 1 0 (srcs [(0, .id 0)]) (by simp) (by simp) ?_
  rintro j hj
  simp
  refine ⟨fun hlt => ⟨hlt, ?_⟩, fun hge => ?_⟩
  · have hlm := rgT_length m j
    have hs := rgT_succ hlt
    rw [getD_some hlt]
    refine ⟨fun h => ?_, fun h1 => ?_⟩
    · have hr : rootG m.globs[j] = true := by simp [rootG, h]
      rw [if_pos hr] at hs
      refine ⟨by omega, j + 1, by omega, by omega, srcs [(0, .id 13)], ?_⟩
      simp [SLeK, hs]
      exact ⟨DLe_int (wrap_succ (by omega)), fun i hi => appRow_str hi⟩
    · have hr : ¬ rootG m.globs[j] = true := by simp [rootG, h1]
      rw [if_neg hr] at hs
      refine ⟨j + 1, by omega, by omega, srcs [(0, .id 0)], ?_⟩
      simp [SLeK, hs]
      exact DLe_int (wrap_succ (by omega))
  · rw [rgT_all hge]
    exact DLe.refl _

theorem few_pure (m : Module) (hl : m.funcs.length + m.globs.length ≤ 1048576) : APure Try.prog 22 [.agg (moduleC m)] (.bool (decide (m.funcs.length + m.globs.length ≤ 40))) := by
  refine apureG _ _ Try.func22 (by kernel_rfl) t_marlinelaw11_few u_marlinelaw11_few rfl rfl (fun _ => ?_)
  simp [c_marlinelaw11_few, r_marlinelaw11_few]
  rw [wrap_in (by omega)]
  exact DLe_bool (by rw [Bool.eq_iff_iff]; simp; omega)

end Go.Proofs.Ytifinpijhbkhnaa
