/- Contracts by the evaluator: layer 8, the document's names. -/
import Derived.Test.YtkpjokhiobclbaaQ1
namespace Go.Proofs.Ytkpjokhiobclbaa
open Go.RowKit

/-- The names so far, among the globals. -/
def dgT (m : Module) (k : Nat) : List ByteArray := namesF defF m.funcs ++ namesG defG (m.globs.take k)
def wgT (m : Module) (k : Nat) : List ByteArray := namesF wantF m.funcs ++ namesG wantG (m.globs.take k)
@[simp] theorem dgT_zero (m : Module) : dgT m 0 = namesF defF m.funcs := by simp [dgT]
@[simp] theorem wgT_zero (m : Module) : wgT m 0 = namesF wantF m.funcs := by simp [wgT]
theorem dgT_length (m : Module) (k : Nat) : (dgT m k).length ≤ m.funcs.length + k := by
  have h1 := namesF_length defF m.funcs
  have h2 := namesG_take defG m.globs k
  simp [dgT]; omega
theorem wgT_length (m : Module) (k : Nat) : (wgT m k).length ≤ m.funcs.length + k := by
  have h1 := namesF_length wantF m.funcs
  have h2 := namesG_take wantG m.globs k
  simp [wgT]; omega
theorem dgT_succ {m : Module} {k : Nat} (hk : k < m.globs.length) : dgT m (k + 1) = if defG m.globs[k] = true then dgT m k ++ [m.globs[k].name] else dgT m k := by
  unfold dgT
  rw [namesG_succ hk]
  split <;> simp
theorem wgT_succ {m : Module} {k : Nat} (hk : k < m.globs.length) : wgT m (k + 1) = if wantG m.globs[k] = true then wgT m k ++ [m.globs[k].name] else wgT m k := by
  unfold wgT
  rw [namesG_succ hk]
  split <;> simp
theorem dgT_all {m : Module} {k : Nat} (h : m.globs.length ≤ k) : dgT m k = definesM m := by
  unfold dgT definesM
  rw [List.take_of_length_le h]
theorem wgT_all {m : Module} {k : Nat} (h : m.globs.length ≤ k) : wgT m k = wantsM m := by
  unfold wgT wantsM
  rw [List.take_of_length_le h]

set_option maxRecDepth 10000 in
theorem refDefines_pure (m : Module) (hl : m.funcs.length + m.globs.length ≤ 8796093022207) : APure Try.prog 16 [.agg (moduleC m)] (strsD (definesM m)) := by
  refine apureG _ _ Try.func16 (by kernel_rfl) t_marlineref08_Defines u_marlineref08_Defines rfl rfl (fun _ => ?_)
  simp [c_marlineref08_Defines, r_marlineref08_Defines]
  refine loop_s (κ := Nat) (fun k => k ≤ m.funcs.length) (fun k => m.funcs.length - k) (fun k => [(sl 4, .int k), (sl 3, .own 0 (namesF defF (m.funcs.take k)).length)])
    (fun k => [(0, .row 9 1 (namesF defF (m.funcs.take k)).length fun i => strC ((namesF defF (m.funcs.take k))[i]?.getD ⟨#[]⟩))]) 1 0 (srcs [(0, .nil)]) (by simp) (by simp) ?_
  rintro k hk
  simp
  refine ⟨fun hlt => ?_, fun hge => ?_⟩
  · have hlen := namesF_take defF m.funcs k
    have hsucc := namesF_succ (p := defF) hlt
    have hat : m.funcs[k]?.getD default = m.funcs[k] := getD_some hlt
    simp only [hat]
    refine ⟨hlt, fun h => ⟨h, hlt⟩, fun h h' => ?_, fun h => ?_⟩
    · rw [if_pos (by simp [defF, h, h'])] at hsucc
      refine ⟨hlt, by omega, k + 1, by omega, by omega, srcs [(0, .id 31)], ?_⟩
      simp [SLeK, hsucc]
      exact ⟨DLe_int (wrap_succ (by omega)), fun i hi => appRow_str hi⟩
    · rw [if_neg (by simp [defF]; exact h)] at hsucc
      refine ⟨k + 1, by omega, by omega, srcs [(0, .id 0)], ?_⟩
      simp [SLeK, hsucc]
      exact DLe_int (wrap_succ (by omega))
  rw [List.take_of_length_le hge]
  refine loop_s (κ := Nat) (fun k => k ≤ m.globs.length) (fun k => m.globs.length - k) (fun k => [(sl 5, .int k), (sl 3, .own 0 (dgT m k).length)])
    (fun k => [(0, .row 9 1 (dgT m k).length fun i => strC ((dgT m k)[i]?.getD ⟨#[]⟩))]) 1 0 (srcs [(0, .id 0)]) (by simp) (by simp) ?_
  rintro k hk
  simp
  refine ⟨fun hlt => ?_, fun hge => ?_⟩
  · have hlen := dgT_length m k
    have hsucc := dgT_succ hlt
    have hat : m.globs[k]?.getD default = m.globs[k] := getD_some hlt
    simp only [hat]
    refine ⟨hlt, fun h => ⟨h, hlt⟩, fun h h' => ?_, fun h => ?_⟩
    · rw [if_pos (by simp [defG, h, h'])] at hsucc
      refine ⟨hlt, by omega, k + 1, by omega, by omega, srcs [(0, .id 29)], ?_⟩
      simp [SLeK, hsucc]
      exact ⟨DLe_int (wrap_succ (by omega)), fun i hi => appRow_str hi⟩
    · rw [if_neg (by simp [defG]; exact h)] at hsucc
      refine ⟨k + 1, by omega, by omega, srcs [(0, .id 0)], ?_⟩
      simp [SLeK, hsucc]
      exact DLe_int (wrap_succ (by omega))
  · rw [dgT_all hge]
    simp

set_option maxRecDepth 10000 in
theorem refWants_pure (m : Module) (hl : m.funcs.length + m.globs.length ≤ 8796093022207) : APure Try.prog 18 [.agg (moduleC m)] (strsD (wantsM m)) := by
  refine apureG _ _ Try.func18 (by kernel_rfl) t_marlineref08_Wants u_marlineref08_Wants rfl rfl (fun _ => ?_)
  simp [c_marlineref08_Wants, r_marlineref08_Wants]
  refine loop_s (κ := Nat) (fun k => k ≤ m.funcs.length) (fun k => m.funcs.length - k) (fun k => [(sl 4, .int k), (sl 3, .own 0 (namesF wantF (m.funcs.take k)).length)])
    (fun k => [(0, .row 9 1 (namesF wantF (m.funcs.take k)).length fun i => strC ((namesF wantF (m.funcs.take k))[i]?.getD ⟨#[]⟩))]) 1 0 (srcs [(0, .nil)]) (by simp) (by simp) ?_
  rintro k hk
  simp
  refine ⟨fun hlt => ?_, fun hge => ?_⟩
  · have hlen := namesF_take wantF m.funcs k
    have hsucc := namesF_succ (p := wantF) hlt
    have hat : m.funcs[k]?.getD default = m.funcs[k] := getD_some hlt
    simp only [hat]
    refine ⟨hlt, fun h => ⟨h, hlt⟩, fun h h' => ?_, fun h => ?_⟩
    · rw [if_pos (by simp [wantF, h, h'])] at hsucc
      refine ⟨hlt, by omega, k + 1, by omega, by omega, srcs [(0, .id 31)], ?_⟩
      simp [SLeK, hsucc]
      exact ⟨DLe_int (wrap_succ (by omega)), fun i hi => appRow_str hi⟩
    · rw [if_neg (by simp [wantF]; exact h)] at hsucc
      refine ⟨k + 1, by omega, by omega, srcs [(0, .id 0)], ?_⟩
      simp [SLeK, hsucc]
      exact DLe_int (wrap_succ (by omega))
  rw [List.take_of_length_le hge]
  refine loop_s (κ := Nat) (fun k => k ≤ m.globs.length) (fun k => m.globs.length - k) (fun k => [(sl 5, .int k), (sl 3, .own 0 (wgT m k).length)])
    (fun k => [(0, .row 9 1 (wgT m k).length fun i => strC ((wgT m k)[i]?.getD ⟨#[]⟩))]) 1 0 (srcs [(0, .id 0)]) (by simp) (by simp) ?_
  rintro k hk
  simp
  refine ⟨fun hlt => ?_, fun hge => ?_⟩
  · have hlen := wgT_length m k
    have hsucc := wgT_succ hlt
    have hat : m.globs[k]?.getD default = m.globs[k] := getD_some hlt
    simp only [hat]
    refine ⟨hlt, fun h => ⟨h, hlt⟩, fun h h' => ?_, fun h => ?_⟩
    · rw [if_pos (by simp [wantG, h, h'])] at hsucc
      refine ⟨hlt, by omega, k + 1, by omega, by omega, srcs [(0, .id 30)], ?_⟩
      simp [SLeK, hsucc]
      exact ⟨DLe_int (wrap_succ (by omega)), fun i hi => appRow_str hi⟩
    · rw [if_neg (by simp [wantG]; exact h)] at hsucc
      refine ⟨k + 1, by omega, by omega, srcs [(0, .id 0)], ?_⟩
      simp [SLeK, hsucc]
      exact DLe_int (wrap_succ (by omega))
  · rw [wgT_all hge]
    simp

end Go.Proofs.Ytkpjokhiobclbaa
