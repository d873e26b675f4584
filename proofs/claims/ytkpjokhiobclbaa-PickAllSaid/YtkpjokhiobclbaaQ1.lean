/- Contracts by the evaluator: layer 8, the names that a module defines and wants. -/
import Derived.Test.YtkpjokhiobclbaaPA
import Derived.Test.YtkpjokhiobclbaaPB
namespace Go.Proofs.Ytkpjokhiobclbaa
open Go.RowKit

set_option maxRecDepth 10000 in
theorem namedF_own (xs : List Func) (hl : xs.length ≤ 8796093022207) (F : FuncId) (caps : List DV) (p : Func → Bool) (hF : ∀ f ∈ xs, APure Try.prog F (.agg (funcC f) :: caps) (.tup [.str f.name, .bool (p f)])) :
    AOwn Try.prog 29 [funcsD xs, .fn F caps] 9 1 (namesF p xs).length (fun i => strC ((namesF p xs)[i]?.getD ⟨#[]⟩)) := by
  refine aownG _ _ Try.func29 (by kernel_rfl) t_pick_named_api_Func_ u_pick_named_api_Func_ rfl rfl (fun _ => ?_)
  simp [c_pick_named_api_Func_, r_pick_named_api_Func_]
  refine loop_s (κ := Nat) (fun k => k ≤ xs.length) (fun k => xs.length - k) (fun k => [(sl 12, .int k), (sl 5, .own 0 (namesF p (xs.take k)).length)])
    (fun k => [(0, .row 9 1 (namesF p (xs.take k)).length fun i => strC ((namesF p (xs.take k))[i]?.getD ⟨#[]⟩))]) 1 0 (srcs [(0, .nil)]) (by simp) (by simp) ?_
  rintro k hk
  simp
  refine ⟨fun hlt => ⟨hlt, ?_⟩, fun hge => ?_⟩
  · rw [getD_some hlt]
    have hlen := namesF_take p xs k
    have hsucc := namesF_succ (p := p) hlt
    refine call_plain _ (by simp) (by simp) (fun _ => by simp; rfl) (fun _ => hF _ (List.getElem_mem hlt)) ?_
    simp
    refine ⟨fun h => ?_, fun h => ?_⟩
    · rw [if_pos h] at hsucc
      refine ⟨by omega, k + 1, by omega, by omega, srcs [(0, .id 18)], ?_⟩
      simp [SLeK, hsucc]
      exact ⟨DLe_int (wrap_succ (by omega)), fun i hi => appRow_str hi⟩
    · rw [if_neg (by simp [h])] at hsucc
      refine ⟨k + 1, by omega, by omega, srcs [(0, .id 0)], ?_⟩
      simp [SLeK, hsucc]
      exact DLe_int (wrap_succ (by omega))
  · rw [List.take_of_length_le hge]
    simp

set_option maxRecDepth 10000 in
theorem namedG_own (xs : List Glob) (hl : xs.length ≤ 8796093022207) (F : FuncId) (caps : List DV) (p : Glob → Bool) (hF : ∀ f ∈ xs, APure Try.prog F (.agg (globC f) :: caps) (.tup [.str f.name, .bool (p f)])) :
    AOwn Try.prog 31 [globsD xs, .fn F caps] 9 1 (namesG p xs).length (fun i => strC ((namesG p xs)[i]?.getD ⟨#[]⟩)) := by
  refine aownG _ _ Try.func31 (by kernel_rfl) t_pick_named_api_Glob_ u_pick_named_api_Glob_ rfl rfl (fun _ => ?_)
  simp [c_pick_named_api_Glob_, r_pick_named_api_Glob_]
  refine loop_s (κ := Nat) (fun k => k ≤ xs.length) (fun k => xs.length - k) (fun k => [(sl 12, .int k), (sl 5, .own 0 (namesG p (xs.take k)).length)])
    (fun k => [(0, .row 9 1 (namesG p (xs.take k)).length fun i => strC ((namesG p (xs.take k))[i]?.getD ⟨#[]⟩))]) 1 0 (srcs [(0, .nil)]) (by simp) (by simp) ?_
  rintro k hk
  simp
  refine ⟨fun hlt => ⟨hlt, ?_⟩, fun hge => ?_⟩
  · rw [getD_some hlt]
    have hlen := namesG_take p xs k
    have hsucc := namesG_succ (p := p) hlt
    refine call_plain _ (by simp) (by simp) (fun _ => by simp; rfl) (fun _ => hF _ (List.getElem_mem hlt)) ?_
    simp
    refine ⟨fun h => ?_, fun h => ?_⟩
    · rw [if_pos h] at hsucc
      refine ⟨by omega, k + 1, by omega, by omega, srcs [(0, .id 18)], ?_⟩
      simp [SLeK, hsucc]
      exact ⟨DLe_int (wrap_succ (by omega)), fun i hi => appRow_str hi⟩
    · rw [if_neg (by simp [h])] at hsucc
      refine ⟨k + 1, by omega, by omega, srcs [(0, .id 0)], ?_⟩
      simp [SLeK, hsucc]
      exact DLe_int (wrap_succ (by omega))
  · rw [List.take_of_length_le hge]
    simp

theorem defines1_pure (f : Func) : APure Try.prog 30 [.agg (funcC f)] (.tup [.str f.name, .bool (defF f)]) := by
  refine apureG _ _ Try.func30 (by kernel_rfl) t_pick_Defines_1 u_pick_Defines_1 rfl rfl (fun _ => ?_)
  simp [c_pick_Defines_1, r_pick_Defines_1, defF]
theorem defines2_pure (f : Glob) : APure Try.prog 32 [.agg (globC f)] (.tup [.str f.name, .bool (defG f)]) := by
  refine apureG _ _ Try.func32 (by kernel_rfl) t_pick_Defines_2 u_pick_Defines_2 rfl rfl (fun _ => ?_)
  simp [c_pick_Defines_2, r_pick_Defines_2, defG]
theorem wants1_pure (f : Func) : APure Try.prog 33 [.agg (funcC f)] (.tup [.str f.name, .bool (wantF f)]) := by
  refine apureG _ _ Try.func33 (by kernel_rfl) t_pick_Wants_1 u_pick_Wants_1 rfl rfl (fun _ => ?_)
  simp [c_pick_Wants_1, r_pick_Wants_1, wantF]
theorem wants2_pure (f : Glob) : APure Try.prog 34 [.agg (globC f)] (.tup [.str f.name, .bool (wantG f)]) := by
  refine apureG _ _ Try.func34 (by kernel_rfl) t_pick_Wants_2 u_pick_Wants_2 rfl rfl (fun _ => ?_)
  simp [c_pick_Wants_2, r_pick_Wants_2, wantG]

theorem defines_own (m : Module) (hl : m.funcs.length + m.globs.length ≤ 8796093022207) : AOwn Try.prog 15 [.agg (moduleC m)] 9 1 (definesM m).length (fun i => strC ((definesM m)[i]?.getD ⟨#[]⟩)) := by
  refine aownG _ _ Try.func15 (by kernel_rfl) t_pick_Defines u_pick_Defines rfl rfl (fun _ => ?_)
  simp [c_pick_Defines, r_pick_Defines]
  refine callo_k (ds := [funcsD m.funcs, .fn 30 []]) _ _ (by simp) (by simp) (by simp) (namedF_own m.funcs (by omega) _ _ _ fun f _ => defines1_pure f) ?_
  simp
  refine call_plain (ds := [globsD m.globs, .fn 32 []]) _ (by simp) (by simp) (fun _ => by simp) (fun _ => (namedG_own m.globs (by omega) _ _ _ fun f _ => defines2_pure f).pure) ?_
  have h1 := namesF_length defF m.funcs
  have h2 := namesG_length defG m.globs
  simp
  exact ⟨by omega, by simp [definesM], fun i hi => appRow_strs' (by simpa [definesM] using hi)⟩

theorem wants_own (m : Module) (hl : m.funcs.length + m.globs.length ≤ 8796093022207) : AOwn Try.prog 17 [.agg (moduleC m)] 9 1 (wantsM m).length (fun i => strC ((wantsM m)[i]?.getD ⟨#[]⟩)) := by
  refine aownG _ _ Try.func17 (by kernel_rfl) t_pick_Wants u_pick_Wants rfl rfl (fun _ => ?_)
  simp [c_pick_Wants, r_pick_Wants]
  refine callo_k (ds := [funcsD m.funcs, .fn 33 []]) _ _ (by simp) (by simp) (by simp) (namedF_own m.funcs (by omega) _ _ _ fun f _ => wants1_pure f) ?_
  simp
  refine call_plain (ds := [globsD m.globs, .fn 34 []]) _ (by simp) (by simp) (fun _ => by simp) (fun _ => (namedG_own m.globs (by omega) _ _ _ fun f _ => wants2_pure f).pure) ?_
  have h1 := namesF_length wantF m.funcs
  have h2 := namesG_length wantG m.globs
  simp
  exact ⟨by omega, by simp [wantsM], fun i hi => appRow_strs' (by simpa [wantsM] using hi)⟩

theorem defines_pure (m : Module) (hl : m.funcs.length + m.globs.length ≤ 8796093022207) : APure Try.prog 15 [.agg (moduleC m)] (strsD (definesM m)) := (defines_own m hl).pure
theorem wants_pure (m : Module) (hl : m.funcs.length + m.globs.length ≤ 8796093022207) : APure Try.prog 17 [.agg (moduleC m)] (strsD (wantsM m)) := (wants_own m hl).pure

end Go.Proofs.Ytkpjokhiobclbaa
