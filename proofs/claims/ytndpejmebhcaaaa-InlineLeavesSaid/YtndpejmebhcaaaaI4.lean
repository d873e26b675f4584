/- Contracts by the evaluator: the statements of layer 14 on modules. -/
import Derived.Test.YtndpejmebhcaaaaI3
import Derived.Test.YtndpejmebhcaaaaID
import Derived.Test.YtndpejmebhcaaaaE19
import Derived.Test.YtndpejmebhcaaaaH2
namespace Go.Proofs.Ytndpejmebhcaaaa
open Go.RowKit

theorem inl_args {m : Module} (hm : ArgsOk m) (budget : Int) : ArgsOk (inlM m budget) := by
  by_cases hz : checkE m = 0
  · exact (small_ok (inl_ok (checkE_zero.1 hz) budget)).args
  · have e : inlM m budget = m := by unfold inlM; rw [if_neg hz]
    rw [e]; exact hm

set_option maxRecDepth 10000 in
theorem inlineNone_pure (m : Module) (hm : ArgsOk m) (budget : Int) : APure Try.prog 6 [.agg (moduleC m), .int budget] (.bool true) := by
  refine apureG _ _ Try.func6 (by kernel_rfl) t_marlinelaw14_InlineNone u_marlinelaw14_InlineNone rfl rfl (fun _ => ?_)
  simp [c_marlinelaw14_InlineNone, r_marlinelaw14_InlineNone]
  refine call_plain (ds := []) _ (by simp) (by simp) (fun _ => rfl) (fun _ => shown14_pure) ?_
  simp
  intro hb
  refine call_plain (ds := [.agg (moduleC m), .int budget]) _ (by simp) (by simp) (fun _ => by simp; rfl) (fun _ => moduleI_pure m hm budget) ?_
  simp
  rw [inl_none hb]
  refine call_plain (ds := [.agg (moduleC m), .agg (moduleC m)]) _ (by simp) (by simp) (fun _ => by simp; rfl) (fun _ => refSame_pure m m) ?_
  simp
  exact DLe_bool ((sameMod_iff m m).2 rfl)

set_option maxRecDepth 10000 in
theorem inlineRight_pure (m : Module) (hm : ArgsOk m) (budget : Int) : APure Try.prog 4 [.agg (moduleC m), .int budget] (.bool true) := by
  refine apureG _ _ Try.func4 (by kernel_rfl) t_marlinelaw14_InlineRight u_marlinelaw14_InlineRight rfl rfl (fun _ => ?_)
  simp [c_marlinelaw14_InlineRight, r_marlinelaw14_InlineRight]
  refine call_plain (ds := []) _ (by simp) (by simp) (fun _ => rfl) (fun _ => shown14_pure) ?_
  simp
  refine call_plain (ds := [.agg (moduleC m)]) _ (by simp) (by simp) (fun _ => by simp; rfl) (fun _ => refCheck_pure m hm) ?_
  simp
  intro hz
  refine call_plain (ds := [.agg (moduleC m), .int budget]) _ (by simp) (by simp) (fun _ => by simp; rfl) (fun _ => moduleI_pure m hm budget) ?_
  simp
  have hk := inl_args hm budget
  have h1 := checkE_zero.2 (inl_ok (checkE_zero.1 hz) budget)
  have h2 : wholeE m = 0 → wholeE (inlM m budget) = 0 := fun h => inl_whole h budget
  obtain ⟨k, hkk⟩ : ∃ k, inlM m budget = k := ⟨_, rfl⟩
  simp only [hkk] at hk h1 h2 ⊢
  refine call_plain (ds := [.agg (moduleC k)]) _ (by simp) (by simp) (fun _ => by simp; rfl) (fun _ => refCheck_pure k hk) ?_
  simp [h1]
  refine call_plain (ds := [.agg (moduleC m)]) _ (by simp) (by simp) (fun _ => by simp; rfl) (fun _ => whole_any m hm) ?_
  simp
  refine call_plain (ds := [.agg (moduleC k)]) _ (by simp) (by simp) (fun _ => by simp; rfl) (fun _ => whole_any k hk) ?_
  simp
  refine DLe_bool ?_
  by_cases h : wholeE m = 0
  · simp [h, h2 h]
  · simp [h]

set_option maxRecDepth 10000 in
theorem inlineRuns_pure (m : Module) (hm : ArgsOk m) (budget : Int) (inp : ByteArray) (fuel deep : Int) : APure Try.prog 5 [.agg (moduleC m ++ [.int budget, .str inp, .int fuel, .int deep])] (.bool true) := by
  refine apureG _ _ Try.func5 (by kernel_rfl) t_marlinelaw14_InlineRuns u_marlinelaw14_InlineRuns rfl rfl (fun _ => ?_)
  simp [c_marlinelaw14_InlineRuns, r_marlinelaw14_InlineRuns]
  refine call_plain (ds := []) _ (by simp) (by simp) (fun _ => rfl) (fun _ => shown14_pure) ?_
  simp
  refine call_plain (ds := [.agg (moduleC m)]) _ (by simp) (by simp) (fun _ => by simp; rfl) (fun _ => whole_any m hm) ?_
  simp
  intro hw h0 h1 h2 h3
  have hno : ¬ (fuel < 0 ∨ 100000 < fuel ∨ deep < 1 ∨ 64 < deep) := by omega
  refine call_plain (ds := [.agg (moduleC m), .str inp, .int fuel, .int deep]) _ (by simp) (by simp) (fun _ => by simp; rfl) (fun _ => run_pure m hm inp fuel deep) ?_
  simp
  have e1 : runA m inp fuel deep = runR m inp fuel.toNat deep.toNat := by unfold runA; rw [if_neg hno, if_neg (fun h => h hw)]
  rw [e1]
  intro hb
  refine call_plain (ds := [.agg (moduleC m), .int budget]) _ (by simp) (by simp) (fun _ => by simp; rfl) (fun _ => moduleI_pure m hm budget) ?_
  simp
  refine call_plain (ds := [.agg (moduleC (inlM m budget)), .str inp, .int fuel, .int deep]) _ (by simp) (by simp) (fun _ => by simp) (fun _ => run_pure (inlM m budget) (inl_args hm budget) inp fuel deep) ?_
  simp
  have e2 : runA (inlM m budget) inp fuel deep = runR (inlM m budget) inp fuel.toNat deep.toNat := by unfold runA; rw [if_neg hno, if_neg (fun h => h (inl_whole hw budget))]
  obtain ⟨a1, a2, a3, a4, a5, a6, a7⟩ := inl_runs hw budget inp fuel.toNat deep.toNat hb
  rw [e2, a1, a2, a3, a4, a5]
  refine DLe_bool ?_
  simp
  omega

set_option maxRecDepth 10000 in
theorem inlineLeaves_pure (m : Module) (hm : ArgsOk m) (budget : Int) : APure Try.prog 7 [.agg (moduleC m), .int budget] (.bool true) := by
  refine apureG _ _ Try.func7 (by kernel_rfl) t_marlinelaw14_InlineLeaves u_marlinelaw14_InlineLeaves rfl rfl (fun hx => ?_)
  simp [c_marlinelaw14_InlineLeaves, r_marlinelaw14_InlineLeaves]
  refine call_plain (ds := []) _ (by simp) (by simp) (fun _ => rfl) (fun _ => shown14_pure) ?_
  simp
  refine call_plain (ds := [.agg (moduleC m), .int budget]) _ (by simp) (by simp) (fun _ => by simp; rfl) (fun _ => moduleI_pure m hm budget) ?_
  simp
  have hlen : (inlM m budget).funcs.length = m.funcs.length := by
    unfold inlM
    split <;> simp
  refine ⟨fun h => absurd hlen (by omega), fun _ => ?_⟩
  refine call_plain (ds := [.agg (moduleC m)]) _ (by simp) (by simp) (fun _ => by simp; rfl) (fun _ => refCheck_pure m hm) ?_
  simp
  intro hz
  have hok := checkE_zero.1 hz
  have hnf := hok.nf
  have e : (inlM m budget).funcs = m.funcs.map (inlF m budget) := by unfold inlM; rw [if_pos hz]
  refine loop_s (κ := Nat) (fun i => i ≤ m.funcs.length) (fun i => m.funcs.length - i) (fun i => [(sl 7, .int i)]) (fun _ => []) 0 0 (srcs []) (by simp) (by simp) ?_
  intro i hi
  simp
  intro hlt
  have hki : (inlM m budget).funcs[i]?.getD default = inlF m budget m.funcs[i] := by rw [e]; simp [hlt]
  simp only [getD_some hlt, hki]
  obtain ⟨f, hf⟩ : ∃ f, m.funcs[i] = f := ⟨_, rfl⟩
  simp only [hf] at hki ⊢
  refine ⟨by omega, hlt, ?_⟩
  refine call_plain (ds := [.agg (funcC (inlF m budget f)), .agg (funcC f)]) _ (by simp) (by simp) (fun _ => by simp) (fun _ => refSameFunc_pure _ _) ?_
  simp
  simp only [getD_some hlt, hf, hki]
  refine ⟨hlt, ?_⟩
  refine call_plain (ds := [.agg (funcC f), .int budget]) _ (by simp) (by simp) (fun _ => by simp) (fun _ => leaf_pure f budget) ?_
  simp
  simp only [getD_some hlt, hf]
  refine ⟨fun h h' => absurd (inlF_leaf h) h', fun hL => ?_⟩
  simp only [hki]
  have hb : (inlF m budget f).blocks.length = f.blocks.length := by simp [inlF]
  have hn : (inlF m budget f).name = f.name := rfl
  refine ⟨by omega, hlt, fun h => ⟨h, by omega⟩, fun h => ⟨h, hlt⟩, fun h => ?_, fun _ _ => ?_⟩
  · rcases h with h | h
    · omega
    · exact absurd hn h
  · refine ⟨i + 1, by omega, by omega, srcs [], ?_⟩
    simp [SLeK]
    exact DLe_int (wrap_succ (by omega))

set_option maxRecDepth 10000 in
theorem inlineMakes_pure (m : Module) (hm : ArgsOk m) (budget : Int) : APure Try.prog 3 [.agg (moduleC m), .int budget] (.bool true) := by
  refine apureG _ _ Try.func3 (by kernel_rfl) t_marlinelaw14_InlineMakes u_marlinelaw14_InlineMakes rfl rfl (fun hx => ?_)
  have hlen := lenAgg hx 0 rfl
  clear hx
  simp [c_marlinelaw14_InlineMakes, r_marlinelaw14_InlineMakes]
  refine call_plain (ds := []) _ (by simp) (by simp) (fun _ => rfl) (fun _ => shown14_pure) ?_
  simp
  refine loop_s (κ := Nat) (fun i => i ≤ m.funcs.length) (fun i => m.funcs.length - i) (fun i => [(sl 6, .int i)]) (fun _ => []) 0 0 (srcs []) (by simp) (by simp) ?_
  intro i hi
  simp
  refine call_plain (ds := [.agg (moduleC m)]) _ (by simp) (by simp) (fun _ => by simp; rfl) (fun _ => refCheck_pure m hm) ?_
  simp
  refine ⟨fun hlt hz => ⟨hlt, ?_⟩, fun hend => ?_⟩
  · have hok := checkE_zero.1 hz
    rw [getD_some hlt]
    obtain ⟨f, hf⟩ : ∃ f, m.funcs[i] = f := ⟨_, rfl⟩
    have hfm : f ∈ m.funcs := by rw [← hf]; exact List.getElem_mem hlt
    have hfo := hok.funcs f hfm
    simp only [hf]
    refine call_plain (ds := [.agg (funcC f), .int budget]) _ (by simp) (by simp) (fun _ => by simp) (fun _ => leaf_pure f budget) ?_
    simp
    simp only [getD_some hlt, hf]
    refine ⟨hlt, ?_⟩
    refine call_plain (ds := [.agg (funcC f), .int budget]) _ (by simp) (by simp) (fun _ => by simp) (fun _ => refLeaf_pure f budget (fun c hc => by have := (blockOk_iff.1 (List.all_eq_true.1 (funcOk_all hfo) c hc)).2.2.1; omega)) ?_
    simp
    refine ⟨i + 1, by omega, by omega, srcs [], ?_⟩
    simp [SLeK]
    exact DLe_int (wrap_succ (by omega))
  · clear hend hi
    refine call_plain (ds := [.agg (moduleC m)]) _ (by simp) (by simp) (fun _ => by simp; rfl) (fun _ => refCheck_pure m hm) ?_
    simp
    refine loop_s (κ := Nat) (fun i => i ≤ m.funcs.length) (fun i => m.funcs.length - i) (fun i => [(sl 8, .int i)]) (fun _ => []) 0 0 (srcs []) (by simp) (by simp) ?_
    intro i hi
    simp
    refine ⟨fun hlt => ?_, fun hge => ?_⟩
    · obtain ⟨f, hf⟩ : ∃ f, m.funcs[i] = f := ⟨_, rfl⟩
      have hfm : f ∈ m.funcs := by rw [← hf]; exact List.getElem_mem hlt
      refine loop_s (κ := Nat) (fun k => k ≤ f.blocks.length) (fun k => f.blocks.length - k) (fun k => [(sl 9, .int k)]) (fun _ => []) 0 0 (srcs []) (by simp) (by simp) ?_
      intro k hk
      simp
      simp only [getD_some hlt, hf]
      refine ⟨hlt, fun hkl hz => ⟨hlt, hkl, ?_⟩, fun hend => ?_⟩
      · have hok := checkE_zero.1 hz
        have hfo := hok.funcs f hfm
        have hbl := funcOk_len hfo
        have hbo : blockOk f f.blocks[k] = true := funcOk_block hfo hkl
        rw [getD_some hkl]
        obtain ⟨b, hb⟩ : ∃ b, f.blocks[k] = b := ⟨_, rfl⟩
        simp only [hb] at hbo ⊢
        refine call_plain (ds := [.agg (blockC b), .agg (moduleC m), .int budget]) _ (by simp) (by simp) (fun _ => by simp; rfl) (fun _ => blockI_pure m hok budget f hfo b hbo) ?_
        simp
        simp only [getD_some hlt, hf, getD_some hkl, hb]
        refine ⟨hlt, hkl, ?_⟩
        refine call_plain (ds := [.agg (blockC b), .agg (moduleC m), .int budget]) _ (by simp) (by simp) (fun _ => by simp; rfl) (fun _ => refBlockI_pure m hok budget f hfo b hbo) ?_
        simp
        refine call_plain (ds := [.agg (blockC (inlB m budget b)), .agg (blockC (inlB m budget b))]) _ (by simp) (by simp) (fun _ => by simp) (fun _ => sameBlock_pure _ _) ?_
        simp
        rw [(sameBlock_iff _ _).2 rfl]
        refine ⟨fun h => (by cases h), fun _ => ⟨k + 1, by omega, by omega, srcs [], ?_⟩⟩
        simp [SLeK]
        exact DLe_int (wrap_succ (by omega))
      · refine ⟨i + 1, by omega, by omega, srcs [], ?_⟩
        simp [SLeK]
        exact DLe_int (wrap_succ (by omega))
    · refine call_plain (ds := [.agg (moduleC m), .int budget]) _ (by simp) (by simp) (fun _ => by simp; rfl) (fun _ => moduleI_pure m hm budget) ?_
      simp
      refine call_plain (ds := [.agg (moduleC m), .int budget]) _ (by simp) (by simp) (fun _ => by simp; rfl) (fun _ => refModuleI_pure m hm budget) ?_
      simp
      refine call_plain (ds := [.agg (moduleC (inlM m budget)), .agg (moduleC (inlM m budget))]) _ (by simp) (by simp) (fun _ => by simp) (fun _ => refSame_pure _ _) ?_
      simp
      exact DLe_bool ((sameMod_iff _ _).2 rfl)

end Go.Proofs.Ytndpejmebhcaaaa
