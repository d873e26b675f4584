/- Contracts by the evaluator: layer 14: modules. -/
import Derived.Test.YtndpejmebhcaaaaI2
import Derived.Test.YtndpejmebhcaaaaIC
import Derived.Test.YtndpejmebhcaaaaIE
namespace Go.Proofs.Ytndpejmebhcaaaa
open Go.RowKit

theorem AOwnV.nilSplit {P : Program} {F : FuncId} {n len : Nat} {row : Nat → List DV} {as' : List DV} {te : TypeId} {m l : Nat} {r : Nat → List DV} (h0 : len = 0 → AOwnV P F (.lit (.slice none 0 0) :: as') te m l r) (h1 : AOwnV P F (.sn n len row :: as') te m l r) : AOwnV P F (.sl n len row :: as') te m l r := by
  refine ⟨h1.1, fun X w vs hX hvs => ?_⟩
  obtain ⟨v, vs', he, hv, hr⟩ := hvs.uncons
  by_cases hn : v = .slice none 0 0
  · have hl : len = 0 := by
      subst hn
      cases hv
      rfl
    subst hn
    exact (h0 hl).2 X w vs hX (by rw [he]; exact DReps.cons (.lit _) hr)
  · exact h1.2 X w vs hX (by rw [he]; exact DReps.cons (.sn v _ _ _ hv hn) hr)

set_option maxRecDepth 10000 in
theorem cloneF_own (fs : List Func) (hl : fs.length ≤ 1000000) : AOwnV Try.prog 53 [funcsD fs] 31 4 fs.length (fun i => funcC (fs[i]?.getD default)) := by
  refine AOwnV.nilSplit (fun h0 => ?_) ?_
  · refine aownVG _ _ Try.func53 (by kernel_rfl) t_slices_Clone___api_Func_api_Func_ u_slices_Clone___api_Func_api_Func_ rfl rfl (fun _ => ?_)
    simp [c_slices_Clone___api_Func_api_Func_, r_slices_Clone___api_Func_api_Func_]
    exact List.length_eq_zero_iff.1 h0
  · refine aownVG _ _ Try.func53 (by kernel_rfl) t_slices_Clone___api_Func_api_Func_ u_slices_Clone___api_Func_api_Func_ rfl rfl (fun _ => ?_)
    simp [c_slices_Clone___api_Func_api_Func_, r_slices_Clone___api_Func_api_Func_]
    omega

/-- The functions, the first i of them done. -/
def stepF (m : Module) (budget : Int) (i : Nat) : List Func := (m.funcs.take i).map (inlF m budget) ++ m.funcs.drop i

theorem stepF_at {m : Module} {budget : Int} {i : Nat} (hi : i < m.funcs.length) : (stepF m budget i)[i]? = some m.funcs[i] := by
  unfold stepF
  rw [List.getElem?_append_right (by simp; omega)]
  simp only [List.length_map, List.length_take, List.getElem?_drop]
  rw [show i + (i - min i m.funcs.length) = i by omega, List.getElem?_eq_getElem hi]
theorem stepF_next {m : Module} {budget : Int} {i : Nat} (hi : i < m.funcs.length) (j : Nat) : (stepF m budget (i + 1))[j]? = if j = i then some (inlF m budget m.funcs[i]) else (stepF m budget i)[j]? := by
  unfold stepF
  by_cases h : j = i
  · subst h
    rw [if_pos rfl, List.getElem?_append_left (by simp; omega)]
    simp [hi]
  · rw [if_neg h]
    by_cases h1 : j < i
    · rw [List.getElem?_append_left (by simp; omega), List.getElem?_append_left (by simp; omega)]
      simp [h1, show j < i + 1 by omega]
    · rw [List.getElem?_append_right (by simp; omega), List.getElem?_append_right (by simp; omega)]
      simp only [List.length_map, List.length_take, List.getElem?_drop]
      congr 1
      omega
theorem stepF_all {m : Module} {budget : Int} {i : Nat} (hi : m.funcs.length ≤ i) : stepF m budget i = m.funcs.map (inlF m budget) := by
  unfold stepF
  rw [List.take_of_length_le hi, List.drop_eq_nil_of_le hi, List.append_nil]

set_option maxRecDepth 10000 in
set_option maxHeartbeats 1000000 in
theorem moduleI_pure (m : Module) (hm : ∀ f ∈ m.funcs, ∀ b ∈ f.blocks, ∀ i ∈ b.ins, i.args.length ≤ 17592186044416) (budget : Int) : APure Try.prog 26 [.agg (moduleC m), .int budget] (.agg (moduleC (inlM m budget))) := by
  refine apureG _ _ Try.func26 (by kernel_rfl) t_inline_Module u_inline_Module rfl rfl (fun _ => ?_)
  simp [c_inline_Module, r_inline_Module]
  refine call_plain (ds := [.agg (moduleC m)]) _ (by simp) (by simp) (fun _ => by simp; rfl) (fun _ => check_pure m hm) ?_
  simp
  refine ⟨fun hz => ?_, fun hz => ?_⟩
  · have e : inlM m budget = m := by unfold inlM; rw [if_neg hz]
    rw [e]
    exact DLe.refl _
  have hok := checkE_zero.1 hz
  have hnf := hok.nf
  refine callvv_k m.funcs.length _ (by simp) (by simp) (by simp) (cloneF_own m.funcs (by omega)) ?_
  simp
  refine loop_s (κ := Nat) (fun i => i ≤ m.funcs.length) (fun i => m.funcs.length - i) (fun i => [(sl 22, .int i)])
    (fun i => [(10, .vec 31 4 m.funcs.length fun j => (funcC ((stepF m budget i)[j]?.getD default)).map .d), (6, .box [.own 10 m.funcs.length, .d (globsD m.globs)]), (1, .box [.d (.lit (.slice none 0 0)), .d (.lit (.slice none 0 0))])]) 11 0 (srcs [(10, .id 10), (6, .id 6), (1, .id 1)]) (by simp) (by simp [stepF]) ?_
  intro i hi
  simp
  refine ⟨fun hlt => ?_, fun hge => ?_⟩
  · refine ⟨hlt, ?_⟩
    rw [getD_some hlt]
    obtain ⟨f, hf⟩ : ∃ f, m.funcs[i] = f := ⟨_, rfl⟩
    have hsi : (stepF m budget i)[i]?.getD default = f := by rw [stepF_at hlt, hf]; rfl
    have hfm : f ∈ m.funcs := by rw [← hf]; exact List.getElem_mem hlt
    have hfo := hok.funcs f hfm
    have hbl := funcOk_len hfo
    simp only [hf, hsi]
    obtain ⟨bs, hbs⟩ : ∃ bs, f.blocks.map (inlB m budget) = bs := ⟨_, rfl⟩
    have hbsl : bs.length = f.blocks.length := by rw [← hbs]; simp
    refine loop_s (κ := Nat) (fun k => k ≤ f.blocks.length) (fun k => f.blocks.length - k) (fun k => [(sl 35, .int k)])
      (fun k => [(0, .row 38 8 k fun j => blockC (bs[j]?.getD default)), (10, .vec 31 4 m.funcs.length (updR (fun j => (funcC ((stepF m budget i)[j]?.getD default)).map .d) i [.d (.str f.name), .d (.int f.bind), .d (.int f.params), .own 0 k])), (6, .box [.own 10 m.funcs.length, .d (globsD m.globs)]), (1, .box [.d (.lit (.slice none 0 0)), .d (.lit (.slice none 0 0))])]) 11 0 (srcs [(0, .nil), (10, .id 10), (6, .id 6), (1, .id 1)]) (by simp) ?_ ?_
    · simp
      intro j hj
      split <;> simp
    intro k hk
    simp
    refine ⟨fun hkl => ?_, fun hge => ?_⟩
    · refine ⟨hkl, ?_⟩
      rw [getD_some hkl]
      have hbo : blockOk f f.blocks[k] = true := funcOk_block hfo hkl
      refine ⟨hlt, ?_⟩
      refine call_plain (ds := [.agg (blockC f.blocks[k]), .agg (moduleC m), .int budget]) _ (by simp) (by simp) (fun _ => by simp; exact ⟨rfl, rfl⟩) (fun _ => blockI_pure m hok budget f hfo _ hbo) ?_
      simp
      refine ⟨by omega, hlt, k + 1, by omega, by omega, srcs [(0, .id 30), (10, .id 10), (6, .id 6), (1, .id 1)], ?_⟩
      simp [SLeK]
      refine ⟨DLe_int (wrap_succ (by omega)), fun j hj => ?_, fun j hj => ?_⟩
      · unfold appRow
        split
        · rfl
        · obtain rfl : j = k := by omega
          rw [← hbs]
          simp [hkl, blockC]
      · split <;> simp
    · obtain rfl : k = f.blocks.length := by omega
      refine ⟨i + 1, by omega, by omega, srcs [(10, .id 10), (6, .id 6), (1, .id 1)], ?_⟩
      simp [SLeK]
      refine ⟨DLe_int (wrap_succ (by omega)), fun j hj => ?_⟩
      rw [stepF_next hlt]
      by_cases hji : j = i
      · rw [if_pos hji, if_pos hji]
        simp [inlF, hf]
        rw [hbs, ← hbsl]
        exact DLe.refl _
      · rw [if_neg hji, if_neg hji]
        simp
  · rw [stepF_all hge]
    have e : inlM m budget = { m with funcs := m.funcs.map (inlF m budget) } := by unfold inlM; rw [if_pos hz]
    rw [e]
    refine DLe.of_eq ?_
    simp [moduleC, funcsD]
    rfl

set_option maxRecDepth 10000 in
set_option maxHeartbeats 1000000 in
theorem refModuleI_pure (m : Module) (hm : ∀ f ∈ m.funcs, ∀ b ∈ f.blocks, ∀ i ∈ b.ins, i.args.length ≤ 17592186044416) (budget : Int) : APure Try.prog 27 [.agg (moduleC m), .int budget] (.agg (moduleC (inlM m budget))) := by
  refine apureG _ _ Try.func27 (by kernel_rfl) t_marlineref14_Module u_marlineref14_Module rfl rfl (fun _ => ?_)
  simp [c_marlineref14_Module, r_marlineref14_Module]
  refine call_plain (ds := [.agg (moduleC m)]) _ (by simp) (by simp) (fun _ => by simp; rfl) (fun _ => refCheck_pure m hm) ?_
  simp
  refine ⟨fun hz => ?_, fun hz => ?_⟩
  · have e : inlM m budget = m := by unfold inlM; rw [if_neg hz]
    rw [e]
    exact DLe.refl _
  have hok := checkE_zero.1 hz
  have hnf := hok.nf
  obtain ⟨fs, hfs⟩ : ∃ fs, m.funcs.map (inlF m budget) = fs := ⟨_, rfl⟩
  have hfl : fs.length = m.funcs.length := by rw [← hfs]; simp
  refine loop_s (κ := Nat) (fun i => i ≤ m.funcs.length) (fun i => m.funcs.length - i) (fun i => [(sl 6, .int i)])
    (fun i => [(0, .row 31 4 i fun j => funcC (fs[j]?.getD default)), (8, .box [.own 0 i, .d (globsD m.globs)]), (1, .box [.d (.lit (.slice none 0 0)), .d (.lit (.slice none 0 0))])]) 11 0 (srcs [(0, .nil), (8, .id 8), (1, .id 1)]) (by simp) (by simp) ?_
  intro i hi
  simp
  refine ⟨fun hlt => ?_, fun hge => ?_⟩
  rotate_left
  · obtain rfl : i = m.funcs.length := by omega
    have e : inlM m budget = { m with funcs := fs } := by unfold inlM; rw [if_pos hz, hfs]
    rw [e]
    refine DLe.of_eq ?_
    simp [moduleC, funcsD, hfl]
  refine ⟨hlt, ?_⟩
  rw [getD_some hlt]
  obtain ⟨f, hf⟩ : ∃ f, m.funcs[i] = f := ⟨_, rfl⟩
  have hfm : f ∈ m.funcs := by rw [← hf]; exact List.getElem_mem hlt
  have hfo := hok.funcs f hfm
  have hbl := funcOk_len hfo
  simp only [hf]
  obtain ⟨bs, hbs⟩ : ∃ bs, f.blocks.map (inlB m budget) = bs := ⟨_, rfl⟩
  have hbsl : bs.length = f.blocks.length := by rw [← hbs]; simp
  have hfi : fs[i]?.getD default = { f with blocks := bs } := by rw [← hfs, ← hbs]; simp [hlt, hf, inlF]
  refine loop_s (κ := Nat) (fun k => k ≤ f.blocks.length) (fun k => f.blocks.length - k) (fun k => [(sl 9, .int k)])
    (fun k => [(2, .row 38 8 k fun j => blockC (bs[j]?.getD default)), (30, .box [.d (.str f.name), .d (.int f.bind), .d (.int f.params), .own 2 k]), (0, .row 31 4 i fun j => funcC (fs[j]?.getD default)), (8, .box [.own 0 i, .d (globsD m.globs)]), (1, .box [.d (.lit (.slice none 0 0)), .d (.lit (.slice none 0 0))])])
    31 0 (srcs [(2, .nil), (30, .id 30), (0, .id 0), (8, .id 8), (1, .id 1)]) (by simp) (by simp) ?_
  intro k hk
  simp
  refine ⟨fun hkl => ?_, fun hge => ?_⟩
  · refine ⟨hkl, ?_⟩
    rw [getD_some hkl]
    have hbo : blockOk f f.blocks[k] = true := funcOk_block hfo hkl
    refine call_plain (ds := [.agg (blockC f.blocks[k]), .agg (moduleC m), .int budget]) _ (by simp) (by simp) (fun _ => by simp; rfl) (fun _ => refBlockI_pure m hok budget f hfo _ hbo) ?_
    simp
    refine ⟨by omega, k + 1, by omega, by omega, srcs [(2, .id 47), (30, .id 30), (0, .id 0), (8, .id 8), (1, .id 1)], ?_⟩
    simp [SLeK]
    refine ⟨DLe_int (wrap_succ (by omega)), fun j hj => ?_⟩
    unfold appRow
    split
    · rfl
    · obtain rfl : j = k := by omega
      rw [← hbs]
      simp [hkl, blockC]
  · obtain rfl : k = f.blocks.length := by omega
    refine ⟨by omega, i + 1, by omega, by omega, srcs [(0, .id 40), (8, .id 8), (1, .id 1)], ?_⟩
    simp [SLeK]
    refine ⟨DLe_int (wrap_succ (by omega)), fun j hj => ?_⟩
    unfold appRow
    split
    · rfl
    · obtain rfl : j = i := by omega
      rw [hfi]
      simp [funcC, blocksD, hbsl]

end Go.Proofs.Ytndpejmebhcaaaa
