/- Contracts by the evaluator: layer 14: small functions, blocks. -/
import Derived.Test.YtndpejmebhcaaaaP5
import Derived.Test.YtndpejmebhcaaaaC8
import Derived.Test.YtndpejmebhcaaaaIB
import Derived.Test.YtndpejmebhcaaaaIF
namespace Go.Proofs.Ytndpejmebhcaaaa
open Go.RowKit

set_option maxRecDepth 10000 in
theorem leaf1_pure (x : Inst) : APure Try.prog 46 [.agg (instC x)] (.bool (decide (x.op = 14))) := by
  refine apureG _ _ Try.func46 (by kernel_rfl) t_inline_Leaf_1 u_inline_Leaf_1 rfl rfl (fun _ => ?_)
  simp [c_inline_Leaf_1, r_inline_Leaf_1]

set_option maxRecDepth 10000 in
theorem leafn1_pure (s : ByteArray) (f : Func) : APure Try.prog 77 [.agg (funcC f), .cref [.str s] 0] (.bool (decide (f.name = s))) := by
  refine apureG _ _ Try.func77 (by kernel_rfl) t_inline_leaf_1 u_inline_leaf_1 rfl rfl (fun _ => ?_)
  simp [c_inline_leaf_1, r_inline_leaf_1]

theorem indexIn_pure (xs : List Inst) (F : FuncId) (caps : List DV) (p : Inst → Bool) (hF : ∀ v ∈ xs, APure Try.prog F (.agg (instC v) :: caps) (.bool (p v))) : APure Try.prog 75 [insD xs, .fn F caps] (.int (findI p xs)) := by
  refine apureG _ _ Try.func75 (by kernel_rfl) t_slices_IndexFunc___api_Inst_api_Inst_ u_slices_IndexFunc___api_Inst_api_Inst_ rfl rfl (fun hx => len1 hx fun hl => ?_)
  clear hx
  simp [c_slices_IndexFunc___api_Inst_api_Inst_, r_slices_IndexFunc___api_Inst_api_Inst_]
  refine loop_s (κ := Nat) (fun k => k ≤ xs.length ∧ ∀ i (h : i < xs.length), i < k → p xs[i] = false) (fun k => xs.length - k) (fun k => [(sl 8, .int k)]) (fun _ => []) 0 0 (srcs []) (by simp) (by simp) ?_
  rintro k ⟨hk, hb⟩
  simp
  refine ⟨fun hlt => ⟨hlt, ?_⟩, fun hge => ?_⟩
  · rw [getD_some hlt]
    refine call_plain _ (by simp) (by simp) (fun _ => by simp) (fun _ => hF _ (List.getElem_mem hlt)) ?_
    simp
    refine ⟨fun h => DLe_int (findI_hit hlt hb h).symm, fun h => ?_⟩
    refine ⟨k + 1, ⟨by omega, fun i hi h1 => ?_⟩, by omega, srcs [], ?_⟩
    · rcases Nat.lt_or_ge i k with h2 | h2
      · exact hb i hi h2
      · obtain rfl : i = k := by omega
        exact h
    · simp [SLeK]
      exact DLe_int (wrap_succ (by omega))
  · exact DLe_int (findI_miss fun i hi => hb i hi (by omega)).symm

theorem containsIn_pure (xs : List Inst) (F : FuncId) (caps : List DV) (p : Inst → Bool) (hF : ∀ v ∈ xs, APure Try.prog F (.agg (instC v) :: caps) (.bool (p v))) : APure Try.prog 47 [insD xs, .fn F caps] (.bool (xs.any p)) := by
  refine apureG _ _ Try.func47 (by kernel_rfl) t_slices_ContainsFunc___api_Inst_api_Inst_ u_slices_ContainsFunc___api_Inst_api_Inst_ rfl rfl (fun _ => ?_)
  simp [c_slices_ContainsFunc___api_Inst_api_Inst_, r_slices_ContainsFunc___api_Inst_api_Inst_]
  refine call_plain _ (by simp) (by simp) (fun _ => rfl) (fun _ => indexIn_pure xs F caps p hF) ?_
  simp
  exact DLe_bool (findI_ge p xs)

set_option maxRecDepth 10000 in
theorem refLeaf_pure (f : Func) (budget : Int) (h32 : ∀ b ∈ f.blocks, b.ins.length ≤ 1000000) : APure Try.prog 21 [.agg (funcC f), .int budget] (.bool (leafB f budget)) := by
  refine apureG _ _ Try.func21 (by kernel_rfl) t_marlineref14_Leaf u_marlineref14_Leaf rfl rfl (fun _ => ?_)
  simp [c_marlineref14_Leaf, r_marlineref14_Leaf]
  obtain ⟨b, hb⟩ : ∃ b, f.blocks[0]?.getD default = b := ⟨_, rfl⟩
  simp only [hb]
  have hone : (f.blocks.length : Int) = 1 → f.blocks = [b] := fun h => by
    cases hf : f.blocks with
    | nil => rw [hf] at h; simp at h
    | cons c r =>
      rw [hf] at h hb
      cases r with
      | nil => simp at hb; rw [hb]
      | cons d r => simp at h; omega
  have hbl : (f.blocks.length : Int) = 1 → b.ins.length ≤ 1000000 := fun h => h32 b (by rw [hone h]; simp)
  refine ⟨fun h => ⟨h, by omega⟩, fun h h3 => ⟨⟨h, h3⟩, by omega⟩, fun h => DLe_bool ?_, fun h1 h3 hle => ?_⟩
  · symm
    rw [← Bool.not_eq_true, leafB_iff]
    rintro ⟨c, k1, k2, k3, _⟩
    rw [k1] at hb h
    simp at hb h
    subst hb
    rcases h with h | h
    · exact h k2
    · omega
  refine loop_s (κ := Nat) (fun k => k ≤ b.ins.length ∧ ∀ i ∈ b.ins.take k, ¬ i.op = 14) (fun k => b.ins.length - k) (fun k => [(sl 5, .int k)]) (fun _ => []) 0 0 (srcs []) (by simp) (by simp) ?_
  rintro k ⟨hk, hb2⟩
  simp
  simp only [hb]
  refine ⟨by omega, fun hlt => ⟨by omega, hlt, ?_⟩, fun hge => ?_⟩
  · rw [getD_some hlt]
    refine ⟨fun h => DLe_bool ?_, fun h => ⟨k + 1, ⟨by omega, fun i hi => ?_⟩, by omega, srcs [], ?_⟩⟩
    · symm
      rw [← Bool.not_eq_true, leafB_iff]
      rintro ⟨c, k1, _, _, k4⟩
      have := hone h1
      rw [this] at k1
      injection k1 with k1
      subst k1
      exact k4 _ (List.getElem_mem hlt) h
    · rw [List.take_succ_eq_append_getElem hlt] at hi
      rcases List.mem_append.1 hi with hi | hi
      · exact hb2 i hi
      · rw [List.mem_singleton.1 hi]; exact h
    · simp [SLeK]
      exact DLe_int (wrap_succ (by have := hbl h1; omega))
  · rw [List.take_of_length_le hge] at hb2
    exact DLe_bool (leafB_iff.2 ⟨b, hone h1, h3, hle, hb2⟩).symm

set_option maxRecDepth 10000 in
theorem leaf_pure (f : Func) (budget : Int) : APure Try.prog 20 [.agg (funcC f), .int budget] (.bool (leafB f budget)) := by
  refine apureG _ _ Try.func20 (by kernel_rfl) t_inline_Leaf u_inline_Leaf rfl rfl (fun _ => ?_)
  simp [c_inline_Leaf, r_inline_Leaf]
  obtain ⟨b, hb⟩ : ∃ b, f.blocks[0]?.getD default = b := ⟨_, rfl⟩
  simp only [hb]
  have hone : (f.blocks.length : Int) = 1 → f.blocks = [b] := fun h => by
    cases hf : f.blocks with
    | nil => rw [hf] at h; simp at h
    | cons c r =>
      rw [hf] at h hb
      cases r with
      | nil => simp at hb; rw [hb]
      | cons d r => simp at h; omega
  refine ⟨fun h => DLe_bool ?_, fun h1 => ⟨by omega, ?_⟩⟩
  · symm
    rw [← Bool.not_eq_true, leafB_iff]
    rintro ⟨c, k1, _⟩
    rw [k1] at h
    simp at h
  refine call_plain (ds := [insD b.ins, .fn 46 []]) _ (by simp) (by simp) (fun _ => rfl) (fun _ => containsIn_pure b.ins _ [] (fun x => decide (x.op = 14)) (fun x _ => leaf1_pure x)) ?_
  simp
  refine DLe_bool ?_
  unfold leafB
  rw [hone h1]

theorem noBlock : DLe (.agg [.int 0, .lit (.slice none 0 0), .int 0, .int 0, .int 0, .lit (.slice none 0 0), .int 0, .lit (.slice none 0 0)]) (.agg (blockC default)) :=
  DLe_agg ⟨DLe.refl _, DLe_nil, DLe.refl _, DLe.refl _, DLe.refl _, DLe_nil, DLe.refl _, DLe_nil, trivial⟩
theorem noLeaf : DLe (.tup [.agg [.int 0, .lit (.slice none 0 0), .int 0, .int 0, .int 0, .lit (.slice none 0 0), .int 0, .lit (.slice none 0 0)], .bool false]) (.tup [.agg (blockC default), .bool false]) :=
  DLe_tup ⟨noBlock, DLe.refl _, trivial⟩

set_option maxRecDepth 10000 in
theorem leafI_pure (m : Module) (s : ByteArray) (budget : Int) : APure Try.prog 50 [.agg (moduleC m), .str s, .int budget] (.tup [.agg (blockC ((leafL m budget s).getD default)), .bool (leafL m budget s).isSome]) := by
  refine apureG _ _ Try.func50 (by kernel_rfl) t_inline_leaf u_inline_leaf rfl rfl (fun _ => ?_)
  simp [c_inline_leaf, r_inline_leaf]
  refine call_plain (ds := [funcsD m.funcs, .fn 77 [.cref [.str s] 0]]) _ (by simp) (by simp) (fun _ => rfl) (fun _ => indexF_pure m.funcs _ _ (fun f => decide (f.name = s)) (fun f _ => leafn1_pure s f)) ?_
  simp
  obtain ⟨k, hk, h1, h2⟩ | ⟨h1, h2⟩ := leads_eq m s
  · rw [h1]
    refine ⟨fun _ => by omega, ?_⟩
    simp only [Int.toNat_natCast, getD_some hk]
    obtain ⟨f, hf⟩ : ∃ f, m.funcs[k] = f := ⟨_, rfl⟩
    have hL : leafL m budget s = if leafB f budget = true then f.blocks[0]? else none := by unfold leafL; rw [h2, hf]
    simp only [hf]
    refine call_plain (ds := [.agg (funcC f), .int budget]) _ (by simp) (by simp) (fun _ => by simp) (fun _ => leaf_pure f budget) ?_
    simp
    simp only [getD_some hk, hf]
    refine ⟨fun h => ?_, fun h => ?_⟩
    · have hz : leafB f budget = false := by
        rcases h with h | h
        · omega
        · exact h
      rw [hL, hz]
      exact noLeaf
    · obtain ⟨b, hb, _⟩ := leafB_iff.1 h
      rw [hL, if_pos h, hb]
      exact ⟨hk, by simp, DLe.refl _⟩
  · rw [h1]
    have hL : leafL m budget s = none := by unfold leafL; rw [h2]
    refine ⟨fun h => by omega, ?_⟩
    refine call_plain (F := 0) (ds := []) (.bool false) (by simp) (by simp) (fun h => by simp at h) (fun h => by simp at h) ?_
    simp
    rw [hL]
    trace_state
    exact noLeaf

end Go.Proofs.Ytndpejmebhcaaaa
