/- Contracts by the evaluator: the program's layer 5, functions and globals. -/
import Derived.Test.YtghlfjpmpalpdaaE2
namespace Go.Proofs.Ytghlfjpmpalpdaa
open Go.RowKit

theorem func1_pure (f : Func) (b : Block) (hi : ∀ i ∈ b.ins, i.args.length ≤ 17592186044416) : APure Try.prog 44 [.agg (blockC b), .cref (funcC f) 0] (.bool (!blockOk f b)) := by
  refine apureG _ _ Try.func44 (by kernel_rfl) t_ir_Func_1 u_ir_Func_1 rfl rfl (fun _ => ?_)
  simp [c_ir_Func_1, r_ir_Func_1]
  refine call_plain _ (by simp) (by simp) (fun _ => rfl) (fun _ => block_pure f b hi) ?_
  simp

theorem indexBlock_pure (xs : List Block) (F : FuncId) (caps : List DV) (p : Block → Bool) (hF : ∀ v ∈ xs, APure Try.prog F (.agg (blockC v) :: caps) (.bool (p v))) : APure Try.prog 65 [blocksD xs, .fn F caps] (.int (findI p xs)) := by
  refine apureG _ _ Try.func65 (by kernel_rfl) t_slices_IndexFunc___api_Block_api_Block_ u_slices_IndexFunc___api_Block_api_Block_ rfl rfl (fun hx => len1 hx fun hl => ?_)
  clear hx
  simp [c_slices_IndexFunc___api_Block_api_Block_, r_slices_IndexFunc___api_Block_api_Block_]
  refine loop_s (κ := Nat) (fun k => k ≤ xs.length ∧ ∀ i (h : i < xs.length), i < k → p xs[i] = false) (fun k => xs.length - k) (fun k => [(sl 8, .int k)]) (fun _ => []) 0 0 (fun _ => .none) (by simp) (by simp) ?_
  rintro k ⟨hk, hb⟩
  simp
  refine ⟨fun hlt => ⟨hlt, ?_⟩, fun hge => ?_⟩
  · rw [getD_some hlt]
    refine call_plain _ (by simp) (by simp) (fun _ => by simp) (fun _ => hF _ (List.getElem_mem hlt)) ?_
    simp
    refine ⟨fun h => DLe_int (findI_hit hlt hb h).symm, fun h => ?_⟩
    refine ⟨k + 1, ⟨by omega, fun i hi h1 => ?_⟩, by omega, fun _ => .none, ?_⟩
    · rcases Nat.lt_or_ge i k with h2 | h2
      · exact hb i hi h2
      · obtain rfl : i = k := by omega
        exact h
    · simp [SLeK]
      exact DLe_int (wrap_succ (by omega))
  · exact DLe_int (findI_miss fun i hi => hb i hi (by omega)).symm

theorem containsBlock_pure (xs : List Block) (F : FuncId) (caps : List DV) (p : Block → Bool) (hF : ∀ v ∈ xs, APure Try.prog F (.agg (blockC v) :: caps) (.bool (p v))) : APure Try.prog 43 [blocksD xs, .fn F caps] (.bool (xs.any p)) := by
  refine apureG _ _ Try.func43 (by kernel_rfl) t_slices_ContainsFunc___api_Block_api_Block_ u_slices_ContainsFunc___api_Block_api_Block_ rfl rfl (fun _ => ?_)
  simp [c_slices_ContainsFunc___api_Block_api_Block_, r_slices_ContainsFunc___api_Block_api_Block_]
  refine call_plain _ (by simp) (by simp) (fun _ => rfl) (fun _ => indexBlock_pure xs F caps p hF) ?_
  simp
  exact DLe_bool (findI_ge p xs)

set_option maxRecDepth 10000 in
theorem func_pure (f : Func) (hi : ∀ b ∈ f.blocks, ∀ i ∈ b.ins, i.args.length ≤ 17592186044416) : APure Try.prog 21 [.agg (funcC f)] (.bool (funcOk f)) := by
  refine apureG _ _ Try.func21 (by kernel_rfl) t_ir_Func u_ir_Func rfl rfl (fun _ => ?_)
  simp [c_ir_Func, r_ir_Func]
  refine call_plain _ (by simp) (by simp) (fun _ => rfl) (fun _ => name_pure f.name) ?_
  simp
  refine ⟨fun h => DLe_bool ?_, fun a1 a2 a3 a4 a5 a6 => ⟨fun h => DLe_bool ?_, fun h => ⟨List.length_pos_iff.2 h, ?_⟩⟩⟩
  · symm
    rcases h with ((((h | h) | h) | h) | h) | h
    · exact funcOk_name h
    · exact funcOk_b1 h
    · exact funcOk_b3 h
    · exact funcOk_p0 h
    · exact funcOk_p6 h
    · exact funcOk_n (by omega)
  · rw [funcOk_nil a1 a2 a3 a4 a5 (by simp [h])]
    rw [Bool.eq_iff_iff]; simp
  have hl := List.length_pos_iff.2 h
  have hf := funcOk_cons a1 a2 a3 a4 a5 (by omega) hl
  refine call_plain _ (by simp) (by simp) (fun _ => by simp; rfl) (fun _ => containsBlock_pure f.blocks _ _ _ (fun b hb => func1_pure f b (hi b hb))) ?_
  simp
  refine DLe_bool ?_
  rw [hf, getD_some hl]
  congr 1
  rw [Bool.eq_iff_iff]
  simp

/-- Is a global right? -/
def globOk (g : Glob) : Bool := nameOk g.name && decide (1 ≤ g.bind) && decide (g.bind ≤ 3) && (g.here || (g.init == 0 && g.bind != 1))

set_option maxRecDepth 10000 in
theorem glob_pure (g : Glob) : APure Try.prog 46 [.agg (globC g)] (.bool (globOk g)) := by
  refine apureG _ _ Try.func46 (by kernel_rfl) t_ir_glob u_ir_glob rfl rfl (fun _ => ?_)
  simp [c_ir_glob, r_ir_glob]
  refine call_plain _ (by simp) (by simp) (fun _ => rfl) (fun _ => name_pure g.name) ?_
  simp
  refine ⟨fun h1 h2 h3 h4 => ⟨⟨⟨⟨h1, h2⟩, h3⟩, h4⟩, fun h5 => ⟨⟨⟨⟨h1, h2⟩, h3⟩, h4⟩, h5⟩⟩, fun h1 h2 h3 => ⟨⟨⟨h1, h2⟩, h3⟩, fun h4 => ⟨⟨⟨h1, h2⟩, h3⟩, h4⟩⟩, DLe_bool ?_⟩
  rw [Bool.eq_iff_iff]
  simp [globOk]

end Go.Proofs.Ytghlfjpmpalpdaa
