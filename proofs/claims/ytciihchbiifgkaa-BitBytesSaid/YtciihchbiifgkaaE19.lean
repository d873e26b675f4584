/- Contracts by the evaluator: the document's layer 5, are two functions, modules the same? -/
import Derived.Test.YtciihchbiifgkaaLB
import Derived.Test.YtciihchbiifgkaaLC
import Derived.Test.YtciihchbiifgkaaSam
namespace Go.Proofs.Ytciihchbiifgkaa
open Go.RowKit

set_option maxRecDepth 10000 in
theorem refSameFunc_pure (x y : Func) : APure Try.prog 29 [.agg (funcC x), .agg (funcC y)] (.bool (x == y)) := by
  refine apureG _ _ Try.func29 (by kernel_rfl) t_marlineref05_SameFunc u_marlineref05_SameFunc rfl rfl (fun hx => ?_)
  have hl := lenAgg hx 3 rfl
  clear hx
  simp [c_marlineref05_SameFunc, r_marlineref05_SameFunc]
  refine ⟨fun h => DLe_bool ?_, fun e1 e2 e3 e4 => ?_⟩
  · symm
    rw [beq_eq_false_iff_ne]
    rintro rfl
    simp at h
  have hlen : x.blocks.length = y.blocks.length := by omega
  refine loop_s (κ := Nat) (fun k => k ≤ x.blocks.length ∧ ∀ j (h : j < x.blocks.length) (h' : j < y.blocks.length), j < k → (x.blocks[j] == y.blocks[j]) = true) (fun k => x.blocks.length - k) (fun k => [(sl 5, .int k)]) (fun _ => []) 0 0 (srcs []) (by simp) (by simp) ?_
  rintro k ⟨hk, hb⟩
  simp
  refine ⟨fun hlt => ⟨hlt, by omega, ?_⟩, fun hge => DLe_bool ?_⟩
  · have hlt' : k < y.blocks.length := by omega
    rw [getD_some hlt, getD_some hlt']
    refine call_plain (ds := [.agg (blockC x.blocks[k]), .agg (blockC y.blocks[k])]) _ (by simp) (by simp) (fun _ => rfl) (fun _ => sameBlock_pure x.blocks[k] y.blocks[k]) ?_
    simp
    refine ⟨fun h => DLe_bool ?_, fun h => ⟨k + 1, ⟨by omega, fun j hj hj' hjk => ?_⟩, by omega, srcs [], ?_⟩⟩
    · symm
      rw [beq_eq_false_iff_ne]
      rintro rfl
      have := (sameBlock_iff x.blocks[k] x.blocks[k]).2 rfl
      rw [this] at h
      cases h
    · rcases Nat.lt_or_ge j k with h1 | h1
      · simpa using hb j hj hj' h1
      · obtain rfl : j = k := by omega
        simpa using (sameBlock_iff _ _).1 h
    · simp [SLeK]
      exact DLe_int (wrap_succ (by omega))
  · symm
    show sameFunc x y = true
    unfold sameFunc
    rw [beq_yes hlen fun j h h' => hb j h h' (by omega)]
    simp [e1, e2, e3]

set_option maxRecDepth 10000 in
theorem refSame_pure (x y : Module) : APure Try.prog 10 [.agg (moduleC x), .agg (moduleC y)] (.bool (sameMod x y)) := by
  refine apureG _ _ Try.func10 (by kernel_rfl) t_marlineref05_Same u_marlineref05_Same rfl rfl (fun hx => ?_)
  have hl0 := lenAgg hx 0 rfl
  have hl1 := lenAgg hx 1 rfl
  clear hx
  simp [c_marlineref05_Same, r_marlineref05_Same]
  refine ⟨fun h => DLe_bool ?_, fun e1 e2 => ?_⟩
  · symm
    rw [← Bool.not_eq_true, sameMod_iff]
    rintro rfl
    simp at h
  have hlen0 : x.funcs.length = y.funcs.length := by omega
  have hlen1 : x.globs.length = y.globs.length := by omega
  refine loop_s (κ := Nat) (fun k => k ≤ x.funcs.length ∧ ∀ j (h : j < x.funcs.length) (h' : j < y.funcs.length), j < k → (x.funcs[j] == y.funcs[j]) = true) (fun k => x.funcs.length - k) (fun k => [(sl 5, .int k)]) (fun _ => []) 0 0 (srcs []) (by simp) (by simp) ?_
  rintro k ⟨hk, hb⟩
  simp
  refine ⟨fun hlt => ⟨hlt, by omega, ?_⟩, fun hge => ?_⟩
  · have hlt' : k < y.funcs.length := by omega
    rw [getD_some hlt, getD_some hlt']
    refine call_plain (ds := [.agg (funcC x.funcs[k]), .agg (funcC y.funcs[k])]) _ (by simp) (by simp) (fun _ => rfl) (fun _ => refSameFunc_pure x.funcs[k] y.funcs[k]) ?_
    simp
    refine ⟨fun h => DLe_bool ?_, fun h => ⟨k + 1, ⟨by omega, fun j hj hj' hjk => ?_⟩, by omega, srcs [], ?_⟩⟩
    · symm
      rw [← Bool.not_eq_true, sameMod_iff]
      rintro rfl
      simp at h
    · rcases Nat.lt_or_ge j k with h1 | h1
      · simpa using hb j hj hj' h1
      · obtain rfl : j = k := by omega
        simp [h]
    · simp [SLeK]
      exact DLe_int (wrap_succ (by omega))
  have hff := beq_yes hlen0 fun j h h' => hb j h h' (by omega)
  refine loop_s (κ := Nat) (fun k => k ≤ x.globs.length ∧ ∀ j (h : j < x.globs.length) (h' : j < y.globs.length), j < k → (x.globs[j] == y.globs[j]) = true) (fun k => x.globs.length - k) (fun k => [(sl 7, .int k)]) (fun _ => []) 0 0 (srcs []) (by simp) (by simp) ?_
  rintro k' ⟨hk', hb'⟩
  simp
  refine ⟨fun hlt => ?_, fun hge' => DLe_bool ?_⟩
  · have hlt' : k' < y.globs.length := by omega
    rw [getD_some hlt, getD_some hlt']
    simp [globs_eq]
    refine ⟨hlt, hlt', fun h => DLe_bool ?_, fun h => ⟨k' + 1, ⟨hlt, fun j hj hj' hjk => ?_⟩, by omega, srcs [], ?_⟩⟩
    · symm
      rw [← Bool.not_eq_true, sameMod_iff]
      rintro rfl
      simp at h
    · rcases Nat.lt_or_ge j k' with h1 | h1
      · simpa using hb' j hj hj' h1
      · obtain rfl : j = k' := by omega
        simp [h]
    · simp [SLeK]
      exact DLe_int (wrap_succ (by omega))
  · symm
    unfold sameMod
    rw [hff, beq_yes hlen1 fun j h h' => hb' j h h' (by omega)]
    rfl

end Go.Proofs.Ytciihchbiifgkaa
