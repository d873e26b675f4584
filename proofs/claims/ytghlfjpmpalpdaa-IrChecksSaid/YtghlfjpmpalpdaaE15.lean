/- Contracts by the evaluator: layer 5, are two blocks, functions, modules the same? -/
import Derived.Test.YtghlfjpmpalpdaaE14
import Derived.Test.YtghlfjpmpalpdaaC2
namespace Go.Proofs.Ytghlfjpmpalpdaa
open Go.RowKit

set_option maxRecDepth 10000 in
theorem irBlock_pure (x y : Block) : APure Try.prog 70 [.agg (blockC x), .agg (blockC y)] (.bool (x == y)) := by
  refine apureG _ _ Try.func70 (by kernel_rfl) t_ir_sameBlock u_ir_sameBlock rfl rfl (fun _ => ?_)
  simp [c_ir_sameBlock, r_ir_sameBlock]
  refine call_plain (ds := [intsD x.args, intsD y.args]) _ (by simp) (by simp) (fun _ => by simp) (fun _ => eqInts_pure x.args y.args) ?_
  simp
  refine call_plain (ds := [intsD x.elses, intsD y.elses]) _ (by simp) (by simp) (fun _ => by simp) (fun _ => eqInts_pure x.elses y.elses) ?_
  simp
  refine call_plain (ds := [insD x.ins, insD y.ins, .fn 78 []]) _ (by simp) (by simp) (fun _ => by simp) (fun _ => eqInsts_pure x.ins y.ins _ irInst_pure) ?_
  simp
  refine DLe_bool ?_
  rw [Bool.eq_iff_iff, beq_iff_eq]
  obtain ⟨xp, xi, xk, xa, xt, xr, xe, xs⟩ := x
  obtain ⟨yp, yi, yk, ya, yt, yr, ye, ys⟩ := y
  simp
  constructor
  · rintro ⟨⟨⟨⟨⟨⟨⟨h1, h2⟩, h3⟩, h4⟩, h5⟩, h6⟩, h7⟩, h8⟩
    exact ⟨h7, h8, h1, h2, h3, h4, h5, h6⟩
  · rintro ⟨h7, h8, h1, h2, h3, h4, h5, h6⟩
    exact ⟨⟨⟨⟨⟨⟨⟨h1, h2⟩, h3⟩, h4⟩, h5⟩, h6⟩, h7⟩, h8⟩

set_option maxRecDepth 10000 in
theorem irFuncS_pure (x y : Func) : APure Try.prog 52 [.agg (funcC x), .agg (funcC y)] (.bool (x == y)) := by
  refine apureG _ _ Try.func52 (by kernel_rfl) t_ir_sameFunc u_ir_sameFunc rfl rfl (fun _ => ?_)
  simp [c_ir_sameFunc, r_ir_sameFunc]
  refine call_plain (ds := [blocksD x.blocks, blocksD y.blocks, .fn 70 []]) _ (by simp) (by simp) (fun _ => by simp) (fun _ => eqBlocks_pure x.blocks y.blocks _ irBlock_pure) ?_
  simp
  exact DLe.refl _

def sameMod (x y : Module) : Bool := (x.funcs == y.funcs) && (x.globs == y.globs)
theorem sameMod_iff (x y : Module) : sameMod x y = true ↔ x = y := by
  unfold sameMod
  simp only [Bool.and_eq_true, beq_iff_eq]
  constructor
  · rintro ⟨h1, h2⟩
    cases x; cases y
    simp only at h1 h2
    rw [h1, h2]
  · rintro rfl; exact ⟨rfl, rfl⟩

set_option maxRecDepth 10000 in
theorem irSame_pure (x y : Module) : APure Try.prog 30 [.agg (moduleC x), .agg (moduleC y)] (.bool (sameMod x y)) := by
  refine apureG _ _ Try.func30 (by kernel_rfl) t_ir_Same u_ir_Same rfl rfl (fun _ => ?_)
  simp [c_ir_Same, r_ir_Same]
  refine call_plain (ds := [funcsD x.funcs, funcsD y.funcs, .fn 52 []]) _ (by simp) (by simp) (fun _ => by simp) (fun _ => eqFuncs_pure x.funcs y.funcs _ irFuncS_pure) ?_
  simp
  refine call_plain (ds := [globsD x.globs, globsD y.globs]) _ (by simp) (by simp) (fun _ => by simp) (fun _ => eqGlobs_pure x.globs y.globs) ?_
  simp
  exact DLe.refl _

set_option maxRecDepth 10000 in
theorem refSameFunc_pure (x y : Func) : APure Try.prog 54 [.agg (funcC x), .agg (funcC y)] (.bool (x == y)) := by
  refine apureG _ _ Try.func54 (by kernel_rfl) t_marlineref05_SameFunc u_marlineref05_SameFunc rfl rfl (fun hx => ?_)
  have hl := lenAgg hx 3 rfl
  clear hx
  simp [c_marlineref05_SameFunc, r_marlineref05_SameFunc]
  refine ⟨fun h => DLe_bool ?_, fun e1 e2 e3 e4 => ?_⟩
  · symm
    rw [beq_eq_false_iff_ne]
    rintro rfl
    simp at h
  have hlen : x.blocks.length = y.blocks.length := by omega
  refine loop_s (κ := Nat) (fun k => k ≤ x.blocks.length ∧ ∀ j (h : j < x.blocks.length) (h' : j < y.blocks.length), j < k → (x.blocks[j] == y.blocks[j]) = true) (fun k => x.blocks.length - k) (fun k => [(sl 5, .int k)]) (fun _ => []) 0 0 (srcs []) (by simp) (by simp) ?_
  rintro k ⟨hk, hb⟩
  simp
  refine ⟨fun hlt => ⟨hlt, by omega, ?_⟩, fun hge => DLe_bool ?_⟩
  · have hlt' : k < y.blocks.length := by omega
    rw [getD_some hlt, getD_some hlt']
    refine call_plain (ds := [.agg (blockC x.blocks[k]), .agg (blockC y.blocks[k])]) _ (by simp) (by simp) (fun _ => rfl) (fun _ => sameBlock_pure x.blocks[k] y.blocks[k]) ?_
    simp
    refine ⟨fun h => DLe_bool ?_, fun h => ⟨k + 1, ⟨by omega, fun j hj hj' hjk => ?_⟩, by omega, srcs [], ?_⟩⟩
    · symm
      rw [beq_eq_false_iff_ne]
      rintro rfl
      have := (sameBlock_iff x.blocks[k] x.blocks[k]).2 rfl
      rw [this] at h
      cases h
    · rcases Nat.lt_or_ge j k with h1 | h1
      · simpa using hb j hj hj' h1
      · obtain rfl : j = k := by omega
        simpa using (sameBlock_iff _ _).1 h
    · simp [SLeK]
      exact DLe_int (wrap_succ (by omega))
  · symm
    show sameFunc x y = true
    unfold sameFunc
    rw [beq_yes hlen fun j h h' => hb j h h' (by omega)]
    simp [e1, e2, e3]

set_option maxRecDepth 10000 in
theorem refSame_pure (x y : Module) : APure Try.prog 31 [.agg (moduleC x), .agg (moduleC y)] (.bool (sameMod x y)) := by
  refine apureG _ _ Try.func31 (by kernel_rfl) t_marlineref05_Same u_marlineref05_Same rfl rfl (fun hx => ?_)
  have hl0 := lenAgg hx 0 rfl
  have hl1 := lenAgg hx 1 rfl
  clear hx
  simp [c_marlineref05_Same, r_marlineref05_Same]
  refine ⟨fun h => DLe_bool ?_, fun e1 e2 => ?_⟩
  · symm
    rw [← Bool.not_eq_true, sameMod_iff]
    rintro rfl
    simp at h
  have hlen0 : x.funcs.length = y.funcs.length := by omega
  have hlen1 : x.globs.length = y.globs.length := by omega
  refine loop_s (κ := Nat) (fun k => k ≤ x.funcs.length ∧ ∀ j (h : j < x.funcs.length) (h' : j < y.funcs.length), j < k → (x.funcs[j] == y.funcs[j]) = true) (fun k => x.funcs.length - k) (fun k => [(sl 5, .int k)]) (fun _ => []) 0 0 (srcs []) (by simp) (by simp) ?_
  rintro k ⟨hk, hb⟩
  simp
  refine ⟨fun hlt => ⟨hlt, by omega, ?_⟩, fun hge => ?_⟩
  · have hlt' : k < y.funcs.length := by omega
    rw [getD_some hlt, getD_some hlt']
    refine call_plain (ds := [.agg (funcC x.funcs[k]), .agg (funcC y.funcs[k])]) _ (by simp) (by simp) (fun _ => rfl) (fun _ => refSameFunc_pure x.funcs[k] y.funcs[k]) ?_
    simp
    refine ⟨fun h => DLe_bool ?_, fun h => ⟨k + 1, ⟨by omega, fun j hj hj' hjk => ?_⟩, by omega, srcs [], ?_⟩⟩
    · symm
      rw [← Bool.not_eq_true, sameMod_iff]
      rintro rfl
      simp at h
    · rcases Nat.lt_or_ge j k with h1 | h1
      · simpa using hb j hj hj' h1
      · obtain rfl : j = k := by omega
        simp [h]
    · simp [SLeK]
      exact DLe_int (wrap_succ (by omega))
  have hff := beq_yes hlen0 fun j h h' => hb j h h' (by omega)
  refine loop_s (κ := Nat) (fun k => k ≤ x.globs.length ∧ ∀ j (h : j < x.globs.length) (h' : j < y.globs.length), j < k → (x.globs[j] == y.globs[j]) = true) (fun k => x.globs.length - k) (fun k => [(sl 7, .int k)]) (fun _ => []) 0 0 (srcs []) (by simp) (by simp) ?_
  rintro k' ⟨hk', hb'⟩
  simp
  refine ⟨fun hlt => ?_, fun hge' => DLe_bool ?_⟩
  · have hlt' : k' < y.globs.length := by omega
    rw [getD_some hlt, getD_some hlt']
    simp [globs_eq]
    refine ⟨hlt, hlt', fun h => DLe_bool ?_, fun h => ⟨k' + 1, ⟨hlt, fun j hj hj' hjk => ?_⟩, by omega, srcs [], ?_⟩⟩
    · symm
      rw [← Bool.not_eq_true, sameMod_iff]
      rintro rfl
      simp at h
    · rcases Nat.lt_or_ge j k' with h1 | h1
      · simpa using hb' j hj hj' h1
      · obtain rfl : j = k' := by omega
        simp [h]
    · simp [SLeK]
      exact DLe_int (wrap_succ (by omega))
  · symm
    unfold sameMod
    rw [hff, beq_yes hlen1 fun j h h' => hb' j h h' (by omega)]
    rfl

end Go.Proofs.Ytghlfjpmpalpdaa
