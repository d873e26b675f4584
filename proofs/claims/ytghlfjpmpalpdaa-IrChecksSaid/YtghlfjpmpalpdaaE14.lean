/- Contracts by the evaluator: layer 5, are two modules the same? -/
import Derived.Test.YtghlfjpmpalpdaaB6
import Derived.Test.YtghlfjpmpalpdaaB7
import Derived.Test.YtghlfjpmpalpdaaE1
namespace Go.Proofs.Ytghlfjpmpalpdaa
open Go.RowKit

instance : BEq Block := ⟨sameBlock⟩
instance : LawfulBEq Block where
  eq_of_beq h := (sameBlock_iff _ _).1 h
  rfl := (sameBlock_iff _ _).2 rfl
def sameFunc (x y : Func) : Bool := decide (x.name = y.name) && decide (x.bind = y.bind) && decide (x.params = y.params) && (x.blocks == y.blocks)
theorem sameFunc_iff (x y : Func) : sameFunc x y = true ↔ x = y := by
  unfold sameFunc
  simp only [Bool.and_eq_true, decide_eq_true_eq, beq_iff_eq]
  constructor
  · rintro ⟨⟨⟨h1, h2⟩, h3⟩, h4⟩
    obtain ⟨n, b, p, l⟩ := x
    obtain ⟨n', b', p', l'⟩ := y
    simp only at h1 h2 h3 h4
    subst h1 h2 h3 h4
    rfl
  · rintro rfl; simp
instance : BEq Func := ⟨sameFunc⟩
instance : LawfulBEq Func where
  eq_of_beq h := (sameFunc_iff _ _).1 h
  rfl := (sameFunc_iff _ _).2 rfl
def sameGlob (x y : Glob) : Bool := decide (x.name = y.name) && (decide (x.bind = y.bind) && ((x.here == y.here) && (decide ((x.init : Int) = (y.init : Int)) && true)))
theorem sameGlob_iff (x y : Glob) : sameGlob x y = true ↔ x = y := by
  unfold sameGlob
  simp only [Bool.and_eq_true, decide_eq_true_eq, beq_iff_eq]
  constructor
  · rintro ⟨h1, h2, h3, h4, _⟩
    obtain ⟨n, b, p, l⟩ := x
    obtain ⟨n', b', p', l'⟩ := y
    simp only at h1 h2 h3 h4
    have h4' : l = l' := by omega
    subst h1 h2 h3 h4'
    rfl
  · rintro rfl; simp
instance : BEq Glob := ⟨sameGlob⟩
instance : LawfulBEq Glob where
  eq_of_beq h := (sameGlob_iff _ _).1 h
  rfl := (sameGlob_iff _ _).2 rfl

theorem beq_yes {α : Type} [BEq α] [LawfulBEq α] {xs ys : List α} (hl : xs.length = ys.length) (h : ∀ k (h : k < xs.length) (h' : k < ys.length), (xs[k] == ys[k]) = true) : (xs == ys) = true := by
  rw [beq_iff_eq]
  exact List.ext_getElem hl fun k h1 h2 => eq_of_beq (h k h1 h2)
theorem beq_no {α : Type} [BEq α] [LawfulBEq α] {xs ys : List α} {k : Nat} (h1 : k < xs.length) (h2 : k < ys.length) (h : (xs[k] == ys[k]) = false) : (xs == ys) = false := by
  rw [beq_eq_false_iff_ne]
  rintro rfl
  simp at h
theorem beq_len {α : Type} [BEq α] [LawfulBEq α] {xs ys : List α} (h : ¬ (xs.length : Int) = ys.length) : (xs == ys) = false := by
  rw [beq_eq_false_iff_ne]
  rintro rfl
  exact h rfl

set_option maxRecDepth 10000 in
theorem eqInts_pure (xs ys : List Int) : APure Try.prog 76 [intsD xs, intsD ys] (.bool (xs == ys)) := by
  refine apureG _ _ Try.func76 (by kernel_rfl) t_slices_Equal___int_int_ u_slices_Equal___int_int_ rfl rfl (fun hx => len1 hx fun hl => ?_)
  clear hx
  simp [c_slices_Equal___int_int_, r_slices_Equal___int_int_]
  refine ⟨fun h => DLe_bool (beq_len h).symm, fun hlen => ?_⟩
  have hlen' : xs.length = ys.length := by omega
  refine loop_s (κ := Nat) (fun k => k ≤ xs.length ∧ ∀ j (h : j < xs.length) (h' : j < ys.length), j < k → (xs[j] == ys[j]) = true) (fun k => xs.length - k) (fun k => [(sl 13, .int k)]) (fun _ => []) 0 0 (srcs []) (by simp) (by simp) ?_
  rintro k ⟨hk, hb⟩
  simp
  refine ⟨fun hlt => ?_, fun hge => DLe_bool (beq_yes hlen' fun j h h' => hb j h h' (by omega)).symm⟩
  have hlt' : k < ys.length := by omega
  rw [getD_some hlt, getD_some hlt']
  refine ⟨hlt, by omega, fun h => DLe_bool (beq_no hlt hlt' (by simp [h])).symm, fun h => ⟨k + 1, ⟨hlt, fun j hj hj' hjk => ?_⟩, by omega, srcs [], ?_⟩⟩
  · rcases Nat.lt_or_ge j k with h1 | h1
    · simpa using hb j hj hj' h1
    · obtain rfl : j = k := by omega
      exact h
  · simp [SLeK]
    exact DLe_int (wrap_succ (by omega))

theorem globs_eq (x y : Glob) : fldsEq [.string, .int .i64, .bool, .int .u64] (globC x) (globC y) = some (x == y) := rfl

set_option maxRecDepth 10000 in
theorem eqGlobs_pure (xs ys : List Glob) : APure Try.prog 53 [globsD xs, globsD ys] (.bool (xs == ys)) := by
  refine apureG _ _ Try.func53 (by kernel_rfl) t_slices_Equal___api_Glob_api_Glob_ u_slices_Equal___api_Glob_api_Glob_ rfl rfl (fun hx => len1 hx fun hl => ?_)
  clear hx
  simp [c_slices_Equal___api_Glob_api_Glob_, r_slices_Equal___api_Glob_api_Glob_]
  refine ⟨fun h => DLe_bool (beq_len h).symm, fun hlen => ?_⟩
  have hlen' : xs.length = ys.length := by omega
  refine loop_s (κ := Nat) (fun k => k ≤ xs.length ∧ ∀ j (h : j < xs.length) (h' : j < ys.length), j < k → (xs[j] == ys[j]) = true) (fun k => xs.length - k) (fun k => [(sl 13, .int k)]) (fun _ => []) 0 0 (srcs []) (by simp) (by simp) ?_
  rintro k ⟨hk, hb⟩
  simp
  refine ⟨fun hlt => ?_, fun hge => DLe_bool (beq_yes hlen' fun j h h' => hb j h h' (by omega)).symm⟩
  have hlt' : k < ys.length := by omega
  rw [getD_some hlt, getD_some hlt']
  simp [globs_eq]
  refine ⟨hlt, hlt', ?_⟩
  refine ⟨fun h => DLe_bool (beq_no hlt hlt' (by simp [h])).symm, fun h => ⟨k + 1, ⟨hlt, fun j hj hj' hjk => ?_⟩, by omega, srcs [], ?_⟩⟩
  · rcases Nat.lt_or_ge j k with h1 | h1
    · simpa using hb j hj hj' h1
    · obtain rfl : j = k := by omega
      simp [h]
  · simp [SLeK]
    exact DLe_int (wrap_succ (by omega))

set_option maxRecDepth 10000 in
theorem irInst_pure (x y : Inst) : APure Try.prog 78 [.agg (instC x), .agg (instC y)] (.bool (x == y)) := by
  refine apureG _ _ Try.func78 (by kernel_rfl) t_ir_inst u_ir_inst rfl rfl (fun _ => ?_)
  simp [c_ir_inst, r_ir_inst]
  refine call_plain (ds := [intsD x.args, intsD y.args]) _ (by simp) (by simp) (fun _ => by simp) (fun _ => eqInts_pure x.args y.args) ?_
  simp
  refine DLe_bool ?_
  rw [Bool.eq_iff_iff, beq_iff_eq]
  obtain ⟨xo, xa, xb, xk, xn, xr⟩ := x
  obtain ⟨yo, ya, yb, yk, yn, yr⟩ := y
  simp
  constructor
  · rintro ⟨⟨⟨⟨⟨h1, h2⟩, h3⟩, h4⟩, h5⟩, h6⟩
    exact ⟨h1, h2, h3, by omega, h5, h6⟩
  · rintro ⟨h1, h2, h3, h4, h5, h6⟩
    exact ⟨⟨⟨⟨⟨h1, h2⟩, h3⟩, by omega⟩, h5⟩, h6⟩

set_option maxRecDepth 10000 in
theorem eqInsts_pure (xs ys : List Inst) (F : FuncId) (hF : ∀ x y, APure Try.prog F [.agg (instC x), .agg (instC y)] (.bool (x == y))) : APure Try.prog 77 [insD xs, insD ys, .fn F []] (.bool (xs == ys)) := by
  refine apureG _ _ Try.func77 (by kernel_rfl) t_slices_EqualFunc___api_Inst___api_Inst_api_Inst_api_Inst_ u_slices_EqualFunc___api_Inst___api_Inst_api_Inst_api_Inst_ rfl rfl (fun hx => len1 hx fun hl => ?_)
  clear hx
  simp [c_slices_EqualFunc___api_Inst___api_Inst_api_Inst_api_Inst_, r_slices_EqualFunc___api_Inst___api_Inst_api_Inst_api_Inst_]
  refine ⟨fun h => DLe_bool (beq_len h).symm, fun hlen => ?_⟩
  have hlen' : xs.length = ys.length := by omega
  refine loop_s (κ := Nat) (fun k => k ≤ xs.length ∧ ∀ j (h : j < xs.length) (h' : j < ys.length), j < k → (xs[j] == ys[j]) = true) (fun k => xs.length - k) (fun k => [(sl 17, .int k)]) (fun _ => []) 0 0 (srcs []) (by simp) (by simp) ?_
  rintro k ⟨hk, hb⟩
  simp
  refine ⟨fun hlt => ?_, fun hge => DLe_bool (beq_yes hlen' fun j h h' => hb j h h' (by omega)).symm⟩
  have hlt' : k < ys.length := by omega
  rw [getD_some hlt, getD_some hlt']
  refine ⟨hlt, by omega, ?_⟩
  refine call_plain (ds := [.agg (instC xs[k]), .agg (instC ys[k])]) _ (by simp) (by simp) (fun _ => rfl) (fun _ => hF xs[k] ys[k]) ?_
  simp
  refine ⟨fun h => DLe_bool (beq_no hlt hlt' (by simp [h])).symm, fun h => ⟨k + 1, ⟨hlt, fun j hj hj' hjk => ?_⟩, by omega, srcs [], ?_⟩⟩
  · rcases Nat.lt_or_ge j k with h1 | h1
    · simpa using hb j hj hj' h1
    · obtain rfl : j = k := by omega
      simp [h]
  · simp [SLeK]
    exact DLe_int (wrap_succ (by omega))

set_option maxRecDepth 10000 in
theorem eqBlocks_pure (xs ys : List Block) (F : FuncId) (hF : ∀ x y, APure Try.prog F [.agg (blockC x), .agg (blockC y)] (.bool (x == y))) : APure Try.prog 69 [blocksD xs, blocksD ys, .fn F []] (.bool (xs == ys)) := by
  refine apureG _ _ Try.func69 (by kernel_rfl) t_slices_EqualFunc___api_Block___api_Block_api_Block_api_Block_ u_slices_EqualFunc___api_Block___api_Block_api_Block_api_Block_ rfl rfl (fun hx => len1 hx fun hl => ?_)
  clear hx
  simp [c_slices_EqualFunc___api_Block___api_Block_api_Block_api_Block_, r_slices_EqualFunc___api_Block___api_Block_api_Block_api_Block_]
  refine ⟨fun h => DLe_bool (beq_len h).symm, fun hlen => ?_⟩
  have hlen' : xs.length = ys.length := by omega
  refine loop_s (κ := Nat) (fun k => k ≤ xs.length ∧ ∀ j (h : j < xs.length) (h' : j < ys.length), j < k → (xs[j] == ys[j]) = true) (fun k => xs.length - k) (fun k => [(sl 17, .int k)]) (fun _ => []) 0 0 (srcs []) (by simp) (by simp) ?_
  rintro k ⟨hk, hb⟩
  simp
  refine ⟨fun hlt => ?_, fun hge => DLe_bool (beq_yes hlen' fun j h h' => hb j h h' (by omega)).symm⟩
  have hlt' : k < ys.length := by omega
  rw [getD_some hlt, getD_some hlt']
  refine ⟨hlt, by omega, ?_⟩
  refine call_plain (ds := [.agg (blockC xs[k]), .agg (blockC ys[k])]) _ (by simp) (by simp) (fun _ => rfl) (fun _ => hF xs[k] ys[k]) ?_
  simp
  refine ⟨fun h => DLe_bool (beq_no hlt hlt' (by simp [h])).symm, fun h => ⟨k + 1, ⟨hlt, fun j hj hj' hjk => ?_⟩, by omega, srcs [], ?_⟩⟩
  · rcases Nat.lt_or_ge j k with h1 | h1
    · simpa using hb j hj hj' h1
    · obtain rfl : j = k := by omega
      simp [h]
  · simp [SLeK]
    exact DLe_int (wrap_succ (by omega))

set_option maxRecDepth 10000 in
theorem eqFuncs_pure (xs ys : List Func) (F : FuncId) (hF : ∀ x y, APure Try.prog F [.agg (funcC x), .agg (funcC y)] (.bool (x == y))) : APure Try.prog 51 [funcsD xs, funcsD ys, .fn F []] (.bool (xs == ys)) := by
  refine apureG _ _ Try.func51 (by kernel_rfl) t_slices_EqualFunc___api_Func___api_Func_api_Func_api_Func_ u_slices_EqualFunc___api_Func___api_Func_api_Func_api_Func_ rfl rfl (fun hx => len1 hx fun hl => ?_)
  clear hx
  simp [c_slices_EqualFunc___api_Func___api_Func_api_Func_api_Func_, r_slices_EqualFunc___api_Func___api_Func_api_Func_api_Func_]
  refine ⟨fun h => DLe_bool (beq_len h).symm, fun hlen => ?_⟩
  have hlen' : xs.length = ys.length := by omega
  refine loop_s (κ := Nat) (fun k => k ≤ xs.length ∧ ∀ j (h : j < xs.length) (h' : j < ys.length), j < k → (xs[j] == ys[j]) = true) (fun k => xs.length - k) (fun k => [(sl 17, .int k)]) (fun _ => []) 0 0 (srcs []) (by simp) (by simp) ?_
  rintro k ⟨hk, hb⟩
  simp
  refine ⟨fun hlt => ?_, fun hge => DLe_bool (beq_yes hlen' fun j h h' => hb j h h' (by omega)).symm⟩
  have hlt' : k < ys.length := by omega
  rw [getD_some hlt, getD_some hlt']
  refine ⟨hlt, by omega, ?_⟩
  refine call_plain (ds := [.agg (funcC xs[k]), .agg (funcC ys[k])]) _ (by simp) (by simp) (fun _ => rfl) (fun _ => hF xs[k] ys[k]) ?_
  simp
  refine ⟨fun h => DLe_bool (beq_no hlt hlt' (by simp [h])).symm, fun h => ⟨k + 1, ⟨hlt, fun j hj hj' hjk => ?_⟩, by omega, srcs [], ?_⟩⟩
  · rcases Nat.lt_or_ge j k with h1 | h1
    · simpa using hb j hj hj' h1
    · obtain rfl : j = k := by omega
      simp [h]
  · simp [SLeK]
    exact DLe_int (wrap_succ (by omega))

end Go.Proofs.Ytghlfjpmpalpdaa
