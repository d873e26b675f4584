/- Contracts by the evaluator: layer 5's statements on functions. -/
import Derived.Test.YtghlfjpmpalpdaaE9
namespace Go.Proofs.Ytghlfjpmpalpdaa
open Go.RowKit

theorem funcOk_all {f : Func} (h : funcOk f = true) : f.blocks.all (blockOk f) = true := by
  unfold funcOk at h
  cases hb : f.blocks with
  | nil => rfl
  | cons b r =>
    rw [hb] at h
    simp only [Bool.and_eq_true] at h
    exact h.2.2
theorem funcOk_len {f : Func} (h : funcOk f = true) : f.blocks.length ≤ 16 := by
  unfold funcOk at h
  simp only [Bool.and_eq_true, decide_eq_true_eq] at h
  exact h.1.2
theorem funcOk_first {f : Func} (h : funcOk f = true) (hl : 0 < f.blocks.length) : f.blocks[0].params = f.params := by
  unfold funcOk at h
  obtain ⟨name, bind, params, blocks⟩ := f
  cases blocks with
  | nil => simp at hl
  | cons b r =>
    simp only [Bool.and_eq_true, beq_iff_eq] at h
    exact h.2.1
theorem funcOk_block {f : Func} (h : funcOk f = true) {k : Nat} (hk : k < f.blocks.length) : blockOk f f.blocks[k] = true := List.all_eq_true.1 (funcOk_all h) _ (List.getElem_mem hk)
theorem blockOk_parts {f : Func} {b : Block} (h : blockOk f b = true) : 0 ≤ b.params ∧ b.params ≤ 6 ∧ b.ins.length ≤ 32 ∧ (∀ k (hk : k < b.ins.length), instOk b.ins[k] (b.params + k) = true) ∧ endB f b = true := by
  unfold blockOk at h
  simp only [Bool.and_eq_true, decide_eq_true_eq] at h
  obtain ⟨⟨⟨⟨h1, h2⟩, h3⟩, h4⟩, h5⟩ := h
  exact ⟨h1, h2, h3, (insFrom_iff _ _).1 h4, h5⟩
theorem instOk_below {i : Inst} {n : Int} (h : instOk i n = true) : belowB (uses i) n = true := by
  unfold instOk at h
  simp only [Bool.and_eq_true] at h
  exact h.1.1.1.1.1.1.2
theorem instOk_args {i : Inst} {n : Int} (h : instOk i n = true) : i.args.length ≤ 6 := by
  unfold instOk at h
  simp only [Bool.and_eq_true, decide_eq_true_eq] at h
  exact h.1.2
theorem belowB_at {l : List Int} {n : Int} (h : belowB l n = true) {k : Nat} (hk : k < l.length) : 0 ≤ l[k] ∧ l[k] < n := by
  have := List.all_eq_true.1 h _ (List.getElem_mem hk)
  simpa using this
theorem goesB_parts {f : Func} {to : Int} {l : List Int} {n : Int} (h : goesB f to l n = true) : 0 ≤ to ∧ to < f.blocks.length ∧ (l.length : Int) = (f.blocks[to.toNat]?.getD default).params := by
  by_cases hn : (to < 0 ∨ (f.blocks.length : Int) ≤ to) ∨ ¬ (l.length : Int) = (f.blocks[to.toNat]?.getD default).params
  · rw [goesB_out hn] at h; cases h
  · exact ⟨by omega, by omega, by omega⟩
theorem endB_parts {f : Func} {b : Block} (h : endB f b = true) : (b.kind = 1 ∧ goesB f b.to b.args (b.params + b.ins.length) = true) ∨ (b.kind = 2 ∧ 0 ≤ b.ta ∧ b.ta < b.params + b.ins.length ∧ goesB f b.to b.args (b.params + b.ins.length) = true ∧ goesB f b.els b.elses (b.params + b.ins.length) = true) ∨
    (b.kind = 3 ∧ 0 ≤ b.ta ∧ b.ta < b.params + b.ins.length) := by
  by_cases h1 : b.kind = 1
  · rw [endB_jump h1] at h
    simp only [Bool.and_eq_true] at h
    exact .inl ⟨h1, h.1.1.1⟩
  by_cases h2 : b.kind = 2
  · rw [endB_if h2] at h
    simp only [Bool.and_eq_true, decide_eq_true_eq] at h
    exact .inr (.inl ⟨h2, h.1.1.1, h.1.1.2, h.1.2, h.2⟩)
  · rw [endB_other h1 h2] at h
    simp only [Bool.and_eq_true, decide_eq_true_eq, beq_iff_eq] at h
    exact .inr (.inr ⟨h.1.1.1.1.1, h.1.1.1.1.2⟩)
theorem uses_len {i : Inst} {n : Int} (h : instOk i n = true) : (uses i).length ≤ 6 := by
  have := instOk_args h
  unfold uses
  split
  · simp
  · split
    · simp
    · split
      · exact this
      · simp

set_option maxHeartbeats 1000000 in
set_option maxRecDepth 10000 in
theorem irAhead_pure (f : Func) (hi : ∀ b ∈ f.blocks, ∀ i ∈ b.ins, i.args.length ≤ 17592186044416) : APure Try.prog 4 [.agg (funcC f)] (.bool true) := by
  refine apureG _ _ Try.func4 (by kernel_rfl) t_marlinelaw05_IrAhead u_marlinelaw05_IrAhead rfl rfl (fun _ => ?_)
  simp [c_marlinelaw05_IrAhead, r_marlinelaw05_IrAhead]
  refine call_plain (ds := []) _ (by simp) (by simp) (fun _ => rfl) (fun _ => shown5_pure) ?_
  simp
  refine call_plain (ds := [.agg (funcC f)]) _ (by simp) (by simp) (fun _ => rfl) (fun _ => func_pure f hi) ?_
  simp
  intro hok
  have hbl := funcOk_len hok
  refine loop_s (κ := Nat) (fun k => k ≤ f.blocks.length) (fun k => f.blocks.length - k) (fun k => [(sl 4, .int k)]) (fun _ => []) 0 0 (srcs []) (by simp) (by simp) ?_
  rintro k hk
  simp
  intro hlt
  refine ⟨hlt, ?_⟩
  rw [getD_some hlt]
  have hbi := hi _ (List.getElem_mem hlt)
  obtain ⟨p0, p6, p32, hins, hend⟩ := blockOk_parts (funcOk_block hok hlt)
  generalize f.blocks[k] = b at *
  refine loop_s (κ := Nat) (fun m => m ≤ b.ins.length) (fun m => b.ins.length - m) (fun m => [(sl 6, .int m)]) (fun _ => []) 0 0 (srcs []) (by simp) (by simp) ?_
  rintro m hm
  simp
  refine ⟨fun hml => ⟨hml, ?_⟩, fun hge => ?_⟩
  · rw [getD_some hml]
    have hio := hins m hml
    have hia := hbi _ (List.getElem_mem hml)
    generalize b.ins[m] = i at *
    refine call_plain (ds := [.agg (instC i)]) _ (by simp) (by simp) (fun _ => rfl) (fun _ => uses_pure i hia) ?_
    simp
    have hul := uses_len hio
    refine loop_s (κ := Nat) (fun j => j ≤ (uses i).length) (fun j => (uses i).length - j) (fun j => [(sl 8, .int j)]) (fun _ => []) 0 0 (srcs []) (by simp) (by simp) ?_
    rintro j hj
    simp
    refine ⟨fun hjl => ⟨hjl, ?_⟩, fun hge => ?_⟩
    · rw [getD_some hjl]
      have hu := belowB_at (instOk_below hio) hjl
      generalize (uses i)[j] = u at *
      rw [wrap_in (n := b.params + (m : Int)) (by omega)]
      refine ⟨fun h => ⟨h, hjl⟩, fun h => by omega, fun _ _ => ⟨j + 1, by omega, by omega, srcs [], ?_⟩⟩
      simp [SLeK]
      exact DLe_int (wrap_succ (by omega))
    · refine ⟨m + 1, by omega, by omega, srcs [], ?_⟩
      simp [SLeK]
      exact DLe_int (wrap_succ (by omega))
  · refine call_plain (ds := [.agg (blockC b)]) _ (by simp) (by simp) (fun _ => rfl) (fun _ => values_pure b) ?_
    rw [wrap_in (n := b.params + (b.ins.length : Int)) (by omega)]
    simp
    have he := endB_parts hend
    have hta : ¬ b.kind = 1 → 0 ≤ b.ta ∧ b.ta < b.params + b.ins.length := fun h1 => by
      rcases he with ⟨h, _⟩ | ⟨_, h, h', _, _⟩ | ⟨_, h, h'⟩
      · exact absurd h h1
      · exact ⟨h, h'⟩
      · exact ⟨h, h'⟩
    refine ⟨fun h => ⟨h, fun h' => ⟨h, h'⟩⟩, fun h h' => ?_, fun _ => ⟨k + 1, by omega, by omega, srcs [], ?_⟩⟩
    · have := hta h
      omega
    · simp [SLeK]
      exact DLe_int (wrap_succ (by omega))

set_option maxHeartbeats 1000000 in
set_option maxRecDepth 10000 in
theorem irJumps_pure (f : Func) (hi : ∀ b ∈ f.blocks, ∀ i ∈ b.ins, i.args.length ≤ 17592186044416) : APure Try.prog 5 [.agg (funcC f)] (.bool true) := by
  refine apureG _ _ Try.func5 (by kernel_rfl) t_marlinelaw05_IrJumps u_marlinelaw05_IrJumps rfl rfl (fun _ => ?_)
  simp [c_marlinelaw05_IrJumps, r_marlinelaw05_IrJumps]
  refine call_plain (ds := []) _ (by simp) (by simp) (fun _ => rfl) (fun _ => shown5_pure) ?_
  simp
  refine call_plain (ds := [.agg (funcC f)]) _ (by simp) (by simp) (fun _ => rfl) (fun _ => func_pure f hi) ?_
  simp
  intro hok
  have hbl := funcOk_len hok
  refine loop_s (κ := Nat) (fun k => k ≤ f.blocks.length) (fun k => f.blocks.length - k) (fun k => [(sl 4, .int k)]) (fun _ => []) 0 0 (srcs []) (by simp) (by simp) ?_
  rintro k hk
  simp
  refine ⟨fun hlt => ⟨hlt, ?_⟩, fun hge => ?_⟩
  · rw [getD_some hlt]
    obtain ⟨p0, p6, p32, hins, hend⟩ := blockOk_parts (funcOk_block hok hlt)
    have he := endB_parts hend
    generalize f.blocks[k] = b at *
    have hto : ¬ b.kind = 3 → 0 ≤ b.to ∧ b.to < f.blocks.length ∧ (b.args.length : Int) = (f.blocks[b.to.toNat]?.getD default).params := fun h3 => by
      rcases he with ⟨_, h⟩ | ⟨_, _, _, h, _⟩ | ⟨h, _⟩
      · exact goesB_parts h
      · exact goesB_parts h
      · exact absurd h h3
    have hel : b.kind = 2 → 0 ≤ b.els ∧ b.els < f.blocks.length ∧ (b.elses.length : Int) = (f.blocks[b.els.toNat]?.getD default).params := fun h2 => by
      rcases he with ⟨h, _⟩ | ⟨_, _, _, _, h⟩ | ⟨h, _⟩
      · omega
      · exact goesB_parts h
      · omega
    refine ⟨fun h => ⟨h, fun h' => ⟨h, h'⟩⟩, fun h => ⟨h, fun h1 h2 => ⟨h, h1, h2⟩⟩, fun h3 h => ?_, ?_⟩
    · have := hto h3
      rcases h with (h | h) | h <;> omega
    refine fun _ => ⟨fun h => ⟨h, fun h' => ⟨h, h'⟩⟩, fun h => ⟨h, fun h1 h2 => ⟨h, h1, h2⟩⟩, fun h2 h => ?_, fun _ => ⟨k + 1, by omega, by omega, srcs [], ?_⟩⟩
    · have := hel h2
      rcases h with (h | h) | h <;> omega
    · simp [SLeK]
      exact DLe_int (wrap_succ (by omega))
  · refine ⟨fun h => ⟨h, List.length_pos_iff.2 h⟩, DLe_bool ?_⟩
    by_cases h : f.blocks = []
    · simp [h]
    · have hl := List.length_pos_iff.2 h
      rw [getD_some hl, funcOk_first hok hl]
      simp

end Go.Proofs.Ytghlfjpmpalpdaa
