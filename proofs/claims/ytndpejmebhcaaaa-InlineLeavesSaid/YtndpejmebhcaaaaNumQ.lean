/- Plain law: in a right function numbers are right. -/
import Derived.Test.YtndpejmebhcaaaaNumP
namespace Go.Proofs.Ytndpejmebhcaaaa

theorem belowB_in {l : List Int} {n : Int} (h : belowB l n = true) : AllIn (upTo n) l := by
  intro k hk
  unfold belowB at h
  rw [List.all_eq_true] at h
  have := h _ (List.getElem_mem hk)
  simpa [upTo] using this

theorem instOk_in {i : Inst} {n : Int} (h : instOk i n = true) : InstIn (upTo n) i ∧ i.args.length ≤ 6 := by
  unfold instOk at h
  simp only [Bool.and_eq_true, decide_eq_true_eq] at h
  obtain ⟨⟨⟨⟨⟨⟨⟨⟨h1, h2⟩, hb⟩, hA⟩, hB⟩, hK⟩, hN⟩, h6⟩, hNm⟩ := h
  have hb := belowB_in hb
  refine ⟨⟨fun e => ?_, fun e => ?_, ?_⟩, h6⟩
  · rw [isOne_iff] at e
    by_cases h2 : 2 ≤ i.op ∧ i.op ≤ 11
    · have := hb 0 (by unfold uses; rw [if_pos h2]; simp)
      simpa [uses, h2] using this
    · have h3 : i.op = 13 ∨ i.op = 16 := by omega
      have e : uses i = [i.a] := by unfold uses; rw [if_neg h2, if_pos h3]
      rw [e] at hb
      exact hb 0 (by simp)
  · rw [isTwo_iff] at e
    have := hb 1 (by unfold uses; rw [if_pos e]; simp)
    simpa [uses, e] using this
  · by_cases h14 : i.op = 14
    · have : uses i = i.args := by unfold uses; rw [if_neg (by omega), if_neg (by omega), if_pos h14]
      rw [this] at hb
      exact hb
    · have : i.args.length = 0 := by simpa [h14] using hN
      intro k hk
      omega

theorem goesB_facts {f : Func} {to : Int} {args : List Int} {n : Int} (hf : ∀ b ∈ f.blocks, b.params ≤ 6) (h : goesB f to args n = true) : AllIn (upTo n) args ∧ args.length ≤ 6 := by
  unfold goesB at h
  simp only [Bool.and_eq_true, decide_eq_true_eq] at h
  obtain ⟨⟨h0, h1⟩, h2⟩ := h
  refine ⟨belowB_in h2, ?_⟩
  cases hb : f.blocks[to.toNat]? with
  | none => rw [hb] at h1; cases h1
  | some b =>
    rw [hb] at h1
    have := hf b (List.mem_of_getElem? hb)
    simp at h1
    omega

theorem all_nil {d : Int → Prop} {l : List Int} (h : l.length = 0) : AllIn d l := fun k hk => by omega

theorem blockOk_nums {f : Func} {b : Block} (hf : ∀ b ∈ f.blocks, b.params ≤ 6) (h : blockOk f b = true) : NumsOk b ∧ b.args.length ≤ 6 ∧ b.elses.length ≤ 6 := by
  unfold blockOk at h
  simp only [Bool.and_eq_true, decide_eq_true_eq] at h
  obtain ⟨⟨⟨⟨h1, h2⟩, h3⟩, h4⟩, h5⟩ := h
  rw [insFrom_iff] at h4
  have hends : (¬ b.kind = 1 → upTo (b.params + b.ins.length) b.ta) ∧ (AllIn (upTo (b.params + b.ins.length)) b.args ∧ b.args.length ≤ 6) ∧ (AllIn (upTo (b.params + b.ins.length)) b.elses ∧ b.elses.length ≤ 6) := by
    by_cases k1 : b.kind = 1
    · rw [endB_jump k1] at h5
      simp only [Bool.and_eq_true, beq_iff_eq] at h5
      obtain ⟨⟨⟨g1, g2⟩, g3⟩, g4⟩ := h5
      exact ⟨fun h => absurd k1 h, goesB_facts hf g1, all_nil g4, by omega⟩
    · by_cases k2 : b.kind = 2
      · rw [endB_if k2] at h5
        simp only [Bool.and_eq_true, decide_eq_true_eq] at h5
        obtain ⟨⟨g1, g2⟩, g3⟩ := h5
        exact ⟨fun _ => g1, goesB_facts hf g2, goesB_facts hf g3⟩
      · rw [endB_other k1 k2] at h5
        simp only [Bool.and_eq_true, beq_iff_eq, decide_eq_true_eq] at h5
        obtain ⟨⟨⟨⟨⟨g0, g1⟩, g2⟩, g3⟩, g4⟩, g5⟩ := h5
        exact ⟨fun _ => g1, ⟨all_nil g3, by omega⟩, all_nil g5, by omega⟩
  obtain ⟨e1, ⟨e2, e3⟩, e4, e5⟩ := hends
  exact ⟨⟨h1, h2, h3, fun k hk => (instOk_in (h4 k hk)).1, fun k hk => (instOk_in (h4 k hk)).2, e1, e2, e4, by omega, by omega⟩, e3, e5⟩

theorem funcOk_blocks {f : Func} (h : funcOk f = true) : ∀ b ∈ f.blocks, blockOk f b = true := by
  unfold funcOk at h
  simp only [Bool.and_eq_true] at h
  obtain ⟨_, h⟩ := h
  intro b hb
  cases hbl : f.blocks with
  | nil => rw [hbl] at hb; cases hb
  | cons b0 r =>
    rw [hbl] at h
    simp only [Bool.and_eq_true, List.all_eq_true] at h
    exact h.2 b (hbl ▸ hb)

theorem funcOk_nums {f : Func} (h : funcOk f = true) : ∀ b ∈ f.blocks, NumsOk b := by
  have hb := funcOk_blocks h
  have h6 : ∀ b ∈ f.blocks, b.params ≤ 6 := fun b hm => by
    have := hb b hm
    unfold blockOk at this
    simp only [Bool.and_eq_true, decide_eq_true_eq] at this
    exact this.1.1.1.2
  exact fun b hm => (blockOk_nums h6 (hb b hm)).1

end Go.Proofs.Ytndpejmebhcaaaa
