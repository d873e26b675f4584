/- Contracts by the evaluator: the document's layer 5, blocks and functions. -/
import Derived.Test.YtghlfjpmpalpdaaC1
namespace Go.Proofs.Ytghlfjpmpalpdaa
open Go.RowKit

theorem goesB_in {f : Func} {to : Int} {l : List Int} {n : Int} (h0 : 0 ≤ to) (h1 : to < f.blocks.length) (h : (l.length : Int) = (f.blocks[to.toNat]?.getD default).params) : goesB f to l n = belowB l n := by
  unfold goesB
  have hlt : to.toNat < f.blocks.length := by omega
  rw [List.getElem?_eq_getElem hlt] at h ⊢
  simp at h
  simp [h0, h]
theorem goesB_out {f : Func} {to : Int} {l : List Int} {n : Int} (h : (to < 0 ∨ (f.blocks.length : Int) ≤ to) ∨ ¬ (l.length : Int) = (f.blocks[to.toNat]?.getD default).params) : goesB f to l n = false := by
  by_cases h0 : to < 0
  · exact goesB_lo h0
  by_cases h1 : (f.blocks.length : Int) ≤ to
  · exact goesB_hi (by omega) h1
  have h : ¬ (l.length : Int) = (f.blocks[to.toNat]?.getD default).params := by simpa [h0, h1] using h
  unfold goesB
  have hlt : to.toNat < f.blocks.length := by omega
  rw [List.getElem?_eq_getElem hlt] at h ⊢
  simp at h
  simp [h]

set_option maxRecDepth 10000 in
theorem goes_pure (f : Func) (to : Int) (l : List Int) (n : Int) : APure Try.prog 68 [.agg (funcC f), .int to, intsD l, .int n] (.bool (goesB f to l n)) := by
  refine apureG _ [] Try.func68 (by kernel_rfl) t_marlineref05_goes u_marlineref05_goes rfl rfl (fun _ => ?_)
  simp [c_marlineref05_goes, r_marlineref05_goes]
  refine ⟨fun h => DLe_bool (goesB_out h).symm, fun h0 h1 h2 => ?_⟩
  refine call_plain _ (by simp) (by simp) (fun _ => rfl) (fun _ => below_pure l n) ?_
  simp
  exact DLe_bool (goesB_in h0 h1 h2).symm

theorem getD_some {α : Type} {l : List α} {k : Nat} {d : α} (h : k < l.length) : l[k]?.getD d = l[k] := by simp [h]

set_option maxHeartbeats 2000000 in
set_option maxRecDepth 10000 in
theorem refBlock_pure (f : Func) (k : Nat) (hk : k < f.blocks.length) (hi : ∀ i ∈ f.blocks[k].ins, i.args.length ≤ 17592186044416) :
    APure Try.prog 49 [.agg (funcC f), .int k] (.bool (blockOk f f.blocks[k])) := by
  refine apureG _ [] Try.func49 (by kernel_rfl) t_marlineref05_block u_marlineref05_block rfl rfl (fun _ => ?_)
  simp [c_marlineref05_block, r_marlineref05_block, hk]
  generalize f.blocks[k] = b at *
  refine ⟨fun h => DLe_bool ?_, fun h0 h6 h32 => ?_⟩
  · symm
    rcases h with (h | h) | h
    · exact blockOk_lo h
    · exact blockOk_hi h
    · exact blockOk_many (by omega)
  refine loop_c (κ := Nat) (fun m => m ≤ b.ins.length ∧ ∀ j (h : j < b.ins.length), j < m → instOk b.ins[j] (b.params + j) = true) (fun m => b.ins.length - m) (fun m => [(sl 6, .int m)]) (fun _ => []) 0 0 (fun _ => .none) (by simp) (by simp) ?_
  rintro m ⟨hm, hb⟩
  have hw : IntKind.i64.wrap (b.params + (m : Int)) = b.params + m := wrap_in (by omega)
  have hw' : IntKind.i64.wrap (b.params + (b.ins.length : Int)) = b.params + b.ins.length := wrap_in (by omega)
  simp [hw, hw']
  refine ⟨fun hlt => ⟨hlt, ?_⟩, fun hge => ?_⟩
  · refine call_plain _ (by simp) (by simp) (fun _ => rfl) (fun _ => refInst_pure (b.ins[m]?.getD default) (b.params + m) (by rw [getD_some hlt]; exact hi _ (List.getElem_mem hlt))) ?_
    simp [hlt]
    refine ⟨fun h => DLe_bool (blockOk_ins hlt h).symm, fun h => ?_⟩
    refine ⟨m + 1, ⟨by omega, fun j hj hj' => ?_⟩, by omega, DLe_int (wrap_succ (by omega)), (fun _ => .none), (by simp)⟩
    rcases Nat.lt_or_ge j m with h1 | h1
    · exact hb j hj h1
    · obtain rfl : j = m := by omega
      exact h
  · have he := blockOk_end (f := f) h0 h6 (by omega) (fun j hj => hb j hj (by omega))
    have en : b.params + (b.ins.length : Int) = b.params + b.ins.length := rfl
    refine ⟨fun hk1 => ?_, fun hk1 => ⟨fun hk2 => ?_, fun hk2 => DLe_bool ?_⟩⟩
    · refine call_plain _ (by simp) (by simp) (fun _ => rfl) (fun _ => goes_pure f b.to b.args (b.params + b.ins.length)) ?_
      simp
      refine DLe_bool ?_
      rw [he, endB_jump hk1, Bool.eq_iff_iff]
      simp [and_assoc]
    · refine call_plain _ (by simp) (by simp) (fun _ => rfl) (fun _ => goes_pure f b.to b.args (b.params + b.ins.length)) ?_
      simp
      refine call_plain _ (by simp) (by simp) (fun _ => rfl) (fun _ => goes_pure f b.els b.elses (b.params + b.ins.length)) ?_
      simp
      refine DLe_bool ?_
      rw [he, endB_if hk2]
    · rw [he, endB_other hk1 hk2, Bool.eq_iff_iff]
      simp [and_assoc]

set_option maxRecDepth 10000 in
theorem refFunc_pure (f : Func) (hi : ∀ b ∈ f.blocks, ∀ i ∈ b.ins, i.args.length ≤ 17592186044416) :
    APure Try.prog 28 [.agg (funcC f)] (.bool (funcOk f)) := by
  refine apureG _ [] Try.func28 (by kernel_rfl) t_marlineref05_Func u_marlineref05_Func rfl rfl (fun _ => ?_)
  simp [c_marlineref05_Func, r_marlineref05_Func]
  refine call_plain _ (by simp) (by simp) (fun _ => rfl) (fun _ => refName_pure f.name) ?_
  simp
  refine ⟨fun h => DLe_bool ?_, fun a1 a2 a3 a4 a5 a6 => ⟨fun h => DLe_bool ?_, fun h => ⟨List.length_pos_iff.2 h, fun hp => DLe_bool ?_, fun hp => ?_⟩⟩⟩
  · symm
    rcases h with ((((h | h) | h) | h) | h) | h
    · exact funcOk_name h
    · exact funcOk_b1 h
    · exact funcOk_b3 h
    · exact funcOk_p0 h
    · exact funcOk_p6 h
    · exact funcOk_n (by omega)
  · rw [funcOk_nil a1 a2 a3 a4 a5 (by simp [h])]
    rfl
  · have hl := List.length_pos_iff.2 h
    rw [getD_some hl] at hp
    rw [funcOk_cons a1 a2 a3 a4 a5 (by omega) hl]
    simp [hp]
  have hl := List.length_pos_iff.2 h
  rw [getD_some hl] at hp
  have hf := funcOk_cons a1 a2 a3 a4 a5 (by omega) hl
  refine loop_c (κ := Nat) (fun m => m ≤ f.blocks.length ∧ ∀ j (h : j < f.blocks.length), j < m → blockOk f f.blocks[j] = true) (fun m => f.blocks.length - m) (fun m => [(sl 4, .int m)]) (fun _ => []) 0 0 (fun _ => .none) (by simp) (by simp) ?_
  rintro m ⟨hm, hb⟩
  simp
  refine ⟨fun hlt => ?_, fun hge => DLe_bool ?_⟩
  · refine call_plain _ (by simp) (by simp) (fun _ => rfl) (fun _ => refBlock_pure f m hlt (hi _ (List.getElem_mem hlt))) ?_
    simp
    refine ⟨fun h => DLe_bool ?_, fun h => ?_⟩
    · rw [hf, all_no hlt h]; simp
    refine ⟨m + 1, ⟨by omega, fun j hj hj' => ?_⟩, by omega, DLe_int (wrap_succ (by omega)), (fun _ => .none), (by simp)⟩
    rcases Nat.lt_or_ge j m with h1 | h1
    · exact hb j hj h1
    · obtain rfl : j = m := by omega
      exact h
  · rw [hf, all_yes (fun j hj => hb j hj (by omega)), hp]; simp

set_option maxRecDepth 10000 in
theorem sameInst_pure (x y : Inst) :
    APure Try.prog 62 [.agg (instC x), .agg (instC y)] (.bool (sameInst x y)) := by
  refine apureG _ [] Try.func62 (by kernel_rfl) t_marlineref05_SameInst u_marlineref05_SameInst rfl rfl (fun _ => ?_)
  simp [c_marlineref05_SameInst, r_marlineref05_SameInst]
  refine call_plain _ (by simp) (by simp) (fun _ => rfl) (fun _ => ints_pure x.args y.args) ?_
  simp
  refine DLe_bool ?_
  rw [Bool.eq_iff_iff, sameInst_iff]
  obtain ⟨o, a, b, k, n, l⟩ := x
  obtain ⟨o', a', b', k', n', l'⟩ := y
  simp
  norm_cast
  constructor
  · rintro ⟨⟨⟨⟨⟨h1, h2⟩, h3⟩, h4⟩, h5⟩, h6⟩
    exact ⟨h2, h3, h4, h5, h6, h1⟩
  · rintro ⟨h2, h3, h4, h5, h6, h1⟩
    exact ⟨⟨⟨⟨⟨h1, h2⟩, h3⟩, h4⟩, h5⟩, h6⟩

theorem sameBlock_ends {x y : Block} (h : (((((((¬x.args = y.args ∨ ¬x.elses = y.elses) ∨ ¬x.params = y.params) ∨ ¬(x.ins.length : Int) = y.ins.length) ∨ ¬x.kind = y.kind) ∨ ¬x.ta = y.ta) ∨ ¬x.to = y.to) ∨ ¬x.els = y.els)) : sameBlock x y = false := by
  rw [← Bool.not_eq_true, sameBlock_iff]
  rintro rfl
  simp at h

set_option maxRecDepth 10000 in
theorem sameBlock_pure (x y : Block) :
    APure Try.prog 35 [.agg (blockC x), .agg (blockC y)] (.bool (sameBlock x y)) := by
  refine apureG _ [] Try.func35 (by kernel_rfl) t_marlineref05_SameBlock u_marlineref05_SameBlock rfl rfl (fun hx => ?_)
  simp [c_marlineref05_SameBlock, r_marlineref05_SameBlock]
  refine call_plain _ (by simp) (by simp) (fun _ => rfl) (fun _ => ints_pure x.args y.args) ?_
  simp
  refine call_plain _ (by simp) (by simp) (fun _ => rfl) (fun _ => ints_pure x.elses y.elses) ?_
  simp
  refine ⟨fun h => DLe_bool (sameBlock_ends h).symm, fun e1 e2 e3 e4 e5 e6 e7 e8 => ?_⟩
  have hl : x.ins.length = y.ins.length := by omega
  have hm63 := lenAgg hx 1 rfl
  refine loop_c (κ := Nat) (fun m => m ≤ x.ins.length ∧ ∀ j (h : j < x.ins.length) (h' : j < y.ins.length), j < m → sameInst x.ins[j] y.ins[j] = true) (fun m => x.ins.length - m) (fun m => [(sl 6, .int m)]) (fun _ => []) 0 0 (fun _ => .none) (by simp) (by simp) ?_
  rintro m ⟨hm, hb⟩
  simp
  refine ⟨fun hlt => ⟨hlt, by omega, ?_⟩, fun hge => DLe_bool ?_⟩
  · have hlt' : m < y.ins.length := by omega
    refine call_plain _ (by simp) (by simp) (fun _ => rfl) (fun _ => sameInst_pure (x.ins[m]?.getD default) (y.ins[m]?.getD default)) ?_
    simp [hlt, hlt']
    refine ⟨fun h => DLe_bool ?_, fun h => ?_⟩
    · unfold sameBlock; rw [beq_ins_no hlt hlt' h]; simp
    refine ⟨m + 1, ⟨by omega, fun j hj hj' hj'' => ?_⟩, by omega, DLe_int (wrap_succ (by omega)), (fun _ => .none), (by simp)⟩
    rcases Nat.lt_or_ge j m with h1 | h1
    · exact hb j hj hj' h1
    · obtain rfl : j = m := by omega
      exact h
  · symm
    unfold sameBlock sameEnds
    rw [beq_ins_yes hl (fun j h h' => hb j h h' (by omega))]
    simp [e1, e2, e3, e4, e5, e6, e7, e8]

end Go.Proofs.Ytghlfjpmpalpdaa
