/- Contracts by the evaluator: the program's layer 5, blocks and functions. -/
import Derived.Test.YtghlfjpmpalpdaaE1
namespace Go.Proofs.Ytghlfjpmpalpdaa
open Go.RowKit

set_option maxRecDepth 10000 in
theorem end1_pure (f : Func) (to : Int) (l : List Int) (n : Int) : APure Try.prog 75 [.int to, intsD l, .cref (funcC f) 0, .cref [.int n] 0] (.bool (goesB f to l n)) := by
  refine apureG _ _ Try.func75 (by kernel_rfl) t_ir_end_1 u_ir_end_1 rfl rfl (fun _ => ?_)
  simp [c_ir_end_1, r_ir_end_1]
  refine call_plain _ (by simp) (by simp) (fun _ => by simp) (fun _ => all_pure l n) ?_
  simp
  refine DLe_bool ?_
  by_cases h : (to < 0 ∨ (f.blocks.length : Int) ≤ to) ∨ ¬ (l.length : Int) = (f.blocks[to.toNat]?.getD default).params
  · rw [goesB_out h]
    rcases h with (h | h) | h
    · simp [show ¬ 0 ≤ to by omega]
    · simp [show ¬ to < f.blocks.length by omega]
    · simp [h]
  · rw [goesB_in (by omega) (by omega) (by omega)]
    simp [show 0 ≤ to by omega, show to < f.blocks.length by omega, show (l.length : Int) = (f.blocks[to.toNat]?.getD default).params by omega]

theorem one_int (x : Int) : DLe (.sl 1 1 fun i => List.take 1 (List.drop i [DV.int x])) (intsD [x]) :=
  intsD_le rfl (fun k hk => by obtain rfl : k = 0 := by simpa using hk
                               rfl)

set_option maxRecDepth 10000 in
theorem end_pure (f : Func) (b : Block) (h0 : 0 ≤ b.params) (h6 : b.params ≤ 6) (h32 : b.ins.length ≤ 32) : APure Try.prog 66 [.agg (funcC f), .agg (blockC b)] (.bool (endB f b)) := by
  have hw : IntKind.i64.wrap (b.params + (b.ins.length : Int)) = b.params + b.ins.length := wrap_in (by omega)
  refine apureG _ _ Try.func66 (by kernel_rfl) t_ir_end u_ir_end rfl rfl (fun _ => ?_)
  simp [c_ir_end, r_ir_end]
  refine call_plain _ (by simp) (by simp) (fun _ => rfl) (fun _ => values_pure b) ?_
  rw [hw]
  simp
  refine ⟨fun k1 => ?_, fun k1 => ⟨fun k2 => ?_, fun k2 => ⟨fun k3 => ?_, fun k3 => ?_⟩⟩⟩
  · refine call_plain _ (by simp) (by simp) (fun _ => by simp; rfl) (fun _ => end1_pure f b.to b.args (b.params + b.ins.length)) ?_
    simp
    refine DLe_bool ?_
    rw [endB_jump k1, Bool.eq_iff_iff]
    simp [and_assoc]
    constructor
    · rintro ⟨h1, h2, h3, h4⟩; exact ⟨h4, h1, h2, h3⟩
    · rintro ⟨h4, h1, h2, h3⟩; exact ⟨h1, h2, h3, h4⟩
  · refine call_arg (ds := ?ds) (all_pure [b.ta] (b.params + b.ins.length)) (by simp) (by simp) ?hd ?hle ?h
    case hd => intro _; simp; rfl
    case hle => intro _; exact ⟨one_int _, DLe.refl _, trivial⟩
    simp
    refine call_plain _ (by simp) (by simp) (fun _ => by simp; rfl) (fun _ => end1_pure f b.to b.args (b.params + b.ins.length)) ?_
    simp
    refine call_plain _ (by simp) (by simp) (fun _ => by simp; rfl) (fun _ => end1_pure f b.els b.elses (b.params + b.ins.length)) ?_
    simp
    refine DLe_bool ?_
    rw [endB_if k2, Bool.eq_iff_iff]
    simp [belowB]
  · refine call_arg (ds := ?ds2) (all_pure [b.ta] (b.params + b.ins.length)) (by simp) (by simp) ?hd2 ?hle2 ?h2
    case hd2 => intro _; simp; rfl
    case hle2 => intro _; exact ⟨one_int _, DLe.refl _, trivial⟩
    simp
    refine DLe_bool ?_
    rw [endB_other k1 k2, Bool.eq_iff_iff]
    simp [belowB, k3]
    constructor
    · rintro ⟨⟨⟨h1, h2, h3⟩, h4⟩, h5⟩; exact ⟨⟨⟨⟨h1, h4⟩, h5⟩, h2⟩, h3⟩
    · rintro ⟨⟨⟨⟨h1, h4⟩, h5⟩, h2⟩, h3⟩; exact ⟨⟨⟨h1, h2, h3⟩, h4⟩, h5⟩
  · rw [endB_other k1 k2, beq_eq_false_iff_ne.2 k3]
    exact DLe.refl _

set_option maxRecDepth 10000 in
theorem block_pure (f : Func) (b : Block) (hi : ∀ i ∈ b.ins, i.args.length ≤ 17592186044416) : APure Try.prog 45 [.agg (funcC f), .agg (blockC b)] (.bool (blockOk f b)) := by
  refine apureG _ _ Try.func45 (by kernel_rfl) t_ir_block u_ir_block rfl rfl (fun _ => ?_)
  simp [c_ir_block, r_ir_block]
  refine ⟨fun h => DLe_bool ?_, fun h0 h6 h32 => ?_⟩
  · symm
    rcases h with (h | h) | h
    · exact blockOk_lo h
    · exact blockOk_hi h
    · exact blockOk_many (by omega)
  refine loop_s (κ := Nat) (fun m => m ≤ b.ins.length ∧ ∀ j (h : j < b.ins.length), j < m → instOk b.ins[j] (b.params + j) = true) (fun m => b.ins.length - m) (fun m => [(sl 24, .int m)]) (fun _ => []) 0 0 (fun _ => .none) (by simp) (by simp) ?_
  rintro m ⟨hm, hb⟩
  have hw : IntKind.i64.wrap (b.params + (m : Int)) = b.params + m := wrap_in (by omega)
  simp [hw]
  refine ⟨fun hlt => ⟨hlt, ?_⟩, fun hge => ?_⟩
  · refine call_plain _ (by simp) (by simp) (fun _ => rfl) (fun _ => inst_pure (b.ins[m]?.getD default) (b.params + m) (by rw [getD_some hlt]; exact hi _ (List.getElem_mem hlt))) ?_
    simp [hlt]
    refine ⟨fun h => DLe_bool (blockOk_ins hlt h).symm, fun h => ?_⟩
    refine ⟨m + 1, ⟨by omega, fun j hj hj' => ?_⟩, by omega, fun _ => .none, ?_⟩
    · rcases Nat.lt_or_ge j m with h1 | h1
      · exact hb j hj h1
      · obtain rfl : j = m := by omega
        exact h
    · simp [SLeK]
      exact DLe_int (wrap_succ (by omega))
  · have he := blockOk_end (f := f) h0 h6 (by omega) (fun j hj => hb j hj (by omega))
    refine call_plain _ (by simp) (by simp) (fun _ => rfl) (fun _ => end_pure f b h0 h6 (by omega)) ?_
    simp
    exact DLe_bool he.symm

end Go.Proofs.Ytghlfjpmpalpdaa
