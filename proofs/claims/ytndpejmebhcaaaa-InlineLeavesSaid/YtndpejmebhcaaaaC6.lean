/- Contract by the evaluator: inline.Put. -/
import Derived.Test.YtndpejmebhcaaaaC5
namespace Go.Proofs.Ytndpejmebhcaaaa
open Go.RowKit

set_option maxHeartbeats 2000000 in
set_option maxRecDepth 10000 in
theorem putI_pure (b leaf : Block) (at_ : Int) (hb : NumsOk b) (hl : NumsOk leaf) :
    APure Try.prog 40 [.agg (blockC b), .agg (blockC leaf), .int at_] (.tup [.agg (blockC (if putYes b leaf at_ then putB b leaf at_ else b)), .bool (putYes b leaf at_)]) := by
  refine apureG _ [] Try.func40 (by kernel_rfl) t_inline_Put u_inline_Put rfl rfl (fun _ => ?_)
  have hw : IntKind.i64.wrap ((b.ins.length : Int) - 1) = b.ins.length - 1 := wrap_in (by have := hb.n32; omega)
  have hw' : IntKind.i64.wrap ((b.ins.length : Int) - 1 + leaf.ins.length) = b.ins.length - 1 + leaf.ins.length := wrap_in (by have := hb.n32; have := hl.n32; omega)
  simp [c_inline_Put, r_inline_Put, hw, hw']
  refine ⟨fun h1 h2 h3 => ⟨⟨⟨h1, h2⟩, h3⟩, h1, h2⟩, fun h => ?_, fun h0 h1 h2 h3 h4 h5 => ⟨⟨h0, h1⟩, ⟨h0, by omega⟩, ?_⟩⟩
  · have e : putYes b leaf at_ = false := by
      rw [← Bool.not_eq_true]
      intro hy
      simp [putYes, insAt] at hy
      obtain ⟨⟨⟨⟨⟨a1, a2⟩, a3⟩, a4⟩, a5⟩, a6⟩ := hy
      rcases h with (((((h | h) | h) | h) | h) | h)
      · omega
      · omega
      · exact h (of_decide_eq_true a3)
      · exact h (of_decide_eq_true a4)
      · exact h a5
      · omega
    rw [e]
    exact DLe.refl _
  have e : putYes b leaf at_ = true := by
    unfold putYes insAt
    rw [decide_eq_true h0, decide_eq_true h1, decide_eq_true h2, decide_eq_true h3, decide_eq_true h4, decide_eq_true h5]; rfl
  rw [e]
  obtain ⟨k, rfl⟩ := Int.eq_ofNat_of_zero_le h0
  have hk : k < b.ins.length := by omega
  have hn := hb.n32
  have hp := hb.p6
  have hp0 := hb.p0
  have hL : LeafOk leaf (b.ins[k]?.getD default).args (b.params + (k : Int)) := ⟨h3, hl.p0, hl.p6, hl.n32, by omega, by omega, hl.ta (by omega)⟩
  have hw3 : IntKind.i64.wrap (b.params + (k : Int)) = b.params + k := wrap_in (by omega)
  have hw4 : IntKind.i64.wrap ((k : Int) + 1) = (k : Int) + 1 := wrap_in (by omega)
  have T1 := put1_pure hL
  have T2 := put2_pure hL
  have hdom : ∀ v, upTo (leaf.params + leaf.ins.length) v → upTo 1000 v := fun v hv => ⟨hv.1, by have := hv.2; have := hl.p6; have := hl.n32; omega⟩
  have hdom' : ∀ v, upTo (b.params + b.ins.length) v → upTo 1000 v := fun v hv => ⟨hv.1, by have := hv.2; omega⟩
  have c1 := numInsts_pure T1 leaf.ins (by have := hl.n32; omega) (fun j hj => ⟨by have := hl.args6 j hj; omega, (hl.ins j hj).mono (fun v hv => hdom v ⟨hv.1, by have := hv.2; omega⟩)⟩)
  have c2 := numInsts_pure T2 (b.ins.drop (k + 1)) (by simp; omega) (fun j hj => by
    simp at hj ⊢
    exact ⟨by have := hb.args6 (k + 1 + j) (by omega); omega, (hb.ins (k + 1 + j) (by omega)).mono (fun v hv => hdom' v ⟨hv.1, by have := hv.2; omega⟩)⟩)
  have c3 := numEnd_pure T2 b (by have := hb.args17; omega) (by have := hb.elses17; omega) (hb.args.mono hdom') (hb.elses.mono hdom') (fun h => hdom' _ (hb.ta h))
  rw [hw3]
  refine call_plain _ (by simp) (by simp) (fun _ => rfl) (fun _ => c1) ?_
  simp [hw4]
  refine ⟨⟨by omega, by omega⟩, call_arg c2 (by simp) (by simp) (fun _ => rfl) (fun _ => ?_) ?_⟩
  · exact ⟨DLe.refl _, insD_le (by simp) (fun j hj => by simp at hj; simp; rw [getD_some (by omega)]), trivial⟩
  simp
  have c4 := joined_pure [b.ins.take k, leaf.ins.map (mapInst (inNum leaf.params (b.ins[k]?.getD default).args (b.params + (k : Int)))), (b.ins.drop (k + 1)).map (mapInst (afterNum leaf.params (b.ins[k]?.getD default).args (b.params + (k : Int)) leaf.ta leaf.ins.length))] (by simp) (by simp; have := hl.n32; omega)
  refine call_arg c4 (by simp) (by simp) (fun _ => rfl) (fun _ => ⟨DLe_cells fun i hi => ?_, trivial⟩) ?_
  · rcases (by omega : i = 0 ∨ i = 1 ∨ i = 2) with rfl | rfl | rfl
    · exact ⟨insD_le (by simp; omega) (fun j hj => by simp at hj; simp; rw [getD_some (by omega)]), trivial⟩
    · exact ⟨DLe.refl _, trivial⟩
    · exact ⟨DLe.of_eq (by simp [List.map_drop]), trivial⟩
  simp
  refine call_plain _ (by simp) (by simp) (fun _ => rfl) (fun _ => c3) ?_
  simp
  exact DLe.of_eq (by simp [blockC, putB, inG, afterG, insAt, List.map_drop])

end Go.Proofs.Ytndpejmebhcaaaa
