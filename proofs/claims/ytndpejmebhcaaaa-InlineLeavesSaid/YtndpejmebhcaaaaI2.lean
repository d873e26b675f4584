/- Contracts by the evaluator: layer 14: blocks with small functions in the place of their calls. -/
import Derived.Test.YtndpejmebhcaaaaI1
namespace Go.Proofs.Ytndpejmebhcaaaa
open Go.RowKit

theorem SameParams.rfl' (f : Func) : SameParams f f := ⟨rfl, fun k b h => ⟨b, h, rfl⟩⟩
/-- A step of the search for calls. -/
theorem blockI_step {m : Module} {budget : Int} {b : Block} {at' : Nat} (h : at' < b.ins.length) : blockI m budget (b.ins.length - at') b at' =
    if (b.ins[at']'h).op = 14 then (match leafL m budget (b.ins[at']'h).name with
        | some l => if putYes b l at' = true then blockI m budget (b.ins.length - at' - 1) (putB b l at') (at' + l.ins.length) else blockI m budget (b.ins.length - (at' + 1)) b (at' + 1)
        | none => blockI m budget (b.ins.length - (at' + 1)) b (at' + 1)) else blockI m budget (b.ins.length - (at' + 1)) b (at' + 1) := by
  obtain ⟨n, hn⟩ : ∃ n, b.ins.length - at' = n + 1 := ⟨b.ins.length - at' - 1, by omega⟩
  rw [hn, show b.ins.length - (at' + 1) = n by omega]
  rw [blockI, List.getElem?_eq_getElem h]
  simp only [Nat.add_sub_cancel]
  cases leafL m budget (b.ins[at']'h).name <;> rfl
theorem blockI_end {m : Module} {budget : Int} {b : Block} {at' : Nat} (h : b.ins.length ≤ at') : blockI m budget (b.ins.length - at') b at' = b := by
  rw [show b.ins.length - at' = 0 by omega]
  rfl
/-- A right block stays right. -/
theorem blockOk_put {m : Module} (hok : ModOk m) {budget : Int} {f : Func} {b l : Block} {at' : Nat} (hb : blockOk f b = true) (h : at' < b.ins.length) (h14 : (b.ins[at']'h).op = 14) (hl : leafL m budget (b.ins[at']'h).name = some l) (hy : putYes b l at' = true) :
    blockOk f (putB b l at') = true ∧ (putB b l at').ins.length = b.ins.length - 1 + l.ins.length := by
  obtain ⟨y1, y2, y3, y4, y5⟩ := putYes_iff.1 hy
  rw [List.getElem?_eq_getElem h] at y3
  obtain ⟨g, hg, hgl, hk, hno⟩ := leafL_some hl
  have hgo : blockOk g l = true := List.all_eq_true.1 (funcOk_all (hok.funcs g (List.mem_of_find?_eq_some hg))) l (by rw [hgl]; simp)
  obtain ⟨P, hP⟩ := Int.eq_ofNat_of_zero_le (blockOk_iff.1 hb).1
  obtain ⟨Q, hQ⟩ := Int.eq_ofNat_of_zero_le (blockOk_iff.1 hgo).1
  exact ⟨putB_ok (.rfl' f) hb hgo hk hP hQ (List.getElem?_eq_getElem h) h14 (by simp at y3; omega) (by omega), by rw [put_length h, cnt_hi h]⟩
theorem nums_of {f : Func} {b : Block} (hf : funcOk f = true) (hb : blockOk f b = true) : NumsOk b := (blockOk_nums (f := f) (fun c hc => (blockOk_iff.1 (List.all_eq_true.1 (funcOk_all hf) c hc)).2.1) hb).1
theorem nums_leaf {m : Module} (hok : ModOk m) {budget : Int} {s : ByteArray} {l : Block} (h : leafL m budget s = some l) : NumsOk l := by
  obtain ⟨g, hg, hgl, hk, hno⟩ := leafL_some h
  have hgm := hok.funcs g (List.mem_of_find?_eq_some hg)
  exact nums_of hgm (List.all_eq_true.1 (funcOk_all hgm) l (by rw [hgl]; simp))

set_option maxRecDepth 10000 in
set_option maxHeartbeats 1000000 in
theorem blockI_pure (m : Module) (hok : ModOk m) (budget : Int) (f : Func) (hf : funcOk f = true) (b : Block) (hb : blockOk f b = true) : APure Try.prog 23 [.agg (blockC b), .agg (moduleC m), .int budget] (.agg (blockC (inlB m budget b))) := by
  refine apureG _ _ Try.func23 (by kernel_rfl) t_inline_Block u_inline_Block rfl rfl (fun _ => ?_)
  simp [c_inline_Block, r_inline_Block]
  obtain ⟨R, hR⟩ : ∃ R, inlB m budget b = R := ⟨_, rfl⟩
  rw [hR]
  refine loop_s (κ := Nat × Block) (fun q => q.1 ≤ q.2.ins.length ∧ blockOk f q.2 = true ∧ blockI m budget (q.2.ins.length - q.1) q.2 q.1 = R) (fun q => q.2.ins.length - q.1) (fun q => [(sl 7, .int q.1)])
    (fun q => [(0, .box ((blockC q.2).map .d)), (2, .box [.d (.int 0), .d (.lit (.slice none 0 0)), .d (.int 0), .d (.int 0), .d (.int 0), .d (.lit (.slice none 0 0)), .d (.int 0), .d (.lit (.slice none 0 0))])]) 3 (0, b) (srcs [(0, .id 0), (2, .id 2)])
    ⟨Nat.zero_le _, hb, hR⟩ (by simp) ?_
  rintro ⟨at1, b1⟩ ⟨hat, hb1, hR1⟩
  simp
  simp only at hat hb1 hR1
  have hb32 := (blockOk_iff.1 hb1).2.2.1
  refine ⟨fun hlt => ?_, fun hge => ?_⟩
  rotate_left
  · rw [blockI_end hge] at hR1
    rw [hR1]
    exact DLe.refl _
  rw [blockI_step hlt] at hR1
  simp only [getD_some hlt]
  refine ⟨hlt, fun h14 => ?_, fun h14 => ?_⟩
  · rw [if_neg h14] at hR1
    refine ⟨at1 + 1, b1, ⟨hlt, hb1, hR1⟩, by omega, srcs [(0, .id 0), (2, .id 2)], ?_⟩
    simp [SLeK]
    exact DLe_int (wrap_succ (by omega))
  · rw [if_pos h14] at hR1
    refine call_plain (ds := [.agg (moduleC m), .str b1.ins[at1].name, .int budget]) _ (by simp) (by simp) (fun _ => by simp; rfl) (fun _ => leafI_pure m _ budget) ?_
    simp
    cases hl : leafL m budget b1.ins[at1].name with
    | none =>
      rw [hl] at hR1
      simp
      refine ⟨at1 + 1, b1, ⟨hlt, hb1, hR1⟩, by omega, srcs [(0, .id 0), (2, .id 2)], ?_⟩
      simp [SLeK]
      exact DLe_int (wrap_succ (by omega))
    | some l =>
      rw [hl] at hR1
      simp only at hR1
      simp
      have hn1 := nums_of hf hb1
      have hn2 := nums_leaf hok hl
      refine call_plain (ds := [.agg (blockC b1), .agg (blockC l), .int at1]) _ (by simp) (by simp) (fun _ => by simp; exact ⟨rfl, rfl⟩) (fun _ => putI_pure b1 l at1 hn1 hn2) ?_
      simp
      refine ⟨fun hy => ?_, fun hy => ?_⟩
      · rw [if_neg (by simp [hy])] at hR1
        refine ⟨at1 + 1, b1, ⟨hlt, hb1, hR1⟩, by omega, srcs [(0, .id 0), (2, .id 2)], ?_⟩
        simp [SLeK]
        exact DLe_int (wrap_succ (by omega))
      · rw [if_pos hy] at hR1
        obtain ⟨k1, k2⟩ := blockOk_put hok hb1 hlt h14 hl hy
        have hl32 := hn2.n32
        refine ⟨at1 + l.ins.length, putB b1 l at1, ⟨by omega, k1, by rw [← hR1, k2]; congr 1; omega⟩, by omega, srcs [(0, .id 0), (2, .id 2)], ?_⟩
        simp [SLeK, hy]
        exact DLe_int (wrap_in (by omega))

set_option maxRecDepth 10000 in
set_option maxHeartbeats 1000000 in
theorem refBlockI_pure (m : Module) (hok : ModOk m) (budget : Int) (f : Func) (hf : funcOk f = true) (b : Block) (hb : blockOk f b = true) : APure Try.prog 24 [.agg (blockC b), .agg (moduleC m), .int budget] (.agg (blockC (inlB m budget b))) := by
  refine apureG _ _ Try.func24 (by kernel_rfl) t_marlineref14_Block u_marlineref14_Block rfl rfl (fun _ => ?_)
  simp [c_marlineref14_Block, r_marlineref14_Block]
  obtain ⟨R, hR⟩ : ∃ R, inlB m budget b = R := ⟨_, rfl⟩
  rw [hR]
  refine loop_s (κ := Nat × Block) (fun q => q.1 ≤ q.2.ins.length ∧ blockOk f q.2 = true ∧ blockI m budget (q.2.ins.length - q.1) q.2 q.1 = R) (fun q => q.2.ins.length - q.1) (fun q => [(sl 7, .int q.1)])
    (fun q => [(0, .box ((blockC q.2).map .d)), (2, .box [.d (.int 0), .d (.lit (.slice none 0 0)), .d (.int 0), .d (.int 0), .d (.int 0), .d (.lit (.slice none 0 0)), .d (.int 0), .d (.lit (.slice none 0 0))])]) 3 (0, b) (srcs [(0, .id 0), (2, .id 2)])
    ⟨Nat.zero_le _, hb, hR⟩ (by simp) ?_
  rintro ⟨at1, b1⟩ ⟨hat, hb1, hR1⟩
  simp
  simp only at hat hb1 hR1
  have hb32 := (blockOk_iff.1 hb1).2.2.1
  refine ⟨fun hlt => ?_, fun hge => ?_⟩
  rotate_left
  · rw [blockI_end hge] at hR1
    rw [hR1]
    exact DLe.refl _
  rw [blockI_step hlt] at hR1
  simp only [getD_some hlt]
  refine ⟨hlt, ?_⟩
  refine call_plain (ds := [.agg (moduleC m), .str b1.ins[at1].name]) _ (by simp) (by simp) (fun _ => by simp; rfl) (fun _ => findFunc_pure m _) ?_
  simp
  simp only [getD_some hlt]
  obtain ⟨k, hk, h1, h2⟩ | ⟨h1, h2⟩ := leads_eq m b1.ins[at1].name
  rotate_left
  · have hl : leafL m budget b1.ins[at1].name = none := by unfold leafL; rw [h2]
    rw [hl] at hR1
    rw [h1]
    refine ⟨hlt, fun _ h => by omega, fun _ => ⟨at1 + 1, b1, ⟨hlt, hb1, by simpa using hR1⟩, by omega, srcs [(0, .id 0), (2, .id 2)], ?_⟩⟩
    simp [SLeK]
    exact DLe_int (wrap_succ (by omega))
  rw [h1]
  obtain ⟨g, hg⟩ : ∃ g, m.funcs[k] = g := ⟨_, rfl⟩
  have hgm : g ∈ m.funcs := by rw [← hg]; exact List.getElem_mem hk
  have hgk : m.funcs[k]?.getD default = g := by rw [getD_some hk, hg]
  have hL : leafL m budget b1.ins[at1].name = if leafB g budget = true then g.blocks[0]? else none := by unfold leafL; rw [h2, hg]
  simp only [Int.toNat_natCast, hgk]
  refine ⟨hlt, fun h14 h0 => ⟨⟨by omega, by omega⟩, ?_⟩, fun h => ?_⟩
  rotate_left
  · rw [if_neg (fun h14 => by have := h h14; omega)] at hR1
    refine ⟨at1 + 1, b1, ⟨hlt, hb1, hR1⟩, by omega, srcs [(0, .id 0), (2, .id 2)], ?_⟩
    simp [SLeK]
    exact DLe_int (wrap_succ (by omega))
  rw [if_pos h14] at hR1
  refine call_plain (ds := [.agg (funcC g), .int budget]) _ (by simp) (by simp) (fun _ => by simp) (fun _ => refLeaf_pure g budget (fun c hc => by have := (blockOk_iff.1 (List.all_eq_true.1 (funcOk_all (hok.funcs g hgm)) c hc)).2.2.1; omega)) ?_
  simp
  simp only [hgk]
  refine ⟨fun hlf => ?_, fun hlf => ?_⟩
  · obtain ⟨l, hgl, _⟩ := leafB_iff.1 hlf
    have hl : leafL m budget b1.ins[at1].name = some l := by rw [hL, if_pos hlf, hgl]; rfl
    rw [hl] at hR1
    simp only at hR1
    have hg0 : g.blocks[0]?.getD default = l := by rw [hgl]; rfl
    have hn1 := nums_of hf hb1
    have hn2 := nums_leaf hok hl
    refine ⟨hk, by rw [hgl]; simp, ?_⟩
    simp only [hg0]
    refine call_plain (ds := [.agg (blockC b1), .agg (blockC l), .int at1]) _ (by simp) (by simp) (fun _ => by simp; rfl) (fun _ => putR_pure b1 l at1 hn1 hn2) ?_
    simp
    simp only [hgk, hg0]
    refine ⟨fun hy => ?_, fun hy => ?_⟩
    · rw [if_pos hy] at hR1
      obtain ⟨k1, k2⟩ := blockOk_put hok hb1 hlt h14 hl hy
      have hl32 := hn2.n32
      refine ⟨hk, by rw [hgl]; simp, at1 + l.ins.length, putB b1 l at1, ⟨by omega, k1, by rw [← hR1, k2]; congr 1; omega⟩, by omega, srcs [(0, .id 0), (2, .id 2)], ?_⟩
      simp [SLeK, hy]
      exact DLe_int (wrap_in (by omega))
    · rw [if_neg (by simp [hy])] at hR1
      refine ⟨at1 + 1, b1, ⟨hlt, hb1, hR1⟩, by omega, srcs [(0, .id 0), (2, .id 2)], ?_⟩
      simp [SLeK]
      exact DLe_int (wrap_succ (by omega))
  · rw [hlf] at hL
    rw [hL] at hR1
    refine ⟨at1 + 1, b1, ⟨hlt, hb1, by simpa using hR1⟩, by omega, srcs [(0, .id 0), (2, .id 2)], ?_⟩
    simp [SLeK]
    exact DLe_int (wrap_succ (by omega))

end Go.Proofs.Ytndpejmebhcaaaa
