/- Contracts by the evaluator: the laws of layer 14 on Put. -/
import Derived.Test.YtghlfjpmpalpdaaC7
import Derived.Test.YtghlfjpmpalpdaaNumQ
namespace Go.Proofs.Ytghlfjpmpalpdaa
open Go.RowKit

theorem insD_cells {len : Nat} {row : Nat → List DV} {xs : List Inst} (hl : len = xs.length) (h : ∀ i (hi : i < xs.length), DLes (row i) (instC xs[i])) : DLe (.sl 6 len row) (insD xs) := by
  subst hl
  exact DLe_cells fun i hi => by rw [List.getElem?_eq_getElem hi]; exact h i hi

/-- The document's example. -/
def b0 : Block := ⟨0, [⟨1, 0, 0, 2, ⟨#[]⟩, []⟩, ⟨14, 0, 0, 0, ⟨#[102]⟩, [0]⟩], 3, 1, 0, [], 0, []⟩
def l0 : Block := ⟨1, [], 3, 0, 0, [], 0, []⟩
def r0 : Block := ⟨0, [⟨1, 0, 0, 2, ⟨#[]⟩, []⟩], 3, 0, 0, [], 0, []⟩
theorem nums_l0 : NumsOk l0 := ⟨by decide, by decide, by decide, fun k h => by simp [l0] at h, fun k h => by simp [l0] at h, fun _ => by simp [l0, upTo], all_nil rfl, all_nil rfl, by decide, by decide⟩
theorem nums_b0 : NumsOk b0 := by
  refine ⟨by decide, by decide, by decide, fun k h => ?_, fun k h => ?_, fun _ => by simp [b0, upTo], all_nil rfl, all_nil rfl, by decide, by decide⟩
  · rcases (by simp [b0] at h; omega : k = 0 ∨ k = 1) with rfl | rfl
    · exact ⟨fun h => by simp [b0, isOne, isTwo] at h, fun h => by simp [b0, isTwo] at h, all_nil rfl⟩
    · exact ⟨fun h => by simp [b0, isOne, isTwo] at h, fun h => by simp [b0, isTwo] at h, fun j hj => by
        obtain rfl : j = 0 := by simpa [b0] using hj
        simp [b0, upTo]⟩
  · rcases (by simp [b0] at h; omega : k = 0 ∨ k = 1) with rfl | rfl <;> simp [b0]

set_option maxHeartbeats 2000000 in
set_option maxRecDepth 10000 in
theorem shown14_pure : APure Try.prog 32 [] (.bool true) := by
  refine apureG _ [] Try.func32 (by kernel_rfl) t_marlinelaw14_shown u_marlinelaw14_shown rfl rfl (fun _ => ?_)
  simp [c_marlinelaw14_shown, r_marlinelaw14_shown]
  have e : putYes b0 l0 1 = true := by decide
  have e2 : putB b0 l0 1 = r0 := by rfl
  have hc := putI_pure b0 l0 1 nums_b0 nums_l0
  rw [e, e2, if_pos rfl] at hc
  refine call_arg (ds := ?ds) hc (by simp) (by simp) (fun _ => ?_) (fun _ => ?_) ?_
  rotate_left
  · simp; rfl
  · refine ⟨DLe_agg ⟨DLe.refl _, insD_cells rfl fun k hk => ?_, DLe.refl _, DLe.refl _, DLe.refl _, intsD_nil, DLe.refl _, intsD_nil, trivial⟩, DLe_agg ⟨DLe.refl _, insD_nil, DLe.refl _, DLe.refl _, DLe.refl _, intsD_nil, DLe.refl _, intsD_nil, trivial⟩, DLe.refl _, trivial⟩
    rcases (by simp [b0] at hk; omega : k = 0 ∨ k = 1) with rfl | rfl
    · exact ⟨DLe.refl _, DLe.refl _, DLe.refl _, DLe.refl _, DLe.refl _, intsD_nil, trivial⟩
    · exact ⟨DLe.refl _, DLe.refl _, DLe.refl _, DLe.refl _, DLe.refl _, intsD_le rfl (fun k hk => by
        obtain rfl : k = 0 := by
          have hk' : k < 1 := hk
          omega
        rfl), trivial⟩
  simp [r0]

set_option maxHeartbeats 2000000 in
set_option maxRecDepth 10000 in
theorem puts_pure (f g : Func) (i k at_ : Int) (hf : ∀ b ∈ f.blocks, ∀ i ∈ b.ins, i.args.length ≤ 17592186044416) (hg : ∀ b ∈ g.blocks, ∀ i ∈ b.ins, i.args.length ≤ 17592186044416) :
    APure Try.prog 12 [.agg (funcC f ++ funcC g ++ [.int i, .int k, .int at_])] (.bool true) := by
  refine apureG _ [] Try.func12 (by kernel_rfl) t_marlinelaw14_InlinePuts u_marlinelaw14_InlinePuts rfl rfl (fun _ => ?_)
  simp [c_marlinelaw14_InlinePuts, r_marlinelaw14_InlinePuts]
  refine call_plain _ (by simp) (by simp) (fun _ => rfl) (fun _ => shown14_pure) ?_
  simp
  refine call_plain _ (by simp) (by simp) (fun _ => rfl) (fun _ => refFunc_pure f hf) ?_
  simp
  refine call_plain _ (by simp) (by simp) (fun _ => rfl) (fun _ => refFunc_pure g hg) ?_
  simp
  refine fun ff gg i0 i1 k0 k1 => ⟨⟨i0, i1⟩, ⟨k0, k1⟩, ?_⟩
  have hb := funcOk_nums ff (f.blocks[i.toNat]?.getD default) (by rw [getD_some (by omega)]; exact List.getElem_mem _)
  have hl := funcOk_nums gg (g.blocks[k.toNat]?.getD default) (by rw [getD_some (by omega)]; exact List.getElem_mem _)
  generalize he : f.blocks[i.toNat]?.getD default = b at *
  generalize he' : g.blocks[k.toNat]?.getD default = l at *
  refine call_plain _ (by simp) (by simp) (fun _ => rfl) (fun _ => putI_pure b l at_ hb hl) ?_
  generalize hr : (if putYes b l at_ = true then putB b l at_ else b) = r
  simp [he, he']
  refine ⟨⟨i0, i1⟩, ⟨k0, k1⟩, call_plain _ (by simp) (by simp) (fun _ => rfl) (fun _ => putR_pure b l at_ hb hl) ?_⟩
  rw [hr]
  simp
  have hsame := sameBlock_pure r r
  rw [(sameBlock_iff r r).2 rfl] at hsame
  refine call_plain _ (by simp) (by simp) (fun _ => rfl) (fun _ => hsame) ?_
  simp

set_option maxHeartbeats 2000000 in
set_option maxRecDepth 10000 in
theorem gone_pure (f g : Func) (i at_ : Int) (hf : ∀ b ∈ f.blocks, ∀ i ∈ b.ins, i.args.length ≤ 17592186044416) (hg : ∀ b ∈ g.blocks, ∀ i ∈ b.ins, i.args.length ≤ 17592186044416) :
    APure Try.prog 13 [.agg (funcC f ++ funcC g ++ [.int i, .int at_])] (.bool true) := by
  refine apureG _ [] Try.func13 (by kernel_rfl) t_marlinelaw14_InlineGone u_marlinelaw14_InlineGone rfl rfl (fun _ => ?_)
  simp [c_marlinelaw14_InlineGone, r_marlinelaw14_InlineGone]
  refine call_plain _ (by simp) (by simp) (fun _ => rfl) (fun _ => shown14_pure) ?_
  simp
  refine call_plain _ (by simp) (by simp) (fun _ => rfl) (fun _ => refFunc_pure f hf) ?_
  simp
  refine call_plain _ (by simp) (by simp) (fun _ => rfl) (fun _ => refFunc_pure g hg) ?_
  simp
  refine fun ff gg i0 i1 k1 => ⟨⟨i0, i1⟩, by omega, ?_⟩
  have hb := funcOk_nums ff (f.blocks[i.toNat]?.getD default) (by rw [getD_some (by omega)]; exact List.getElem_mem _)
  have hl := funcOk_nums gg (g.blocks[0]?.getD default) (by rw [getD_some (by omega)]; exact List.getElem_mem _)
  generalize he : f.blocks[i.toNat]?.getD default = b at *
  generalize he' : g.blocks[0]?.getD default = l at *
  refine call_plain _ (by simp) (by simp) (fun _ => rfl) (fun _ => putI_pure b l at_ hb hl) ?_
  by_cases hy : putYes b l at_ = true
  · rw [if_pos hy, hy]
    obtain ⟨r, hr⟩ : ∃ r, r = putB b l at_ := ⟨_, rfl⟩
    rw [← hr]
    simp
    have hy' := hy
    simp [putYes] at hy'
    obtain ⟨⟨⟨⟨⟨a1, a2⟩, a3⟩, a4⟩, a5⟩, a6⟩ := hy'
    obtain ⟨ak, rfl⟩ := Int.eq_ofNat_of_zero_le a1
    have hk : ak < b.ins.length := by omega
    have hn := hb.n32
    have hln := hl.n32
    have hrl : r.ins.length = b.ins.length - 1 + l.ins.length := by rw [hr, put_length hk, cnt_hi hk]
    have hw1 : IntKind.i64.wrap ((b.ins.length : Int) - 1) = b.ins.length - 1 := wrap_in (by omega)
    have hw2 : IntKind.i64.wrap ((b.ins.length : Int) - 1 + l.ins.length) = b.ins.length - 1 + l.ins.length := wrap_in (by omega)
    have hrp : r.params = b.params := by rw [hr]; rfl
    rw [hw1, hw2]
    refine ⟨fun h => ?_, fun _ _ => ?_⟩
    · rcases h with h | h
      · omega
      · exact absurd hrp h
    refine loop_s (κ := Nat) (fun j => j ≤ r.ins.length) (fun j => r.ins.length - j) (fun j => [(sl 13, .int j)]) (fun j => []) 0 0 (srcs []) (by simp) ?_ ?_
    · simp
    intro j hj
    have hw3 : IntKind.i64.wrap ((ak : Int) + l.ins.length) = ak + l.ins.length := wrap_in (by omega)
    have hw6 : IntKind.i64.wrap ((j : Int) + 1) = (j : Int) + 1 := wrap_in (by omega)
    by_cases hjr : j < r.ins.length
    · rcases (by omega : j < ak ∨ (ak ≤ j ∧ j < ak + l.ins.length) ∨ ak + l.ins.length ≤ j) with h1 | ⟨h1, h2⟩ | h1
      · have hx := put_lo (leaf := l) hk h1
        rw [← hr] at hx
        have hx : r.ins[j]?.getD default = b.ins[j]?.getD default := by rw [hx, getD_some (by omega : j < b.ins.length)]
        simp [hw3, h1, hx]
        refine fun _ => ⟨by omega, hjr, j + 1, by omega, by omega, srcs [], ?_⟩
        simp [SLeK]
        exact DLe_int (by omega)
      · obtain ⟨m, hm⟩ : ∃ m, m = j - ak := ⟨_, rfl⟩
        have hx := put_leaf (leaf := l) hk (j := m) (by omega)
        rw [← hr, show ak + m = j by omega] at hx
        have hx1 : (r.ins[j]?.getD default).op = (l.ins[m]?.getD default).op := by rw [hx, getD_some (by omega)]; rfl
        have hx2 : (r.ins[j]?.getD default).name = (l.ins[m]?.getD default).name := by rw [hx, getD_some (by omega)]; rfl
        have hx3 : (r.ins[j]?.getD default).k = (l.ins[m]?.getD default).k := by rw [hx, getD_some (by omega)]; rfl
        have h1' : ¬ j < ak := by omega
        have h2' : (j : Int) < (ak : Int) + l.ins.length := by omega
        have hw4 : IntKind.i64.wrap ((j : Int) - ak) = m := by rw [wrap_in (by omega)]; omega
        simp [hw3, hw4, h1', h2', hx1, hx2, hx3]
        refine fun _ => ⟨by omega, hjr, j + 1, by omega, by omega, srcs [], ?_⟩
        simp [SLeK]
        exact DLe_int (by omega)
      · obtain ⟨m, hm⟩ : ∃ m, m = j + 1 - l.ins.length := ⟨_, rfl⟩
        have hx := put_hi (leaf := l) hk (i := m) (by omega) (by omega)
        rw [← hr, cnt_hi (by omega), show m - 1 + l.ins.length = j by omega] at hx
        have hx1 : (r.ins[j]?.getD default).op = (b.ins[m]?.getD default).op := by rw [hx, getD_some (by omega)]; rfl
        have hx2 : (r.ins[j]?.getD default).name = (b.ins[m]?.getD default).name := by rw [hx, getD_some (by omega)]; rfl
        have hx3 : (r.ins[j]?.getD default).k = (b.ins[m]?.getD default).k := by rw [hx, getD_some (by omega)]; rfl
        have h1' : ¬ j < ak := by omega
        have h2' : ¬ (j : Int) < (ak : Int) + l.ins.length := by omega
        have hw4 : IntKind.i64.wrap (IntKind.i64.wrap ((j : Int) + 1) - l.ins.length) = m := by rw [hw6, wrap_in (by omega)]; omega
        simp [hw3, hw4, h1', h2', hx1, hx2, hx3]
        refine fun _ => ⟨by omega, hjr, j + 1, by omega, by omega, srcs [], ?_⟩
        simp [SLeK]
        exact DLe_int (by omega)
    · simp [hjr]
  · rw [if_neg hy]
    have hy : putYes b l at_ = false := by simpa using hy
    rw [hy]
    have hsame := sameBlock_pure b b
    rw [(sameBlock_iff b b).2 rfl] at hsame
    simp
    refine call_plain _ (by simp) (by simp) (fun _ => rfl) (fun _ => hsame) ?_
    simp

end Go.Proofs.Ytghlfjpmpalpdaa
