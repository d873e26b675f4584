/- Contracts by the evaluator: layer 14's two closures; rows joined. -/
import Derived.Test.YtndpejmebhcaaaaC4
import Derived.Test.YtndpejmebhcaaaaB4
import Derived.Test.YtndpejmebhcaaaaGrow
namespace Go.Proofs.Ytndpejmebhcaaaa
open Go.RowKit

/-- What is needed of a leaf at a place. -/
structure LeafOk (leaf : Block) (args : List Int) (first : Int) : Prop where
  p : (args.length : Int) = leaf.params
  p0 : 0 ≤ leaf.params
  p6 : leaf.params ≤ 6
  n : leaf.ins.length ≤ 32
  f0 : 0 ≤ first
  f1 : first ≤ 100
  t : upTo (leaf.params + leaf.ins.length) leaf.ta

def caps1 (leaf : Block) (args : List Int) (first : Int) : List DV := [.cref (blockC leaf) 0, .cref [intsD args] 0, .cref [.int first] 0]
def caps2 (leaf : Block) (args : List Int) (first : Int) : List DV := [.cref [.int first] 0, .cref [.fn 69 (caps1 leaf args first)] 0, .cref (blockC leaf) 0]

set_option maxRecDepth 10000 in
theorem put1_pure {leaf : Block} {args : List Int} {first : Int} (h : LeafOk leaf args first) : Tells 69 (caps1 leaf args first) (upTo 1000) (inNum leaf.params args first) := by
  intro v hv
  obtain ⟨hp, p0, p6, n, f0, f1, t⟩ := h
  refine apureG _ [] Try.func69 (by kernel_rfl) t_inline_Put_1 u_inline_Put_1 rfl rfl (fun _ => ?_)
  have hw : IntKind.i64.wrap (first + v) = first + v := wrap_in (by have := hv.1; have := hv.2; omega)
  have hw' : IntKind.i64.wrap (first + v - leaf.params) = first + v - leaf.params := wrap_in (by have := hv.1; have := hv.2; omega)
  simp [c_inline_Put_1, r_inline_Put_1, caps1, hw, hw']
  refine ⟨fun hlt => ⟨⟨hv.1, by omega⟩, DLe_int ?_⟩, fun hge => DLe_int ?_⟩
  · unfold inNum; rw [if_pos hlt]
  · unfold inNum; rw [if_neg (by omega)]

set_option maxRecDepth 10000 in
theorem put2_pure {leaf : Block} {args : List Int} {first : Int} (h : LeafOk leaf args first) : Tells 70 (caps2 leaf args first) (upTo 1000) (afterNum leaf.params args first leaf.ta leaf.ins.length) := by
  intro v hv
  have h1 := put1_pure h leaf.ta ⟨h.t.1, by have := h.t.2; have := h.p6; have := h.n; omega⟩
  obtain ⟨hp, p0, p6, n, f0, f1, t⟩ := h
  refine apureG _ [] Try.func70 (by kernel_rfl) t_inline_Put_2 u_inline_Put_2 rfl rfl (fun _ => ?_)
  have hw : IntKind.i64.wrap (v - 1) = v - 1 := wrap_in (by have := hv.1; have := hv.2; omega)
  have hw' : IntKind.i64.wrap (v - 1 + leaf.ins.length) = v - 1 + leaf.ins.length := wrap_in (by have := hv.1; have := hv.2; omega)
  simp [c_inline_Put_2, r_inline_Put_2, caps2, hw, hw']
  refine ⟨fun hlt => DLe_int ?_, fun hge => ⟨fun he => ?_, fun hne => DLe_int ?_⟩⟩
  · unfold afterNum; rw [if_pos hlt]
  · refine call_plain _ (by simp) (by simp) (fun _ => by simp) (fun _ => h1) ?_
    simp
    refine DLe_int ?_
    unfold afterNum; rw [if_neg (by omega), if_pos he]
  · unfold afterNum; rw [if_neg (by omega), if_neg hne]

theorem flat_facts {α : Type} (ls : List (List α)) (htot : ls.flatten.length ≤ 1000) : ∃ (fl : List α) (sz : Nat → Nat), sz 0 = 0 ∧ (∀ k (h : k < ls.length), sz (k + 1) = sz k + ls[k].length) ∧ (∀ k, k ≤ ls.length → sz k ≤ 1000) ∧ (sz ls.length = fl.length ∧ fl = ls.flatten) ∧
    ∀ k (h : k < ls.length) j, j < ls[k].length → fl[sz k + j]? = ls[k][j]? := by
  refine ⟨ls.flatten, fun k => (ls.take k).flatten.length, by simp, fun k h => ?_, fun k h => ?_, ⟨by simp, rfl⟩, fun k h j hj => ?_⟩
  · simp only []
    rw [List.take_succ_eq_append_getElem h, List.flatten_append, List.length_append]
    simp
  · have e : ls.flatten = (ls.take k).flatten ++ (ls.drop k).flatten := by rw [← List.flatten_append, List.take_append_drop]
    rw [e, List.length_append] at htot
    simp only []
    omega
  · have e : ls.flatten = (ls.take k).flatten ++ (ls[k] ++ (ls.drop (k + 1)).flatten) := by
      conv => lhs; rw [← List.take_append_drop k ls]
      rw [List.flatten_append, List.drop_eq_getElem_cons h, List.flatten_cons]
    rw [e, List.getElem?_append_right (by simp only []; omega)]
    simp only [Nat.add_sub_cancel_left]
    rw [List.getElem?_append_left hj]

theorem DLe_refl (x : DV) : DLe x x := DLe.refl x

set_option maxRecDepth 10000 in
theorem concat_pure (ls : List (List Inst)) (hn : ls.length ≤ 10) (htot : ls.flatten.length ≤ 1000) :
    APure Try.prog 92 [.sl 1 ls.length (fun k => [insD (ls[k]?.getD [])])] (insD ls.flatten) := by
  refine apureG _ _ Try.func92 (by kernel_rfl) t_slices_Concat___api_Inst_api_Inst_ u_slices_Concat___api_Inst_api_Inst_ rfl rfl (fun _ => ?_)
  obtain ⟨fl, sz, hs0, hsz, hs1, hsn, hfl⟩ := flat_facts ls htot
  simp [c_slices_Concat___api_Inst_api_Inst_, r_slices_Concat___api_Inst_api_Inst_]
  refine loop_c (κ := Nat) (fun k => k ≤ ls.length) (fun k => ls.length - k) (fun k => [(sl 11, .int k), (sl 3, .int (sz k))]) (fun k => []) 0 0 (srcs []) (by simp) (by simp [hs0]) ?_
  intro k hk
  simp
  refine ⟨fun hlt => ?_, fun hge => ?_⟩
  · have hle := hsz k hlt
    rw [getD_some hlt]
    have hw : IntKind.i64.wrap ((sz k : Int) + (ls[k].length : Int)) = sz (k + 1) := by rw [wrap_in (by have := hs1 (k + 1) hlt; omega)]; omega
    rw [hw]
    exact ⟨hlt, by omega, fun _ => ⟨k + 1, by omega, by omega, ⟨DLe_refl _, DLe_int (wrap_succ (by omega))⟩, srcs [], by simp⟩⟩
  obtain rfl : k = ls.length := by omega
  refine callo_k 0 (fun _ => []) (by simp) (by simp) rfl (grow_own (sz ls.length) (hs1 _ (Nat.le_refl _))) ?_
  simp
  refine loop_c (κ := Nat) (fun k => k ≤ ls.length) (fun k => ls.length - k) (fun k => [(sl 27, .int k), (sl 6, .own 0 (sz k))]) (fun k => [(0, .row 74 6 (sz k) (fun i => instC (fl[i]?.getD default)))]) 1 0 (srcs [(0, .id 2)]) (by simp) (by simp [hs0] <;> (intros; omega)) ?_
  intro k hk
  simp
  refine ⟨fun hlt => ?_, fun hge => by
    obtain ⟨h1, rfl⟩ := hsn
    exact insD_le (by rw [← h1]; congr 1; omega) (fun i hi => by rw [getD_some hi])⟩
  have hle := hsz k hlt
  have h2 := hs1 (k + 1) hlt
  rw [getD_some hlt]
  refine ⟨hlt, by omega, k + 1, by omega, by omega, srcs [(0, .id 7)], ?_⟩
  simp
  refine ⟨⟨by omega, DLe_int (wrap_succ (by omega))⟩, ⟨by omega, fun i hi => ?_⟩⟩
  unfold appRow
  split
  · rfl
  · rename_i hni
    have := hfl k hlt (i - sz k) (by omega)
    rw [show sz k + (i - sz k) = i by omega] at this
    rw [this]

set_option maxRecDepth 10000 in
theorem joined_pure (ls : List (List Inst)) (hn : ls.length ≤ 10) (htot : ls.flatten.length ≤ 1000) :
    APure Try.prog 71 [.sl 1 ls.length (fun k => [insD (ls[k]?.getD [])])] (insD ls.flatten) := by
  refine apureG _ [] Try.func71 (by kernel_rfl) t_inline_joined_api_Inst_ u_inline_joined_api_Inst_ rfl rfl (fun _ => ?_)
  simp [c_inline_joined_api_Inst_, r_inline_joined_api_Inst_]
  refine call_plain _ (by simp) (by simp) (fun _ => rfl) (fun _ => concat_pure ls hn htot) ?_
  simp

end Go.Proofs.Ytndpejmebhcaaaa
