/- Contracts by the evaluator: layer 14's numbers. -/
import Derived.Test.YtndpejmebhcaaaaC3
namespace Go.Proofs.Ytndpejmebhcaaaa
open Go.RowKit

@[simp] theorem mapO_frz_caps (p : Bool) (H : Heap) (caps : List DV) : mapO (frz p H 5) (caps.map AV.d) = some caps := by
  induction caps with
  | nil => rfl
  | cons c caps ih => simp [mapO, ih, frz]

theorem appRow_inst {ys : List Inst} {k : Nat} {y : Inst} (h : ys[k]?.getD default = y) : ∀ i, i < k + 1 → appRow k (fun i => instC (ys[i]?.getD default)) (fun i => List.take 6 (List.drop (i * 6) [DV.int y.op, DV.int y.a, DV.int y.b, DV.lit (Value.int IntKind.u64 y.k), DV.str y.name, intsD y.args])) i = instC (ys[i]?.getD default) := by
  intro i hi
  unfold appRow
  split
  · rfl
  · obtain rfl : i = k := by omega
    rw [h]
    simp [instC]

/-- A function value tells g v of each v of dom. -/
def Tells (F : FuncId) (caps : List DV) (dom : Int → Prop) (g : Int → Int) : Prop := ∀ v, dom v → APure Try.prog F (.int v :: caps) (.int (g v))

set_option maxRecDepth 10000 in
theorem numAll_pure {F : FuncId} {caps : List DV} {dom : Int → Prop} {g : Int → Int} (hF : Tells F caps dom g) (l : List Int) (hl : l.length ≤ 17592186044416) (hin : AllIn dom l) :
    APure Try.prog 94 [.agg [.fn F caps], intsD l] (intsD (l.map g)) := by
  refine apureG _ [] Try.func94 (by kernel_rfl) t__inline_numbers__all u__inline_numbers__all rfl rfl (fun _ => ?_)
  obtain ⟨ys, hys⟩ : ∃ ys, ys = l.map g := ⟨_, rfl⟩
  rw [← hys]
  have hyl : ys.length = l.length := by rw [hys]; simp
  have hyk : ∀ k (h : k < l.length), ys[k]?.getD 0 = g l[k] := fun k h => by rw [hys]; simp [h]
  clear hys
  simp [c__inline_numbers__all, r__inline_numbers__all]
  refine loop_c (κ := Nat) (fun k => k ≤ l.length) (fun k => l.length - k) (fun k => [(sl 10, .int k), (sl 5, .own 0 k)]) (fun k => [(0, .row 3 1 k (fun i => intC (ys[i]?.getD 0)))]) 1 0 (srcs [(0, .nil)]) (by simp) (by simp <;> (intros; omega)) ?_
  intro k hk
  simp
  refine ⟨fun hlt => ?_, fun hge => intsD_le (by omega) (fun i hi => by rw [getD_some hi])⟩
  have hc := hF _ (hin k hlt)
  rw [getD_some hlt]
  refine ⟨hlt, call_plain _ (by simp) (by simp) (fun _ => by simp) (fun _ => hc) ?_⟩
  simp
  refine ⟨by omega, k + 1, by omega, by omega, srcs [(0, .id 11)], ?_⟩
  simp
  exact ⟨DLe_int (wrap_succ (by omega)), appRow_int (hyk k hlt)⟩

set_option maxRecDepth 10000 in
theorem numInst_pure {F : FuncId} {caps : List DV} {dom : Int → Prop} {g : Int → Int} (hF : Tells F caps dom g) (x : Inst) (hl : x.args.length ≤ 17592186044416) (hin : InstIn dom x) :
    APure Try.prog 93 [.agg [.fn F caps], .agg (instC x)] (.agg (instC (mapInst g x))) := by
  refine apureG _ [] Try.func93 (by kernel_rfl) t__inline_numbers__inst u__inline_numbers__inst rfl rfl (fun _ => ?_)
  have hc := numAll_pure hF x.args hl hin.args
  have fin : ∀ a b : Int, (a = if isOne x.op then g x.a else x.a) → (b = if isTwo x.op then g x.b else x.b) → DLe (.agg [DV.int x.op, DV.int a, DV.int b, DV.lit (Value.int IntKind.u64 x.k), DV.str x.name, intsD (x.args.map g)]) (.agg (instC (mapInst g x))) := fun a b ha hb => by
    rw [← mapInst_of g x ha hb]; exact DLe.refl _
  by_cases h2 : isTwo x.op = true
  · have h1 : isOne x.op = true := by simp [isOne, h2]
    have ha := hF _ (hin.a h1)
    have hb := hF _ (hin.b h2)
    have fin := fin (g x.a) (g x.b) (by rw [if_pos h1]) (by rw [if_pos h2])
    simp [isTwo] at h2
    simp [c__inline_numbers__inst, r__inline_numbers__inst, h2]
    refine call_plain _ (by simp) (by simp) (fun _ => by simp) (fun _ => ha) ?_
    simp
    refine call_plain _ (by simp) (by simp) (fun _ => by simp) (fun _ => hb) ?_
    simp
    refine call_plain _ (by simp) (by simp) (fun _ => rfl) (fun _ => hc) ?_
    simp
    exact fin
  · have fin := fun a ha => fin a x.b ha (by rw [if_neg h2])
    by_cases h1 : isOne x.op = true
    · have ha := hF _ (hin.a h1)
      have fin := fin (g x.a) (by rw [if_pos h1])
      have h1' := (isOne_iff _).1 h1
      rw [isTwo_iff] at h2
      rcases (by omega : x.op = 13 ∨ x.op = 16) with h | h
      all_goals
        simp [h] at fin
        simp [c__inline_numbers__inst, r__inline_numbers__inst, h]
        refine call_plain _ (by simp) (by simp) (fun _ => by simp) (fun _ => ha) ?_
        simp
        refine call_plain _ (by simp) (by simp) (fun _ => rfl) (fun _ => hc) ?_
        simp
        exact fin
    · have fin := fin x.a (by rw [if_neg h1])
      rw [isOne_iff] at h1
      have h13 : ¬ x.op = 13 := by omega
      have h16 : ¬ x.op = 16 := by omega
      rcases (by omega : ¬ 2 ≤ x.op ∨ (2 ≤ x.op ∧ ¬ x.op ≤ 11)) with h | h
      all_goals
        simp [c__inline_numbers__inst, r__inline_numbers__inst, h13, h16, h]
        refine call_plain _ (by simp) (by simp) (fun _ => rfl) (fun _ => hc) ?_
        simp
        exact fin

set_option maxRecDepth 10000 in
theorem numInsts_pure {F : FuncId} {caps : List DV} {dom : Int → Prop} {g : Int → Int} (hF : Tells F caps dom g) (l : List Inst) (hl : l.length ≤ 1000) (hx : ∀ k (h : k < l.length), l[k].args.length ≤ 17592186044416 ∧ InstIn dom l[k]) :
    APure Try.prog 72 [.agg [.fn F caps], insD l] (insD (l.map (mapInst g))) := by
  refine apureG _ [] Try.func72 (by kernel_rfl) t__inline_numbers__insts u__inline_numbers__insts rfl rfl (fun _ => ?_)
  obtain ⟨ys, hys⟩ : ∃ ys, ys = l.map (mapInst g) := ⟨_, rfl⟩
  rw [← hys]
  have hyl : ys.length = l.length := by rw [hys]; simp
  have hyk : ∀ k (h : k < l.length), ys[k]?.getD default = mapInst g l[k] := fun k h => by rw [hys]; simp [h]
  clear hys
  simp [c__inline_numbers__insts, r__inline_numbers__insts]
  refine loop_c (κ := Nat) (fun k => k ≤ l.length) (fun k => l.length - k) (fun k => [(sl 10, .int k), (sl 5, .own 0 k)]) (fun k => [(0, .row 74 6 k (fun i => instC (ys[i]?.getD default)))]) 1 0 (srcs [(0, .nil)]) (by simp) (by simp <;> (intros; omega)) ?_
  intro k hk
  simp
  refine ⟨fun hlt => ?_, fun hge => insD_le (by omega) (fun i hi => by rw [getD_some hi])⟩
  have hc := numInst_pure hF l[k] (hx k hlt).1 (hx k hlt).2
  rw [getD_some hlt]
  refine ⟨hlt, call_plain _ (by simp) (by simp) (fun _ => rfl) (fun _ => hc) ?_⟩
  simp
  refine ⟨by omega, k + 1, by omega, by omega, srcs [(0, .id 11)], ?_⟩
  simp
  exact ⟨DLe_int (wrap_succ (by omega)), appRow_inst (hyk k hlt)⟩

set_option maxRecDepth 10000 in
theorem numEnd_pure {F : FuncId} {caps : List DV} {dom : Int → Prop} {g : Int → Int} (hF : Tells F caps dom g) (b : Block) (hl : b.args.length ≤ 17592186044416) (hl' : b.elses.length ≤ 17592186044416) (hin : AllIn dom b.args) (hin' : AllIn dom b.elses) (ht : ¬ b.kind = 1 → dom b.ta) :
    APure Try.prog 73 [.agg [.fn F caps], .agg (termC b)] (.agg [.int b.kind, .int (if b.kind = 1 then b.ta else g b.ta), .int b.to, intsD (b.args.map g), .int b.els, intsD (b.elses.map g)]) := by
  refine apureG _ [] Try.func73 (by kernel_rfl) t__inline_numbers__end u__inline_numbers__end rfl rfl (fun _ => ?_)
  have hc := numAll_pure hF b.args hl hin
  have hc' := numAll_pure hF b.elses hl' hin'
  simp [c__inline_numbers__end, r__inline_numbers__end]
  refine call_plain _ (by simp) (by simp) (fun _ => rfl) (fun _ => hc) ?_
  simp
  refine call_plain _ (by simp) (by simp) (fun _ => rfl) (fun _ => hc') ?_
  simp
  refine ⟨fun h => ?_, fun h => ?_⟩
  · have hd := hF _ (ht h)
    refine call_plain _ (by simp) (by simp) (fun _ => by simp) (fun _ => hd) ?_
    simp [h]
  · simp [h]

end Go.Proofs.Ytndpejmebhcaaaa
