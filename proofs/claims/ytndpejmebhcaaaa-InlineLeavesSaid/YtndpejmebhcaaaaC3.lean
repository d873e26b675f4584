/- Contracts by the evaluator: the document's layer 14. -/
import Derived.Test.YtndpejmebhcaaaaLC
import Derived.Test.YtndpejmebhcaaaaB2
import Derived.Test.YtndpejmebhcaaaaB3
import Derived.Test.YtndpejmebhcaaaaNum
namespace Go.Proofs.Ytndpejmebhcaaaa
open Go.RowKit

theorem appRow_int {ys : List Int} {k : Nat} {y : Int} (h : ys[k]?.getD 0 = y) : ∀ i, i < k + 1 → appRow k (fun i => intC (ys[i]?.getD 0)) (fun i => List.take 1 (List.drop i [DV.int y])) i = intC (ys[i]?.getD 0) := by
  intro i hi
  unfold appRow
  split
  · rfl
  · obtain rfl : i = k := by omega
    rw [h]
    simp [intC]

set_option maxRecDepth 10000 in
theorem turns_own (l nu : List Int) (hl : l.length ≤ 17592186044416) (hin : AllIn (inL nu) l) : AOwn Try.prog 79 [intsD l, intsD nu] 3 1 (turnsL l nu).length (fun k => intC ((turnsL l nu)[k]?.getD 0)) := by
  refine aownG _ [] Try.func79 (by kernel_rfl) t_marlineref14_turns u_marlineref14_turns rfl rfl (fun _ => ?_)
  simp [c_marlineref14_turns, r_marlineref14_turns]
  refine loop_s (κ := Nat) (fun k => k ≤ l.length) (fun k => l.length - k) (fun k => [(sl 6, .int k), (sl 5, .own 0 k)]) (fun k => [(0, .row 3 1 k (fun i => intC ((turnsL l nu)[i]?.getD 0)))]) 1 0 (srcs [(0, .nil)]) (by simp) (by simp <;> (intros; omega)) ?_
  intro k hk
  simp
  refine ⟨fun hlt => ?_, fun hge => ?_⟩
  · have hk' := hin k hlt
    rw [getD_some hlt]
    refine ⟨hlt, hk', by omega, k + 1, by omega, by omega, srcs [(0, .id 14)], ?_⟩
    simp [SLeK]
    exact ⟨DLe_int (wrap_succ (by omega)), appRow_int (turnsL_get hlt)⟩
  · obtain rfl : k = l.length := by omega
    rfl

set_option maxRecDepth 10000 in
theorem mapInst_of (g : Int → Int) (x : Inst) {a b : Int} (ha : a = if isOne x.op then g x.a else x.a) (hb : b = if isTwo x.op then g x.b else x.b) : [DV.int x.op, DV.int a, DV.int b, DV.lit (Value.int IntKind.u64 x.k), DV.str x.name, intsD (x.args.map g)] = instC (mapInst g x) := by
  subst ha; subst hb
  rfl

set_option maxRecDepth 10000 in
theorem turn_pure (x : Inst) (nu : List Int) (hl : x.args.length ≤ 17592186044416) (hin : InstIn (inL nu) x) : APure Try.prog 78 [.agg (instC x), intsD nu] (.agg (instC (mapInst (nuAt nu) x))) := by
  refine apureG _ [] Try.func78 (by kernel_rfl) t_marlineref14_turn u_marlineref14_turn rfl rfl (fun _ => ?_)
  have hc : APure Try.prog 79 [intsD x.args, intsD nu] (intsD (turnsL x.args nu)) := (turns_own x.args nu hl hin.args).pure
  have fin : ∀ a b : Int, (a = if isOne x.op then nuAt nu x.a else x.a) → (b = if isTwo x.op then nuAt nu x.b else x.b) → DLe (.agg [DV.int x.op, DV.int a, DV.int b, DV.lit (Value.int IntKind.u64 x.k), DV.str x.name, intsD (turnsL x.args nu)]) (.agg (instC (mapInst (nuAt nu) x))) := fun a b ha hb => by
    rw [← mapInst_of (nuAt nu) x ha hb]; exact DLe.refl _
  by_cases h2 : isTwo x.op = true
  · have h1 : isOne x.op = true := by simp [isOne, h2]
    have ha := hin.a h1
    have hb := hin.b h2
    have fin := fin (nuAt nu x.a) (nuAt nu x.b) (by rw [if_pos h1]) (by rw [if_pos h2])
    simp [isTwo] at h2
    simp [c_marlineref14_turn, r_marlineref14_turn, h2]
    refine ⟨ha, hb, call_plain _ (by simp) (by simp) (fun _ => rfl) (fun _ => hc) ?_⟩
    simp
    exact fin
  · have fin := fun a ha => fin a x.b ha (by rw [if_neg h2])
    by_cases h1 : isOne x.op = true
    · have ha := hin.a h1
      have fin := fin (nuAt nu x.a) (by rw [if_pos h1])
      have h1' := (isOne_iff _).1 h1
      rw [isTwo_iff] at h2
      rcases (by omega : x.op = 13 ∨ x.op = 16) with h | h
      all_goals
        simp [h] at fin
        simp [c_marlineref14_turn, r_marlineref14_turn, h]
        refine ⟨ha, call_plain _ (by simp) (by simp) (fun _ => rfl) (fun _ => hc) ?_⟩
        simp
        exact fin
    · have fin := fin x.a (by rw [if_neg h1])
      rw [isOne_iff] at h1
      have h13 : ¬ x.op = 13 := by omega
      have h16 : ¬ x.op = 16 := by omega
      rcases (by omega : ¬ 2 ≤ x.op ∨ (2 ≤ x.op ∧ ¬ x.op ≤ 11)) with h | h
      all_goals
        simp [c_marlineref14_turn, r_marlineref14_turn, h13, h16, h]
        refine call_plain _ (by simp) (by simp) (fun _ => rfl) (fun _ => hc) ?_
        simp
        exact fin

end Go.Proofs.Ytndpejmebhcaaaa
