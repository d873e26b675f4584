/- Contracts by the evaluator: the document's layer 5. -/
import Derived.Test.YtghlfjpmpalpdaaB1
import Derived.Test.YtghlfjpmpalpdaaDat
import Derived.Test.YtghlfjpmpalpdaaSame
namespace Go.Proofs.Ytghlfjpmpalpdaa
open Go.RowKit

theorem insD_cells {len : Nat} {row : Nat → List DV} {xs : List Inst} (hl : len = xs.length) (h : ∀ i (hi : i < xs.length), DLes (row i) (instC xs[i])) : DLe (.sl 6 len row) (insD xs) := by
  subst hl
  exact DLe_cells fun i hi => by rw [List.getElem?_eq_getElem hi]; exact h i hi

theorem blocksD_cells {len : Nat} {row : Nat → List DV} {xs : List Block} (hl : len = xs.length) (h : ∀ i (hi : i < xs.length), DLes (row i) (blockC xs[i])) : DLe (.sl 8 len row) (blocksD xs) := by
  subst hl
  exact DLe_cells fun i hi => by rw [List.getElem?_eq_getElem hi]; exact h i hi

theorem funcsD_cells {len : Nat} {row : Nat → List DV} {xs : List Func} (hl : len = xs.length) (h : ∀ i (hi : i < xs.length), DLes (row i) (funcC xs[i])) : DLe (.sl 4 len row) (funcsD xs) := by
  subst hl
  exact DLe_cells fun i hi => by rw [List.getElem?_eq_getElem hi]; exact h i hi

theorem refName_pure (s : ByteArray) : APure Try.prog 42 [.str s] (.bool (nameOk s)) := by
  refine apureG [] [] Try.func42 (by kernel_rfl) t_marlineref05_name u_marlineref05_name rfl rfl (fun _ => ?_)
  simp [c_marlineref05_name, r_marlineref05_name]
  exact DLe.of_eq (by simp [nameOk]; norm_cast)

theorem below_take_succ {xs : List Int} {n : Int} {k : Nat} (h1 : k < xs.length) (h : belowB (xs.take k) n = true) (h2 : 0 ≤ xs[k]) (h3 : xs[k] < n) : belowB (xs.take (k + 1)) n = true := by
  rw [List.take_succ_eq_append_getElem h1]
  unfold belowB at *
  rw [List.all_append, h]
  simp [h2, h3]

theorem below_pure (xs : List Int) (n : Int) : APure Try.prog 40 [intsD xs, .int n] (.bool (belowB xs n)) := by
  refine apureG [] [] Try.func40 (by kernel_rfl) t_marlineref05_below u_marlineref05_below rfl rfl (fun hx => len1 hx fun hl => ?_)
  clear hx
  simp [c_marlineref05_below, r_marlineref05_below]
  refine loop_c (κ := Nat) (fun k => k ≤ xs.length ∧ belowB (xs.take k) n = true) (fun k => xs.length - k) (fun k => [(sl 5, .int k)]) (fun _ => []) 0 0 (fun _ => .none) (by simp [belowB]) (by simp) ?_
  rintro k ⟨hk, hb⟩
  simp
  refine ⟨fun hlt => ?_, fun hge => ?_⟩
  · have e : xs[k]?.getD 0 = xs[k] := by simp [hlt]
    rw [e]
    refine ⟨hlt, fun h => ⟨h, hlt⟩, fun h => DLe_bool ?_, fun h1 h2 => ⟨k + 1, ⟨by omega, below_take_succ hlt hb h1 h2⟩, by omega, DLe_int (wrap_succ (by omega)), fun _ => .none, fun _ => rfl⟩⟩
    unfold belowB
    symm
    rw [List.all_eq_false]
    exact ⟨xs[k], List.getElem_mem hlt, by simp; omega⟩
  · rw [List.take_of_length_le hge] at hb
    exact DLe_bool hb.symm

theorem take_eq_succ {xs ys : List Int} {k : Nat} (h1 : k < xs.length) (h2 : k < ys.length) (h : xs.take k = ys.take k) (he : xs[k]?.getD 0 = ys[k]?.getD 0) : xs.take (k + 1) = ys.take (k + 1) := by
  rw [List.take_succ_eq_append_getElem h1, List.take_succ_eq_append_getElem h2, h]
  simp [h1, h2] at he
  rw [he]

theorem ints_pure (xs ys : List Int) : APure Try.prog 15 [intsD xs, intsD ys] (.bool (xs == ys)) := by
  refine apureG [] [] Try.func15 (by kernel_rfl) t_marlineref05_Ints u_marlineref05_Ints rfl rfl (fun hx => len1 hx fun hl => ?_)
  clear hx
  simp [c_marlineref05_Ints, r_marlineref05_Ints]
  refine ⟨fun h => DLe_bool ?_, fun hlen => ?_⟩
  · symm; rw [beq_eq_false_iff_ne]; rintro rfl; exact h rfl
  have hlen' : xs.length = ys.length := by omega
  refine loop_c (κ := Nat) (fun k => k ≤ xs.length ∧ xs.take k = ys.take k) (fun k => xs.length - k) (fun k => [(sl 5, .int k)]) (fun _ => []) 0 0 (fun _ => .none) (by simp) (by simp) ?_
  rintro k ⟨hk, hb⟩
  simp
  refine ⟨fun hlt => ⟨hlt, by omega, fun hne => DLe_bool ?_, fun he => ⟨k + 1, ⟨by omega, take_eq_succ hlt (by omega) hb he⟩, by omega, DLe_int (wrap_succ (by omega)), fun _ => .none, fun _ => rfl⟩⟩, fun hge => DLe_bool ?_⟩
  · symm; rw [beq_eq_false_iff_ne]; rintro rfl; exact hne rfl
  · rw [List.take_of_length_le hge, List.take_of_length_le (by omega)] at hb
    symm; rw [beq_iff_eq]; exact hb

theorem refNamed_pure (i : Inst) : APure Try.prog 41 [.agg (instC i)] (.bool (isNamed i.op)) := by
  refine apureG [] [] Try.func41 (by kernel_rfl) t_marlineref05_Named u_marlineref05_Named rfl rfl (fun _ => ?_)
  simp [c_marlineref05_Named, r_marlineref05_Named]
  exact DLe_bool (by rw [Bool.eq_iff_iff]; simp [isNamed]; omega)

theorem DLe_rows {n len len' : Nat} {row row' : Nat → List DV} (hl : len = len') (h : ∀ i, i < len → row i = row' i) : DLe (.sl n len row) (.sl n len' row') := by
  subst hl; exact DLe.sl h
theorem DLe_nil {n : Nat} {row : Nat → List DV} : DLe (.lit (.slice none 0 0)) (.sl n 0 row) := by
  intro X w v h
  cases h
  exact .nil n row
theorem DLe_nil' {n len : Nat} {row : Nat → List DV} (h : len = 0) : DLe (.lit (.slice none 0 0)) (.sl n len row) := by
  subst h; exact DLe_nil

set_option maxRecDepth 10000 in
theorem refUses_pure (i : Inst) (hl : i.args.length ≤ 17592186044416) : APure Try.prog 17 [.agg (instC i)] (intsD (uses i)) := by
  refine apureG _ [] Try.func17 (by kernel_rfl) t_marlineref05_Uses u_marlineref05_Uses rfl rfl (fun _ => ?_)
  simp [c_marlineref05_Uses, r_marlineref05_Uses]
  refine ⟨fun h1 h2 => ?_, fun h1 => ⟨fun h2 => ?_, fun h2 h3 => ⟨fun h4 => ⟨by omega, ?_⟩, fun h4 => ?_⟩⟩⟩
  · rw [show uses i = [i.a, i.b] by simp [uses, h1, h2]]
    exact intsD_le rfl (fun k hk => by rcases (by simp at hk; omega : k = 0 ∨ k = 1) with rfl | rfl <;> rfl)
  · rw [show uses i = [i.a] by unfold uses; rw [if_neg (by omega), if_pos h2]]
    exact intsD_le rfl (fun k hk => by obtain rfl : k = 0 := by simpa using hk
                                       rfl)
  · rw [show uses i = i.args by unfold uses; rw [if_neg (by omega), if_neg (by omega), if_pos h4]]
    exact DLe.refl _
  · rw [show uses i = [] by unfold uses; rw [if_neg (by omega), if_neg (by omega), if_neg h4]]
    exact intsD_nil

set_option maxRecDepth 10000 in
theorem refInst_pure (i : Inst) (n : Int) (hl : i.args.length ≤ 17592186044416) : APure Try.prog 19 [.agg (instC i), .int n] (.bool (instOk i n)) := by
  refine apureG _ [] Try.func19 (by kernel_rfl) t_marlineref05_Inst u_marlineref05_Inst rfl rfl (fun _ => ?_)
  simp [c_marlineref05_Inst, r_marlineref05_Inst]
  refine call_plain _ (by simp) (by simp) (fun _ => rfl) (fun _ => refUses_pure i hl) ?_
  simp
  refine call_plain _ (by simp) (by simp) (fun _ => rfl) (fun _ => below_pure (uses i) n) ?_
  simp [intsD]
  refine ⟨fun h => DLe_bool ?_, fun a1 a2 a3 a4 => ?_⟩
  · symm
    rcases h with ((h | h) | h) | h
    · simp [instOk]; omega
    · simp [instOk]; omega
    · simp [instOk, h]
    · exact inst_no_six h
  refine ⟨by omega, by omega, by omega, by omega, by omega, by omega, by omega, by omega, fun h => DLe_bool ?_, fun b1 b2 b3 b4 => ?_⟩
  · symm
    rcases h with ((h | h) | h) | h
    · exact inst_no_a h.2 (by omega) (by omega) (by omega)
    · exact inst_no_b' h.2 (by omega)
    · exact inst_no_k' (by omega) h.1
    · exact inst_no_args h.2 h.1
  have e := inst_yes' (i := i) (n := n) a1 a2 a3 (by omega) (by omega) (by omega) (by by_cases h14 : i.op = 14 <;> simp [h14] at b4 ⊢; simp [b4]) (by omega)
  refine call_plain _ (by simp) (by simp) (fun _ => rfl) (fun _ => refNamed_pure i) ?_
  simp
  refine ⟨fun h => ?_, fun h => DLe_bool ?_⟩
  · refine call_plain _ (by simp) (by simp) (fun _ => rfl) (fun _ => refName_pure i.name) ?_
    simp
    exact DLe_bool (by rw [e, h]; rfl)
  · rw [e, h, str_nil]
    rfl

end Go.Proofs.Ytghlfjpmpalpdaa
