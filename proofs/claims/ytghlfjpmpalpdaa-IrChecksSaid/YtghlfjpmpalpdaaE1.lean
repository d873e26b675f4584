/- Contracts by the evaluator: the program's layer 5, instructions. -/
import Derived.Test.YtghlfjpmpalpdaaB5
import Derived.Test.YtghlfjpmpalpdaaC2
namespace Go.Proofs.Ytghlfjpmpalpdaa
open Go.RowKit

theorem values_pure (b : Block) : APure Try.prog 20 [.agg (blockC b)] (.int (IntKind.i64.wrap (b.params + b.ins.length))) := by
  refine apureG _ _ Try.func20 (by kernel_rfl) t_ir_Values u_ir_Values rfl rfl (fun _ => ?_)
  simp [c_ir_Values, r_ir_Values]

theorem name_pure (s : ByteArray) : APure Try.prog 39 [.str s] (.bool (nameOk s)) := by
  refine apureG _ _ Try.func39 (by kernel_rfl) t_ir_name u_ir_name rfl rfl (fun _ => ?_)
  simp [c_ir_name, r_ir_name]
  refine DLe_bool ?_
  rw [str_nil, nameOk, Bool.eq_iff_iff]
  simp only [Bool.and_eq_true, Bool.not_eq_true', beq_eq_false_iff_ne, decide_eq_true_eq]
  omega

theorem named_pure (i : Inst) : APure Try.prog 38 [.agg (instC i)] (.bool (isNamed i.op)) := by
  refine apureG _ _ Try.func38 (by kernel_rfl) t_ir_named u_ir_named rfl rfl (fun _ => ?_)
  simp [c_ir_named, r_ir_named]
  exact DLe_bool (by rw [Bool.eq_iff_iff]; simp [isNamed]; omega)

theorem clone_pure (xs : List Int) (hl : xs.length ≤ 17592186044416) : APure Try.prog 36 [intsD xs] (intsD xs) := by
  refine APure.nilSplit (fun h0 => ?_) ?_
  · refine apureG _ _ Try.func36 (by kernel_rfl) t_slices_Clone___int_int_ u_slices_Clone___int_int_ rfl rfl (fun _ => ?_)
    simp [c_slices_Clone___int_int_, r_slices_Clone___int_int_]
    exact DLe_nil' h0
  · refine apureG _ _ Try.func36 (by kernel_rfl) t_slices_Clone___int_int_ u_slices_Clone___int_int_ rfl rfl (fun _ => ?_)
    simp [c_slices_Clone___int_int_, r_slices_Clone___int_int_]
    omega

theorem all1_pure (v n : Int) : APure Try.prog 64 [.int v, .cref [.int n] 0] (.bool (decide (v < 0) || decide (n ≤ v))) := by
  refine apureG _ _ Try.func64 (by kernel_rfl) t_ir_all_1 u_ir_all_1 rfl rfl (fun _ => ?_)
  simp [c_ir_all_1, r_ir_all_1]

/-- The first place where p holds, or -1. -/
def findI {α : Type} (p : α → Bool) (xs : List α) : Int := match xs.findIdx? p with | some i => i | none => -1

theorem findI_hit {α : Type} {p : α → Bool} {xs : List α} {k : Nat} (hk : k < xs.length) (hno : ∀ i (h : i < xs.length), i < k → p xs[i] = false) (h : p xs[k] = true) : findI p xs = k := by
  unfold findI
  rw [List.findIdx?_eq_some_iff_getElem.2 ⟨hk, h, fun j hj => by simpa using hno j (by omega) hj⟩]

theorem findI_miss {α : Type} {p : α → Bool} {xs : List α} (hno : ∀ i (h : i < xs.length), p xs[i] = false) : findI p xs = -1 := by
  unfold findI
  rw [List.findIdx?_eq_none_iff.2]
  intro x hx
  obtain ⟨i, hi, rfl⟩ := List.getElem_of_mem hx
  exact hno i hi

theorem findI_ge {α : Type} (p : α → Bool) (xs : List α) : decide (0 ≤ findI p xs) = xs.any p := by
  unfold findI
  cases h : xs.findIdx? p with
  | none =>
    have := List.findIdx?_eq_none_iff.1 h
    symm
    rw [show decide ((0:Int) ≤ -1) = false from rfl]
    simpa using this
  | some i =>
    obtain ⟨hi, hp, _⟩ := List.findIdx?_eq_some_iff_getElem.1 h
    have h1 : xs.any p = true := List.any_eq_true.2 ⟨xs[i], List.getElem_mem hi, hp⟩
    rw [h1]; simp

@[simp] theorem mapO_dmap (p : Bool) (H : Heap) (n : Nat) (l : List DV) : mapO (frz p H n) (l.map AV.d) = some l := by
  induction l with
  | nil => rfl
  | cons a l ih =>
    have : frz p H n (AV.d a) = some a := by cases n <;> rfl
    simp [mapO, this, ih]

theorem indexInt_pure (xs : List Int) (F : FuncId) (caps : List DV) (p : Int → Bool) (hF : ∀ v, APure Try.prog F (.int v :: caps) (.bool (p v))) : APure Try.prog 74 [intsD xs, .fn F caps] (.int (findI p xs)) := by
  refine apureG _ _ Try.func74 (by kernel_rfl) t_slices_IndexFunc___int_int_ u_slices_IndexFunc___int_int_ rfl rfl (fun hx => len1 hx fun hl => ?_)
  clear hx
  simp [c_slices_IndexFunc___int_int_, r_slices_IndexFunc___int_int_]
  refine loop_s (κ := Nat) (fun k => k ≤ xs.length ∧ ∀ i (h : i < xs.length), i < k → p xs[i] = false) (fun k => xs.length - k) (fun k => [(sl 8, .int k)]) (fun _ => []) 0 0 (fun _ => .none) (by simp) (by simp) ?_
  rintro k ⟨hk, hb⟩
  simp
  refine ⟨fun hlt => ⟨hlt, ?_⟩, fun hge => ?_⟩
  · refine call_plain _ (by simp) (by simp) (fun _ => by simp; rfl) (fun _ => hF _) ?_
    simp
    rw [getD_some hlt]
    refine ⟨fun h => DLe_int (findI_hit hlt hb h).symm, fun h => ?_⟩
    refine ⟨k + 1, ⟨by omega, fun i hi h1 => ?_⟩, by omega, fun _ => .none, ?_⟩
    · rcases Nat.lt_or_ge i k with h2 | h2
      · exact hb i hi h2
      · obtain rfl : i = k := by omega
        exact h
    · simp [SLeK]
      exact DLe_int (wrap_succ (by omega))
  · exact DLe_int (findI_miss fun i hi => hb i hi (by omega)).symm

theorem containsInt_pure (xs : List Int) (F : FuncId) (caps : List DV) (p : Int → Bool) (hF : ∀ v, APure Try.prog F (.int v :: caps) (.bool (p v))) : APure Try.prog 63 [intsD xs, .fn F caps] (.bool (xs.any p)) := by
  refine apureG _ _ Try.func63 (by kernel_rfl) t_slices_ContainsFunc___int_int_ u_slices_ContainsFunc___int_int_ rfl rfl (fun _ => ?_)
  simp [c_slices_ContainsFunc___int_int_, r_slices_ContainsFunc___int_int_]
  refine call_plain _ (by simp) (by simp) (fun _ => rfl) (fun _ => indexInt_pure xs F caps p hF) ?_
  simp
  exact DLe_bool (findI_ge p xs)

theorem all_pure (xs : List Int) (n : Int) : APure Try.prog 37 [intsD xs, .int n] (.bool (belowB xs n)) := by
  refine apureG _ _ Try.func37 (by kernel_rfl) t_ir_all u_ir_all rfl rfl (fun _ => ?_)
  simp [c_ir_all, r_ir_all]
  refine call_plain _ (by simp) (by simp) (fun _ => rfl) (fun _ => containsInt_pure xs _ _ _ (fun v => all1_pure v n)) ?_
  simp
  refine DLe_bool ?_
  unfold belowB
  rename_i hx
  clear hx
  induction xs with
  | nil => rfl
  | cons x xs ih =>
    simp only [List.any_cons, List.all_cons, Bool.not_or, ih]
    congr 1
    rw [Bool.eq_iff_iff]; simp

set_option maxRecDepth 10000 in
theorem uses_pure (i : Inst) (hl : i.args.length ≤ 17592186044416) : APure Try.prog 16 [.agg (instC i)] (intsD (uses i)) := by
  refine apureG _ _ Try.func16 (by kernel_rfl) t_ir_Uses u_ir_Uses rfl rfl (fun _ => ?_)
  simp [c_ir_Uses, r_ir_Uses]
  refine ⟨fun h1 h2 => ?_, fun h1 => ⟨fun h2 => ?_, fun h2 => ⟨fun h3 => ?_, fun h3 => ⟨fun h4 => ?_, fun h4 => ?_⟩⟩⟩⟩
  · rw [show uses i = [i.a, i.b] by simp [uses, h1, h2]]
    exact intsD_le rfl (fun k hk => by rcases (by simp at hk; omega : k = 0 ∨ k = 1) with rfl | rfl <;> rfl)
  · rw [show uses i = [i.a] by unfold uses; rw [if_neg (by omega), if_pos (by omega)]]
    exact intsD_le rfl (fun k hk => by obtain rfl : k = 0 := by simpa using hk
                                       rfl)
  · rw [show uses i = [i.a] by unfold uses; rw [if_neg (by omega), if_pos (by omega)]]
    exact intsD_le rfl (fun k hk => by obtain rfl : k = 0 := by simpa using hk
                                       rfl)
  · refine call_plain _ (by simp) (by simp) (fun _ => rfl) (fun _ => clone_pure i.args hl) ?_
    simp
    rw [show uses i = i.args by unfold uses; rw [if_neg (by omega), if_neg (by omega), if_pos h4]]
    exact DLe.refl _
  · rw [show uses i = [] by unfold uses; rw [if_neg (by omega), if_neg (by omega), if_neg h4]]
    exact intsD_nil

set_option maxRecDepth 10000 in
theorem inst_pure (i : Inst) (n : Int) (hl : i.args.length ≤ 17592186044416) : APure Try.prog 18 [.agg (instC i), .int n] (.bool (instOk i n)) := by
  refine apureG _ _ Try.func18 (by kernel_rfl) t_ir_Inst u_ir_Inst rfl rfl (fun _ => ?_)
  simp [c_ir_Inst, r_ir_Inst]
  refine call_plain _ (by simp) (by simp) (fun _ => rfl) (fun _ => uses_pure i hl) ?_
  simp
  refine call_plain _ (by simp) (by simp) (fun _ => by simp) (fun _ => all_pure (uses i) n) ?_
  simp
  refine ⟨fun h => DLe_bool ?_, fun a1 a2 a3 => ⟨fun h => ?_, fun h h' => ?_, fun h => ?_, fun h => ?_, fun h => DLe_bool ?_, fun hA hB => ⟨fun h h' => DLe_bool ?_, fun hK => ⟨fun h => ?_, fun h => DLe_bool ?_, fun hN h6 => ?_⟩⟩⟩⟩
  · symm
    rcases h with (h | h) | h
    · simp [instOk]; omega
    · simp [instOk]; omega
    · simp [instOk, h]
  · omega
  · omega
  · exact ⟨h, fun h' => ⟨h, h'⟩⟩
  · omega
  · symm
    rcases h with h | h
    · exact inst_no_a h.2 (by omega) (by omega) (by omega)
    · exact inst_no_b' h.2 (by omega)
  · exact (inst_no_k' (by omega) h).symm
  · by_cases h14 : i.op = 14
    · exact .inl h14
    · exact .inr (h h14)
  · symm
    rcases h with h | h
    · exact inst_no_args h.2 h.1
    · exact inst_no_six h
  have e := inst_yes' (i := i) (n := n) a1 a2 a3 (by omega) (by omega) (by by_cases h1 : i.op = 1; exact .inl h1; exact .inr (by have := hK h1; omega)) (by by_cases h14 : i.op = 14; exact .inl h14; exact .inr (by simp [hN h14])) (by omega)
  refine call_plain _ (by simp) (by simp) (fun _ => rfl) (fun _ => named_pure i) ?_
  simp
  refine ⟨fun h => ?_, fun h => DLe_bool ?_⟩
  · refine call_plain _ (by simp) (by simp) (fun _ => rfl) (fun _ => name_pure i.name) ?_
    simp
    exact DLe_bool (by rw [e, h]; rfl)
  · rw [e, h, str_nil]
    rfl

end Go.Proofs.Ytghlfjpmpalpdaa
