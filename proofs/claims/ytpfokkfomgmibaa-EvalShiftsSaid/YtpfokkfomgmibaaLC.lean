/- Some texts of one kind, one behind the other. -/
import Derived.Test.YtpfokkfomgmibaaLB
import Derived.Test.YtpfokkfomgmibaaKG
import Derived.Test.YtpfokkfomgmibaaKF
/- Contracts by the evaluator: the document's layer 5. -/
namespace Go.Proofs.Ytpfokkfomgmibaa
open Go.RowKit

theorem insD_cells {len : Nat} {row : Nat → List DV} {xs : List Inst} (hl : len = xs.length) (h : ∀ i (hi : i < xs.length), DLes (row i) (instC xs[i])) : DLe (.sl 6 len row) (insD xs) := by
  subst hl
  exact DLe_cells fun i hi => by rw [List.getElem?_eq_getElem hi]; exact h i hi

theorem blocksD_cells {len : Nat} {row : Nat → List DV} {xs : List Block} (hl : len = xs.length) (h : ∀ i (hi : i < xs.length), DLes (row i) (blockC xs[i])) : DLe (.sl 8 len row) (blocksD xs) := by
  subst hl
  exact DLe_cells fun i hi => by rw [List.getElem?_eq_getElem hi]; exact h i hi

theorem funcsD_cells {len : Nat} {row : Nat → List DV} {xs : List Func} (hl : len = xs.length) (h : ∀ i (hi : i < xs.length), DLes (row i) (funcC xs[i])) : DLe (.sl 4 len row) (funcsD xs) := by
  subst hl
  exact DLe_cells fun i hi => by rw [List.getElem?_eq_getElem hi]; exact h i hi

theorem refName_pure (s : ByteArray) : APure Try.prog 49 [.str s] (.bool (nameOk s)) := by
  refine apureG [] [] Try.func49 (by kernel_rfl) t_marlineref05_name u_marlineref05_name rfl rfl (fun _ => ?_)
  simp [c_marlineref05_name, r_marlineref05_name]
  exact DLe.of_eq (by simp [nameOk]; norm_cast)

theorem below_take_succ {xs : List Int} {n : Int} {k : Nat} (h1 : k < xs.length) (h : belowB (xs.take k) n = true) (h2 : 0 ≤ xs[k]) (h3 : xs[k] < n) : belowB (xs.take (k + 1)) n = true := by
  rw [List.take_succ_eq_append_getElem h1]
  unfold belowB at *
  rw [List.all_append, h]
  simp [h2, h3]

theorem below_pure (xs : List Int) (n : Int) : APure Try.prog 67 [intsD xs, .int n] (.bool (belowB xs n)) := by
  refine apureG [] [] Try.func67 (by kernel_rfl) t_marlineref05_below u_marlineref05_below rfl rfl (fun hx => len1 hx fun hl => ?_)
  clear hx
  simp [c_marlineref05_below, r_marlineref05_below]
  refine loop_c (κ := Nat) (fun k => k ≤ xs.length ∧ belowB (xs.take k) n = true) (fun k => xs.length - k) (fun k => [(sl 5, .int k)]) (fun _ => []) 0 0 (srcs []) (by simp [belowB]) (by simp) ?_
  rintro k ⟨hk, hb⟩
  simp
  refine ⟨fun hlt => ?_, fun hge => ?_⟩
  · have e : xs[k]?.getD 0 = xs[k] := by simp [hlt]
    rw [e]
    refine ⟨hlt, fun h => ⟨h, hlt⟩, fun h => DLe_bool ?_, fun h1 h2 => ⟨k + 1, ⟨by omega, below_take_succ hlt hb h1 h2⟩, by omega, DLe_int (wrap_succ (by omega)), srcs [], by simp⟩⟩
    unfold belowB
    symm
    rw [List.all_eq_false]
    exact ⟨xs[k], List.getElem_mem hlt, by simp; omega⟩
  · rw [List.take_of_length_le hge] at hb
    exact DLe_bool hb.symm

theorem take_eq_succ {xs ys : List Int} {k : Nat} (h1 : k < xs.length) (h2 : k < ys.length) (h : xs.take k = ys.take k) (he : xs[k]?.getD 0 = ys[k]?.getD 0) : xs.take (k + 1) = ys.take (k + 1) := by
  rw [List.take_succ_eq_append_getElem h1, List.take_succ_eq_append_getElem h2, h]
  simp [h1, h2] at he
  rw [he]

theorem refNamed_pure (i : Inst) : APure Try.prog 51 [.agg (instC i)] (.bool (isNamed i.op)) := by
  refine apureG [] [] Try.func51 (by kernel_rfl) t_marlineref05_Named u_marlineref05_Named rfl rfl (fun _ => ?_)
  simp [c_marlineref05_Named, r_marlineref05_Named]
  exact DLe_bool (by rw [Bool.eq_iff_iff]; simp [isNamed]; omega)

theorem DLe_rows {n len len' : Nat} {row row' : Nat → List DV} (hl : len = len') (h : ∀ i, i < len → row i = row' i) : DLe (.sl n len row) (.sl n len' row') := by
  subst hl; exact DLe.sl h
theorem DLe_nil {n : Nat} {row : Nat → List DV} : DLe (.lit (.slice none 0 0)) (.sl n 0 row) := by
  intro X w v h
  cases h
  exact .nil n row
theorem DLe_nil' {n len : Nat} {row : Nat → List DV} (h : len = 0) : DLe (.lit (.slice none 0 0)) (.sl n len row) := by
  subst h; exact DLe_nil

set_option maxRecDepth 10000 in
theorem refUses_pure (i : Inst) (hl : i.args.length ≤ 17592186044416) : APure Try.prog 68 [.agg (instC i)] (intsD (uses i)) := by
  refine apureG _ [] Try.func68 (by kernel_rfl) t_marlineref05_Uses u_marlineref05_Uses rfl rfl (fun _ => ?_)
  simp [c_marlineref05_Uses, r_marlineref05_Uses]
  refine ⟨fun h1 h2 => ?_, fun h1 => ⟨fun h2 => ?_, fun h2 h3 => ⟨fun h4 => ⟨by omega, ?_⟩, fun h4 => ?_⟩⟩⟩
  · rw [show uses i = [i.a, i.b] by simp [uses, h1, h2]]
    exact intsD_le rfl (fun k hk => by rcases (by simp at hk; omega : k = 0 ∨ k = 1) with rfl | rfl <;> rfl)
  · rw [show uses i = [i.a] by unfold uses; rw [if_neg (by omega), if_pos h2]]
    exact intsD_le rfl (fun k hk => by obtain rfl : k = 0 := by simpa using hk
                                       rfl)
  · rw [show uses i = i.args by unfold uses; rw [if_neg (by omega), if_neg (by omega), if_pos h4]]
    exact DLe.refl _
  · rw [show uses i = [] by unfold uses; rw [if_neg (by omega), if_neg (by omega), if_neg h4]]
    exact intsD_nil

set_option maxRecDepth 10000 in
theorem refInst_pure (i : Inst) (n : Int) (hl : i.args.length ≤ 17592186044416) : APure Try.prog 61 [.agg (instC i), .int n] (.bool (instOk i n)) := by
  refine apureG _ [] Try.func61 (by kernel_rfl) t_marlineref05_Inst u_marlineref05_Inst rfl rfl (fun _ => ?_)
  simp [c_marlineref05_Inst, r_marlineref05_Inst]
  refine call_plain _ (by simp) (by simp) (fun _ => rfl) (fun _ => refUses_pure i hl) ?_
  simp
  refine call_plain _ (by simp) (by simp) (fun _ => rfl) (fun _ => below_pure (uses i) n) ?_
  simp [intsD]
  refine ⟨fun h => DLe_bool ?_, fun a1 a2 a3 a4 => ?_⟩
  · symm
    rcases h with ((h | h) | h) | h
    · simp [instOk]; omega
    · simp [instOk]; omega
    · simp [instOk, h]
    · exact inst_no_six h
  refine ⟨by omega, by omega, by omega, by omega, by omega, by omega, by omega, by omega, fun h => DLe_bool ?_, fun b1 b2 b3 b4 => ?_⟩
  · symm
    rcases h with ((h | h) | h) | h
    · exact inst_no_a h.2 (by omega) (by omega) (by omega)
    · exact inst_no_b' h.2 (by omega)
    · exact inst_no_k' (by omega) h.1
    · exact inst_no_args h.2 h.1
  have e := inst_yes' (i := i) (n := n) a1 a2 a3 (by omega) (by omega) (by omega) (by by_cases h14 : i.op = 14 <;> simp [h14] at b4 ⊢; simp [b4]) (by omega)
  refine call_plain _ (by simp) (by simp) (fun _ => rfl) (fun _ => refNamed_pure i) ?_
  simp
  refine ⟨fun h => ?_, fun h => DLe_bool ?_⟩
  · refine call_plain _ (by simp) (by simp) (fun _ => rfl) (fun _ => refName_pure i.name) ?_
    simp
    exact DLe_bool (by rw [e, h]; rfl)
  · rw [e, h, str_nil]
    rfl

end Go.Proofs.Ytpfokkfomgmibaa
/- Contracts by the evaluator: the document's layer 5, blocks and functions. -/
namespace Go.Proofs.Ytpfokkfomgmibaa
open Go.RowKit

theorem goesB_in {f : Func} {to : Int} {l : List Int} {n : Int} (h0 : 0 ≤ to) (h1 : to < f.blocks.length) (h : (l.length : Int) = (f.blocks[to.toNat]?.getD default).params) : goesB f to l n = belowB l n := by
  unfold goesB
  have hlt : to.toNat < f.blocks.length := by omega
  rw [List.getElem?_eq_getElem hlt] at h ⊢
  simp at h
  simp [h0, h]
theorem goesB_out {f : Func} {to : Int} {l : List Int} {n : Int} (h : (to < 0 ∨ (f.blocks.length : Int) ≤ to) ∨ ¬ (l.length : Int) = (f.blocks[to.toNat]?.getD default).params) : goesB f to l n = false := by
  by_cases h0 : to < 0
  · exact goesB_lo h0
  by_cases h1 : (f.blocks.length : Int) ≤ to
  · exact goesB_hi (by omega) h1
  have h : ¬ (l.length : Int) = (f.blocks[to.toNat]?.getD default).params := by simpa [h0, h1] using h
  unfold goesB
  have hlt : to.toNat < f.blocks.length := by omega
  rw [List.getElem?_eq_getElem hlt] at h ⊢
  simp at h
  simp [h]

set_option maxRecDepth 10000 in
theorem goes_pure (f : Func) (to : Int) (l : List Int) (n : Int) : APure Try.prog 62 [.agg (funcC f), .int to, intsD l, .int n] (.bool (goesB f to l n)) := by
  refine apureG _ [] Try.func62 (by kernel_rfl) t_marlineref05_goes u_marlineref05_goes rfl rfl (fun _ => ?_)
  simp [c_marlineref05_goes, r_marlineref05_goes]
  refine ⟨fun h => DLe_bool (goesB_out h).symm, fun h0 h1 h2 => ?_⟩
  refine call_plain _ (by simp) (by simp) (fun _ => rfl) (fun _ => below_pure l n) ?_
  simp
  exact DLe_bool (goesB_in h0 h1 h2).symm

theorem getD_some {α : Type} {l : List α} {k : Nat} {d : α} (h : k < l.length) : l[k]?.getD d = l[k] := by simp [h]

set_option maxHeartbeats 2000000 in
set_option maxRecDepth 10000 in
theorem refBlock_pure (f : Func) (k : Nat) (hk : k < f.blocks.length) (hi : ∀ i ∈ f.blocks[k].ins, i.args.length ≤ 17592186044416) :
    APure Try.prog 57 [.agg (funcC f), .int k] (.bool (blockOk f f.blocks[k])) := by
  refine apureG _ [] Try.func57 (by kernel_rfl) t_marlineref05_block u_marlineref05_block rfl rfl (fun _ => ?_)
  simp [c_marlineref05_block, r_marlineref05_block, hk]
  generalize f.blocks[k] = b at *
  refine ⟨fun h => DLe_bool ?_, fun h0 h6 h32 => ?_⟩
  · symm
    rcases h with (h | h) | h
    · exact blockOk_lo h
    · exact blockOk_hi h
    · exact blockOk_many (by omega)
  refine loop_c (κ := Nat) (fun m => m ≤ b.ins.length ∧ ∀ j (h : j < b.ins.length), j < m → instOk b.ins[j] (b.params + j) = true) (fun m => b.ins.length - m) (fun m => [(sl 6, .int m)]) (fun _ => []) 0 0 (srcs []) (by simp) (by simp) ?_
  rintro m ⟨hm, hb⟩
  have hw : IntKind.i64.wrap (b.params + (m : Int)) = b.params + m := wrap_in (by omega)
  have hw' : IntKind.i64.wrap (b.params + (b.ins.length : Int)) = b.params + b.ins.length := wrap_in (by omega)
  simp [hw, hw']
  refine ⟨fun hlt => ⟨hlt, ?_⟩, fun hge => ?_⟩
  · refine call_plain _ (by simp) (by simp) (fun _ => rfl) (fun _ => refInst_pure (b.ins[m]?.getD default) (b.params + m) (by rw [getD_some hlt]; exact hi _ (List.getElem_mem hlt))) ?_
    simp [hlt]
    refine ⟨fun h => DLe_bool (blockOk_ins hlt h).symm, fun h => ?_⟩
    refine ⟨m + 1, ⟨by omega, fun j hj hj' => ?_⟩, by omega, DLe_int (wrap_succ (by omega)), (srcs []), (by simp)⟩
    rcases Nat.lt_or_ge j m with h1 | h1
    · exact hb j hj h1
    · obtain rfl : j = m := by omega
      exact h
  · have he := blockOk_end (f := f) h0 h6 (by omega) (fun j hj => hb j hj (by omega))
    have en : b.params + (b.ins.length : Int) = b.params + b.ins.length := rfl
    refine ⟨fun hk1 => ?_, fun hk1 => ⟨fun hk2 => ?_, fun hk2 => DLe_bool ?_⟩⟩
    · refine call_plain _ (by simp) (by simp) (fun _ => rfl) (fun _ => goes_pure f b.to b.args (b.params + b.ins.length)) ?_
      simp
      refine DLe_bool ?_
      rw [he, endB_jump hk1, Bool.eq_iff_iff]
      simp [and_assoc]
    · refine call_plain _ (by simp) (by simp) (fun _ => rfl) (fun _ => goes_pure f b.to b.args (b.params + b.ins.length)) ?_
      simp
      refine call_plain _ (by simp) (by simp) (fun _ => rfl) (fun _ => goes_pure f b.els b.elses (b.params + b.ins.length)) ?_
      simp
      refine DLe_bool ?_
      rw [he, endB_if hk2]
    · rw [he, endB_other hk1 hk2, Bool.eq_iff_iff]
      simp [and_assoc]

set_option maxRecDepth 10000 in
theorem refFunc_pure (f : Func) (hi : ∀ b ∈ f.blocks, ∀ i ∈ b.ins, i.args.length ≤ 17592186044416) :
    APure Try.prog 48 [.agg (funcC f)] (.bool (funcOk f)) := by
  refine apureG _ [] Try.func48 (by kernel_rfl) t_marlineref05_Func u_marlineref05_Func rfl rfl (fun _ => ?_)
  simp [c_marlineref05_Func, r_marlineref05_Func]
  refine call_plain _ (by simp) (by simp) (fun _ => rfl) (fun _ => refName_pure f.name) ?_
  simp
  refine ⟨fun h => DLe_bool ?_, fun a1 a2 a3 a4 a5 a6 => ⟨fun h => DLe_bool ?_, fun h => ⟨List.length_pos_iff.2 h, fun hp => DLe_bool ?_, fun hp => ?_⟩⟩⟩
  · symm
    rcases h with ((((h | h) | h) | h) | h) | h
    · exact funcOk_name h
    · exact funcOk_b1 h
    · exact funcOk_b3 h
    · exact funcOk_p0 h
    · exact funcOk_p6 h
    · exact funcOk_n (by omega)
  · rw [funcOk_nil a1 a2 a3 a4 a5 (by simp [h])]
    rfl
  · have hl := List.length_pos_iff.2 h
    rw [getD_some hl] at hp
    rw [funcOk_cons a1 a2 a3 a4 a5 (by omega) hl]
    simp [hp]
  have hl := List.length_pos_iff.2 h
  rw [getD_some hl] at hp
  have hf := funcOk_cons a1 a2 a3 a4 a5 (by omega) hl
  refine loop_c (κ := Nat) (fun m => m ≤ f.blocks.length ∧ ∀ j (h : j < f.blocks.length), j < m → blockOk f f.blocks[j] = true) (fun m => f.blocks.length - m) (fun m => [(sl 4, .int m)]) (fun _ => []) 0 0 (srcs []) (by simp) (by simp) ?_
  rintro m ⟨hm, hb⟩
  simp
  refine ⟨fun hlt => ?_, fun hge => DLe_bool ?_⟩
  · refine call_plain _ (by simp) (by simp) (fun _ => rfl) (fun _ => refBlock_pure f m hlt (hi _ (List.getElem_mem hlt))) ?_
    simp
    refine ⟨fun h => DLe_bool ?_, fun h => ?_⟩
    · rw [hf, all_no hlt h]; simp
    refine ⟨m + 1, ⟨by omega, fun j hj hj' => ?_⟩, by omega, DLe_int (wrap_succ (by omega)), (srcs []), (by simp)⟩
    rcases Nat.lt_or_ge j m with h1 | h1
    · exact hb j hj h1
    · obtain rfl : j = m := by omega
      exact h
  · rw [hf, all_yes (fun j hj => hb j hj (by omega)), hp]; simp

theorem sameBlock_ends {x y : Block} (h : (((((((¬x.args = y.args ∨ ¬x.elses = y.elses) ∨ ¬x.params = y.params) ∨ ¬(x.ins.length : Int) = y.ins.length) ∨ ¬x.kind = y.kind) ∨ ¬x.ta = y.ta) ∨ ¬x.to = y.to) ∨ ¬x.els = y.els)) : sameBlock x y = false := by
  rw [← Bool.not_eq_true, sameBlock_iff]
  rintro rfl
  simp at h

end Go.Proofs.Ytpfokkfomgmibaa
/- Contracts by the evaluator: the program's layer 5, instructions. -/
namespace Go.Proofs.Ytpfokkfomgmibaa
open Go.RowKit

theorem values_pure (b : Block) : APure Try.prog 65 [.agg (blockC b)] (.int (IntKind.i64.wrap (b.params + b.ins.length))) := by
  refine apureG _ _ Try.func65 (by kernel_rfl) t_ir_Values u_ir_Values rfl rfl (fun _ => ?_)
  simp [c_ir_Values, r_ir_Values]

theorem name_pure (s : ByteArray) : APure Try.prog 52 [.str s] (.bool (nameOk s)) := by
  refine apureG _ _ Try.func52 (by kernel_rfl) t_ir_name u_ir_name rfl rfl (fun _ => ?_)
  simp [c_ir_name, r_ir_name]
  refine DLe_bool ?_
  rw [str_nil, nameOk, Bool.eq_iff_iff]
  simp only [Bool.and_eq_true, Bool.not_eq_true', beq_eq_false_iff_ne, decide_eq_true_eq]
  omega

theorem named_pure (i : Inst) : APure Try.prog 47 [.agg (instC i)] (.bool (isNamed i.op)) := by
  refine apureG _ _ Try.func47 (by kernel_rfl) t_ir_named u_ir_named rfl rfl (fun _ => ?_)
  simp [c_ir_named, r_ir_named]
  exact DLe_bool (by rw [Bool.eq_iff_iff]; simp [isNamed]; omega)

theorem clone_pure (xs : List Int) (hl : xs.length ≤ 17592186044416) : APure Try.prog 71 [intsD xs] (intsD xs) := by
  refine APure.nilSplit (fun h0 => ?_) ?_
  · refine apureG _ _ Try.func71 (by kernel_rfl) t_slices_Clone___int_int_ u_slices_Clone___int_int_ rfl rfl (fun _ => ?_)
    simp [c_slices_Clone___int_int_, r_slices_Clone___int_int_]
    exact DLe_nil' h0
  · refine apureG _ _ Try.func71 (by kernel_rfl) t_slices_Clone___int_int_ u_slices_Clone___int_int_ rfl rfl (fun _ => ?_)
    simp [c_slices_Clone___int_int_, r_slices_Clone___int_int_]
    omega

theorem all1_pure (v n : Int) : APure Try.prog 70 [.int v, .cref [.int n] 0] (.bool (decide (v < 0) || decide (n ≤ v))) := by
  refine apureG _ _ Try.func70 (by kernel_rfl) t_ir_all_1 u_ir_all_1 rfl rfl (fun _ => ?_)
  simp [c_ir_all_1, r_ir_all_1]

/-- The first place where p holds, or -1. -/
def findI {α : Type} (p : α → Bool) (xs : List α) : Int := match xs.findIdx? p with | some i => i | none => -1

theorem findI_hit {α : Type} {p : α → Bool} {xs : List α} {k : Nat} (hk : k < xs.length) (hno : ∀ i (h : i < xs.length), i < k → p xs[i] = false) (h : p xs[k] = true) : findI p xs = k := by
  unfold findI
  rw [List.findIdx?_eq_some_iff_getElem.2 ⟨hk, h, fun j hj => by simpa using hno j (by omega) hj⟩]

theorem findI_miss {α : Type} {p : α → Bool} {xs : List α} (hno : ∀ i (h : i < xs.length), p xs[i] = false) : findI p xs = -1 := by
  unfold findI
  rw [List.findIdx?_eq_none_iff.2]
  intro x hx
  obtain ⟨i, hi, rfl⟩ := List.getElem_of_mem hx
  exact hno i hi

theorem findI_ge {α : Type} (p : α → Bool) (xs : List α) : decide (0 ≤ findI p xs) = xs.any p := by
  unfold findI
  cases h : xs.findIdx? p with
  | none =>
    have := List.findIdx?_eq_none_iff.1 h
    symm
    rw [show decide ((0:Int) ≤ -1) = false from rfl]
    simpa using this
  | some i =>
    obtain ⟨hi, hp, _⟩ := List.findIdx?_eq_some_iff_getElem.1 h
    have h1 : xs.any p = true := List.any_eq_true.2 ⟨xs[i], List.getElem_mem hi, hp⟩
    rw [h1]; simp

@[simp] theorem mapO_dmap (p : Bool) (H : Heap) (n : Nat) (l : List DV) : mapO (frz p H n) (l.map AV.d) = some l := by
  induction l with
  | nil => rfl
  | cons a l ih =>
    have : frz p H n (AV.d a) = some a := by cases n <;> rfl
    simp [mapO, this, ih]

theorem indexInt_pure (xs : List Int) (F : FuncId) (caps : List DV) (p : Int → Bool) (hF : ∀ v, APure Try.prog F (.int v :: caps) (.bool (p v))) : APure Try.prog 72 [intsD xs, .fn F caps] (.int (findI p xs)) := by
  refine apureG _ _ Try.func72 (by kernel_rfl) t_slices_IndexFunc___int_int_ u_slices_IndexFunc___int_int_ rfl rfl (fun hx => len1 hx fun hl => ?_)
  clear hx
  simp [c_slices_IndexFunc___int_int_, r_slices_IndexFunc___int_int_]
  refine loop_s (κ := Nat) (fun k => k ≤ xs.length ∧ ∀ i (h : i < xs.length), i < k → p xs[i] = false) (fun k => xs.length - k) (fun k => [(sl 8, .int k)]) (fun _ => []) 0 0 (srcs []) (by simp) (by simp) ?_
  rintro k ⟨hk, hb⟩
  simp
  refine ⟨fun hlt => ⟨hlt, ?_⟩, fun hge => ?_⟩
  · refine call_plain _ (by simp) (by simp) (fun _ => by simp; rfl) (fun _ => hF _) ?_
    simp
    rw [getD_some hlt]
    refine ⟨fun h => DLe_int (findI_hit hlt hb h).symm, fun h => ?_⟩
    refine ⟨k + 1, ⟨by omega, fun i hi h1 => ?_⟩, by omega, srcs [], ?_⟩
    · rcases Nat.lt_or_ge i k with h2 | h2
      · exact hb i hi h2
      · obtain rfl : i = k := by omega
        exact h
    · simp [SLeK]
      exact DLe_int (wrap_succ (by omega))
  · exact DLe_int (findI_miss fun i hi => hb i hi (by omega)).symm

theorem containsInt_pure (xs : List Int) (F : FuncId) (caps : List DV) (p : Int → Bool) (hF : ∀ v, APure Try.prog F (.int v :: caps) (.bool (p v))) : APure Try.prog 69 [intsD xs, .fn F caps] (.bool (xs.any p)) := by
  refine apureG _ _ Try.func69 (by kernel_rfl) t_slices_ContainsFunc___int_int_ u_slices_ContainsFunc___int_int_ rfl rfl (fun _ => ?_)
  simp [c_slices_ContainsFunc___int_int_, r_slices_ContainsFunc___int_int_]
  refine call_plain _ (by simp) (by simp) (fun _ => rfl) (fun _ => indexInt_pure xs F caps p hF) ?_
  simp
  exact DLe_bool (findI_ge p xs)

theorem all_pure (xs : List Int) (n : Int) : APure Try.prog 63 [intsD xs, .int n] (.bool (belowB xs n)) := by
  refine apureG _ _ Try.func63 (by kernel_rfl) t_ir_all u_ir_all rfl rfl (fun _ => ?_)
  simp [c_ir_all, r_ir_all]
  refine call_plain _ (by simp) (by simp) (fun _ => rfl) (fun _ => containsInt_pure xs _ _ _ (fun v => all1_pure v n)) ?_
  simp
  refine DLe_bool ?_
  unfold belowB
  rename_i hx
  clear hx
  induction xs with
  | nil => rfl
  | cons x xs ih =>
    simp only [List.any_cons, List.all_cons, Bool.not_or, ih]
    congr 1
    rw [Bool.eq_iff_iff]; simp

set_option maxRecDepth 10000 in
theorem uses_pure (i : Inst) (hl : i.args.length ≤ 17592186044416) : APure Try.prog 64 [.agg (instC i)] (intsD (uses i)) := by
  refine apureG _ _ Try.func64 (by kernel_rfl) t_ir_Uses u_ir_Uses rfl rfl (fun _ => ?_)
  simp [c_ir_Uses, r_ir_Uses]
  refine ⟨fun h1 h2 => ?_, fun h1 => ⟨fun h2 => ?_, fun h2 => ⟨fun h3 => ?_, fun h3 => ⟨fun h4 => ?_, fun h4 => ?_⟩⟩⟩⟩
  · rw [show uses i = [i.a, i.b] by simp [uses, h1, h2]]
    exact intsD_le rfl (fun k hk => by rcases (by simp at hk; omega : k = 0 ∨ k = 1) with rfl | rfl <;> rfl)
  · rw [show uses i = [i.a] by unfold uses; rw [if_neg (by omega), if_pos (by omega)]]
    exact intsD_le rfl (fun k hk => by obtain rfl : k = 0 := by simpa using hk
                                       rfl)
  · rw [show uses i = [i.a] by unfold uses; rw [if_neg (by omega), if_pos (by omega)]]
    exact intsD_le rfl (fun k hk => by obtain rfl : k = 0 := by simpa using hk
                                       rfl)
  · refine call_plain _ (by simp) (by simp) (fun _ => rfl) (fun _ => clone_pure i.args hl) ?_
    simp
    rw [show uses i = i.args by unfold uses; rw [if_neg (by omega), if_neg (by omega), if_pos h4]]
    exact DLe.refl _
  · rw [show uses i = [] by unfold uses; rw [if_neg (by omega), if_neg (by omega), if_neg h4]]
    exact intsD_nil

set_option maxRecDepth 10000 in
theorem inst_pure (i : Inst) (n : Int) (hl : i.args.length ≤ 17592186044416) : APure Try.prog 59 [.agg (instC i), .int n] (.bool (instOk i n)) := by
  refine apureG _ _ Try.func59 (by kernel_rfl) t_ir_Inst u_ir_Inst rfl rfl (fun _ => ?_)
  simp [c_ir_Inst, r_ir_Inst]
  refine call_plain _ (by simp) (by simp) (fun _ => rfl) (fun _ => uses_pure i hl) ?_
  simp
  refine call_plain _ (by simp) (by simp) (fun _ => by simp) (fun _ => all_pure (uses i) n) ?_
  simp
  refine ⟨fun h => DLe_bool ?_, fun a1 a2 a3 => ⟨fun h => ?_, fun h h' => ?_, fun h => ?_, fun h => ?_, fun h => DLe_bool ?_, fun hA hB => ⟨fun h h' => DLe_bool ?_, fun hK => ⟨fun h => ?_, fun h => DLe_bool ?_, fun hN h6 => ?_⟩⟩⟩⟩
  · symm
    rcases h with (h | h) | h
    · simp [instOk]; omega
    · simp [instOk]; omega
    · simp [instOk, h]
  · omega
  · omega
  · exact ⟨h, fun h' => ⟨h, h'⟩⟩
  · omega
  · symm
    rcases h with h | h
    · exact inst_no_a h.2 (by omega) (by omega) (by omega)
    · exact inst_no_b' h.2 (by omega)
  · exact (inst_no_k' (by omega) h).symm
  · by_cases h14 : i.op = 14
    · exact .inl h14
    · exact .inr (h h14)
  · symm
    rcases h with h | h
    · exact inst_no_args h.2 h.1
    · exact inst_no_six h
  have e := inst_yes' (i := i) (n := n) a1 a2 a3 (by omega) (by omega) (by by_cases h1 : i.op = 1; exact .inl h1; exact .inr (by have := hK h1; omega)) (by by_cases h14 : i.op = 14; exact .inl h14; exact .inr (by simp [hN h14])) (by omega)
  refine call_plain _ (by simp) (by simp) (fun _ => rfl) (fun _ => named_pure i) ?_
  simp
  refine ⟨fun h => ?_, fun h => DLe_bool ?_⟩
  · refine call_plain _ (by simp) (by simp) (fun _ => rfl) (fun _ => name_pure i.name) ?_
    simp
    exact DLe_bool (by rw [e, h]; rfl)
  · rw [e, h, str_nil]
    rfl

end Go.Proofs.Ytpfokkfomgmibaa
/- Contracts by the evaluator: the program's layer 5, blocks and functions. -/
namespace Go.Proofs.Ytpfokkfomgmibaa
open Go.RowKit

set_option maxRecDepth 10000 in
theorem end1_pure (f : Func) (to : Int) (l : List Int) (n : Int) : APure Try.prog 66 [.int to, intsD l, .cref (funcC f) 0, .cref [.int n] 0] (.bool (goesB f to l n)) := by
  refine apureG _ _ Try.func66 (by kernel_rfl) t_ir_end_1 u_ir_end_1 rfl rfl (fun _ => ?_)
  simp [c_ir_end_1, r_ir_end_1]
  refine call_plain _ (by simp) (by simp) (fun _ => by simp) (fun _ => all_pure l n) ?_
  simp
  refine DLe_bool ?_
  by_cases h : (to < 0 ∨ (f.blocks.length : Int) ≤ to) ∨ ¬ (l.length : Int) = (f.blocks[to.toNat]?.getD default).params
  · rw [goesB_out h]
    rcases h with (h | h) | h
    · simp [show ¬ 0 ≤ to by omega]
    · simp [show ¬ to < f.blocks.length by omega]
    · simp [h]
  · rw [goesB_in (by omega) (by omega) (by omega)]
    simp [show 0 ≤ to by omega, show to < f.blocks.length by omega, show (l.length : Int) = (f.blocks[to.toNat]?.getD default).params by omega]

theorem one_int (x : Int) : DLe (.sl 1 1 fun i => List.take 1 (List.drop i [DV.int x])) (intsD [x]) :=
  intsD_le rfl (fun k hk => by obtain rfl : k = 0 := by simpa using hk
                               rfl)

set_option maxRecDepth 10000 in
theorem end_pure (f : Func) (b : Block) (h0 : 0 ≤ b.params) (h6 : b.params ≤ 6) (h32 : b.ins.length ≤ 32) : APure Try.prog 60 [.agg (funcC f), .agg (blockC b)] (.bool (endB f b)) := by
  have hw : IntKind.i64.wrap (b.params + (b.ins.length : Int)) = b.params + b.ins.length := wrap_in (by omega)
  refine apureG _ _ Try.func60 (by kernel_rfl) t_ir_end u_ir_end rfl rfl (fun _ => ?_)
  simp [c_ir_end, r_ir_end]
  refine call_plain _ (by simp) (by simp) (fun _ => rfl) (fun _ => values_pure b) ?_
  rw [hw]
  simp
  refine ⟨fun k1 => ?_, fun k1 => ⟨fun k2 => ?_, fun k2 => ⟨fun k3 => ?_, fun k3 => ?_⟩⟩⟩
  · refine call_plain _ (by simp) (by simp) (fun _ => by simp; rfl) (fun _ => end1_pure f b.to b.args (b.params + b.ins.length)) ?_
    simp
    refine DLe_bool ?_
    rw [endB_jump k1, Bool.eq_iff_iff]
    simp [and_assoc]
    constructor
    · rintro ⟨h1, h2, h3, h4⟩; exact ⟨h4, h1, h2, h3⟩
    · rintro ⟨h4, h1, h2, h3⟩; exact ⟨h1, h2, h3, h4⟩
  · refine call_arg (ds := ?ds) (all_pure [b.ta] (b.params + b.ins.length)) (by simp) (by simp) ?hd ?hle ?h
    case hd => intro _; simp; rfl
    case hle => intro _; exact ⟨one_int _, DLe.refl _, trivial⟩
    simp
    refine call_plain _ (by simp) (by simp) (fun _ => by simp; rfl) (fun _ => end1_pure f b.to b.args (b.params + b.ins.length)) ?_
    simp
    refine call_plain _ (by simp) (by simp) (fun _ => by simp; rfl) (fun _ => end1_pure f b.els b.elses (b.params + b.ins.length)) ?_
    simp
    refine DLe_bool ?_
    rw [endB_if k2, Bool.eq_iff_iff]
    simp [belowB]
  · refine call_arg (ds := ?ds2) (all_pure [b.ta] (b.params + b.ins.length)) (by simp) (by simp) ?hd2 ?hle2 ?h2
    case hd2 => intro _; simp; rfl
    case hle2 => intro _; exact ⟨one_int _, DLe.refl _, trivial⟩
    simp
    refine DLe_bool ?_
    rw [endB_other k1 k2, Bool.eq_iff_iff]
    simp [belowB, k3]
    constructor
    · rintro ⟨⟨⟨h1, h2, h3⟩, h4⟩, h5⟩; exact ⟨⟨⟨⟨h1, h4⟩, h5⟩, h2⟩, h3⟩
    · rintro ⟨⟨⟨⟨h1, h4⟩, h5⟩, h2⟩, h3⟩; exact ⟨⟨⟨h1, h2, h3⟩, h4⟩, h5⟩
  · rw [endB_other k1 k2, beq_eq_false_iff_ne.2 k3]
    exact DLe.refl _

set_option maxRecDepth 10000 in
theorem block_pure (f : Func) (b : Block) (hi : ∀ i ∈ b.ins, i.args.length ≤ 17592186044416) : APure Try.prog 55 [.agg (funcC f), .agg (blockC b)] (.bool (blockOk f b)) := by
  refine apureG _ _ Try.func55 (by kernel_rfl) t_ir_block u_ir_block rfl rfl (fun _ => ?_)
  simp [c_ir_block, r_ir_block]
  refine ⟨fun h => DLe_bool ?_, fun h0 h6 h32 => ?_⟩
  · symm
    rcases h with (h | h) | h
    · exact blockOk_lo h
    · exact blockOk_hi h
    · exact blockOk_many (by omega)
  refine loop_s (κ := Nat) (fun m => m ≤ b.ins.length ∧ ∀ j (h : j < b.ins.length), j < m → instOk b.ins[j] (b.params + j) = true) (fun m => b.ins.length - m) (fun m => [(sl 24, .int m)]) (fun _ => []) 0 0 (srcs []) (by simp) (by simp) ?_
  rintro m ⟨hm, hb⟩
  have hw : IntKind.i64.wrap (b.params + (m : Int)) = b.params + m := wrap_in (by omega)
  simp [hw]
  refine ⟨fun hlt => ⟨hlt, ?_⟩, fun hge => ?_⟩
  · refine call_plain _ (by simp) (by simp) (fun _ => rfl) (fun _ => inst_pure (b.ins[m]?.getD default) (b.params + m) (by rw [getD_some hlt]; exact hi _ (List.getElem_mem hlt))) ?_
    simp [hlt]
    refine ⟨fun h => DLe_bool (blockOk_ins hlt h).symm, fun h => ?_⟩
    refine ⟨m + 1, ⟨by omega, fun j hj hj' => ?_⟩, by omega, srcs [], ?_⟩
    · rcases Nat.lt_or_ge j m with h1 | h1
      · exact hb j hj h1
      · obtain rfl : j = m := by omega
        exact h
    · simp [SLeK]
      exact DLe_int (wrap_succ (by omega))
  · have he := blockOk_end (f := f) h0 h6 (by omega) (fun j hj => hb j hj (by omega))
    refine call_plain _ (by simp) (by simp) (fun _ => rfl) (fun _ => end_pure f b h0 h6 (by omega)) ?_
    simp
    exact DLe_bool he.symm

end Go.Proofs.Ytpfokkfomgmibaa
/- Contracts by the evaluator: the program's layer 5, functions and globals. -/
namespace Go.Proofs.Ytpfokkfomgmibaa
open Go.RowKit

theorem func1_pure (f : Func) (b : Block) (hi : ∀ i ∈ b.ins, i.args.length ≤ 17592186044416) : APure Try.prog 54 [.agg (blockC b), .cref (funcC f) 0] (.bool (!blockOk f b)) := by
  refine apureG _ _ Try.func54 (by kernel_rfl) t_ir_Func_1 u_ir_Func_1 rfl rfl (fun _ => ?_)
  simp [c_ir_Func_1, r_ir_Func_1]
  refine call_plain _ (by simp) (by simp) (fun _ => rfl) (fun _ => block_pure f b hi) ?_
  simp

theorem indexBlock_pure (xs : List Block) (F : FuncId) (caps : List DV) (p : Block → Bool) (hF : ∀ v ∈ xs, APure Try.prog F (.agg (blockC v) :: caps) (.bool (p v))) : APure Try.prog 58 [blocksD xs, .fn F caps] (.int (findI p xs)) := by
  refine apureG _ _ Try.func58 (by kernel_rfl) t_slices_IndexFunc___api_Block_api_Block_ u_slices_IndexFunc___api_Block_api_Block_ rfl rfl (fun hx => len1 hx fun hl => ?_)
  clear hx
  simp [c_slices_IndexFunc___api_Block_api_Block_, r_slices_IndexFunc___api_Block_api_Block_]
  refine loop_s (κ := Nat) (fun k => k ≤ xs.length ∧ ∀ i (h : i < xs.length), i < k → p xs[i] = false) (fun k => xs.length - k) (fun k => [(sl 8, .int k)]) (fun _ => []) 0 0 (srcs []) (by simp) (by simp) ?_
  rintro k ⟨hk, hb⟩
  simp
  refine ⟨fun hlt => ⟨hlt, ?_⟩, fun hge => ?_⟩
  · rw [getD_some hlt]
    refine call_plain _ (by simp) (by simp) (fun _ => by simp) (fun _ => hF _ (List.getElem_mem hlt)) ?_
    simp
    refine ⟨fun h => DLe_int (findI_hit hlt hb h).symm, fun h => ?_⟩
    refine ⟨k + 1, ⟨by omega, fun i hi h1 => ?_⟩, by omega, srcs [], ?_⟩
    · rcases Nat.lt_or_ge i k with h2 | h2
      · exact hb i hi h2
      · obtain rfl : i = k := by omega
        exact h
    · simp [SLeK]
      exact DLe_int (wrap_succ (by omega))
  · exact DLe_int (findI_miss fun i hi => hb i hi (by omega)).symm

theorem containsBlock_pure (xs : List Block) (F : FuncId) (caps : List DV) (p : Block → Bool) (hF : ∀ v ∈ xs, APure Try.prog F (.agg (blockC v) :: caps) (.bool (p v))) : APure Try.prog 53 [blocksD xs, .fn F caps] (.bool (xs.any p)) := by
  refine apureG _ _ Try.func53 (by kernel_rfl) t_slices_ContainsFunc___api_Block_api_Block_ u_slices_ContainsFunc___api_Block_api_Block_ rfl rfl (fun _ => ?_)
  simp [c_slices_ContainsFunc___api_Block_api_Block_, r_slices_ContainsFunc___api_Block_api_Block_]
  refine call_plain _ (by simp) (by simp) (fun _ => rfl) (fun _ => indexBlock_pure xs F caps p hF) ?_
  simp
  exact DLe_bool (findI_ge p xs)

set_option maxRecDepth 10000 in
theorem func_pure (f : Func) (hi : ∀ b ∈ f.blocks, ∀ i ∈ b.ins, i.args.length ≤ 17592186044416) : APure Try.prog 40 [.agg (funcC f)] (.bool (funcOk f)) := by
  refine apureG _ _ Try.func40 (by kernel_rfl) t_ir_Func u_ir_Func rfl rfl (fun _ => ?_)
  simp [c_ir_Func, r_ir_Func]
  refine call_plain _ (by simp) (by simp) (fun _ => rfl) (fun _ => name_pure f.name) ?_
  simp
  refine ⟨fun h => DLe_bool ?_, fun a1 a2 a3 a4 a5 a6 => ⟨fun h => DLe_bool ?_, fun h => ⟨List.length_pos_iff.2 h, ?_⟩⟩⟩
  · symm
    rcases h with ((((h | h) | h) | h) | h) | h
    · exact funcOk_name h
    · exact funcOk_b1 h
    · exact funcOk_b3 h
    · exact funcOk_p0 h
    · exact funcOk_p6 h
    · exact funcOk_n (by omega)
  · rw [funcOk_nil a1 a2 a3 a4 a5 (by simp [h])]
    rw [Bool.eq_iff_iff]; simp
  have hl := List.length_pos_iff.2 h
  have hf := funcOk_cons a1 a2 a3 a4 a5 (by omega) hl
  refine call_plain _ (by simp) (by simp) (fun _ => by simp; rfl) (fun _ => containsBlock_pure f.blocks _ _ _ (fun b hb => func1_pure f b (hi b hb))) ?_
  simp
  refine DLe_bool ?_
  rw [hf, getD_some hl]
  congr 1
  rw [Bool.eq_iff_iff]
  simp

/-- Is a global right? -/
def globOk (g : Glob) : Bool := nameOk g.name && decide (1 ≤ g.bind) && decide (g.bind ≤ 3) && (g.here || (g.init == 0 && g.bind != 1))

set_option maxRecDepth 10000 in
theorem glob_pure (g : Glob) : APure Try.prog 41 [.agg (globC g)] (.bool (globOk g)) := by
  refine apureG _ _ Try.func41 (by kernel_rfl) t_ir_glob u_ir_glob rfl rfl (fun _ => ?_)
  simp [c_ir_glob, r_ir_glob]
  refine call_plain _ (by simp) (by simp) (fun _ => rfl) (fun _ => name_pure g.name) ?_
  simp
  refine ⟨fun h1 h2 h3 h4 => ⟨⟨⟨⟨h1, h2⟩, h3⟩, h4⟩, fun h5 => ⟨⟨⟨⟨h1, h2⟩, h3⟩, h4⟩, h5⟩⟩, fun h1 h2 h3 => ⟨⟨⟨h1, h2⟩, h3⟩, fun h4 => ⟨⟨⟨h1, h2⟩, h3⟩, h4⟩⟩, DLe_bool ?_⟩
  rw [Bool.eq_iff_iff]
  simp [globOk]

end Go.Proofs.Ytpfokkfomgmibaa
/- The iterator over a function's instructions. -/
namespace Go.Proofs.Ytpfokkfomgmibaa
open Go.RowKit

/-- A function's instructions. -/
def allIns (f : Func) : List Inst := f.blocks.flatMap (·.ins)

theorem insts_pure (f : Func) : APure Try.prog 46 [.agg (funcC f)] (.fn 56 [.cref (funcC f) 0]) := by
  refine apureG _ _ Try.func46 (by kernel_rfl) t_ir_insts u_ir_insts rfl rfl (fun _ => ?_)
  simp [c_ir_insts, r_ir_insts]
  exact DLe.refl _

theorem tr67 {c : Code} {ac : ACode} (h : trCode Try.prog 8 27 [] [] (drOk 8) c = some ac) : TrCode Try.prog 8 27 c ac :=
  trCode_sound (fun _ _ _ hnd hl htr hd => regOk_draw mixed hnd hl htr hd) h

def yv (l : Nat) : AV := .d (.lit (.func (.yield l) #[] #[]))
/-- Ahead of the blocks. -/
def EO (l : Nat) (f : Func) (k : Nat) : T := setL (.leaf (.d .top)) [(sl 0, yv l), (sl 8, .d (blocksD f.blocks)), (sl 9, .int f.blocks.length), (sl 10, .int k)]
def EO' (l : Nat) (f : Func) (k : Nat) : T := setL (.leaf (.d .top)) [(sl 0, yv l), (sl 8, .d (blocksD f.blocks)), (sl 9, .int f.blocks.length), (sl 10, .int k), (sl 11, .d (.lit (.bool (decide (k < f.blocks.length)))))]
/-- Ahead of a block's instructions. -/
def EB (l : Nat) (f : Func) (k : Nat) (b : Block) : T := setL (EO l f k) [(sl 4, .d (.cref (blockC b) 0))]
def EI (l : Nat) (f : Func) (k : Nat) (b : Block) (m : Nat) : T := setL (EO l f k) [(sl 15, .d (insD b.ins)), (sl 16, .int b.ins.length), (sl 17, .int m)]
def EI' (l : Nat) (f : Func) (k : Nat) (b : Block) (m : Nat) : T := setL (EI l f k b m) [(sl 18, .d (.lit (.bool (decide (m < b.ins.length)))))]
def EJ (l : Nat) (f : Func) (k : Nat) (b : Block) (m : Nat) (i : Inst) : T := setL (EI l f k b m) [(sl 6, .d (.cref (instC i) 0))]
def EJ1 (l : Nat) (f : Func) (k : Nat) (b : Block) (m : Nat) (i : Inst) : T := setL (EJ l f k b m i) [(sl 21, yv l)]
def EJ2 (l : Nat) (f : Func) (k : Nat) (b : Block) (m : Nat) (i : Inst) : T := setL (EJ1 l f k b m i) [(sl 22, .d (.agg (instC i)))]
def EJ3 (l : Nat) (f : Func) (k : Nat) (b : Block) (m : Nat) : T := setL (EI l f k b m) [(sl 23, .d (.lit (.bool true)))]
def EJ4 (l : Nat) (f : Func) (k : Nat) (b : Block) (m : Nat) : T := setL (EI l f k b m) [(sl 24, .d (.lit (.bool false)))]
def EN : T := setL (.leaf (.d .top)) [(sl 23, .d (.lit (.bool false)))]
def EN' : T := setL (.leaf (.d .top)) [(sl 24, .d (.lit (.bool true)))]

/-- How many instructions lie ahead of block k. -/
def cnt (f : Func) (k : Nat) : Nat := ((f.blocks.take k).flatMap (·.ins)).length
theorem cnt_zero (f : Func) : cnt f 0 = 0 := rfl
theorem cnt_succ {f : Func} {k : Nat} (h : k < f.blocks.length) : cnt f (k + 1) = cnt f k + f.blocks[k].ins.length := by
  unfold cnt
  rw [List.take_succ_eq_append_getElem h, List.flatMap_append, List.length_append]
  simp
theorem cnt_all (f : Func) : cnt f f.blocks.length = (allIns f).length := by
  unfold cnt allIns
  rw [List.take_of_length_le (Nat.le_refl _)]
theorem ins_at {f : Func} {k m : Nat} (h : k < f.blocks.length) (hm : m < f.blocks[k].ins.length) : (allIns f)[cnt f k + m]? = some f.blocks[k].ins[m] := by
  have e : allIns f = (f.blocks.take k).flatMap (·.ins) ++ (f.blocks[k].ins ++ (f.blocks.drop (k + 1)).flatMap (·.ins)) := by
    have e2 : f.blocks = f.blocks.take k ++ (f.blocks[k] :: f.blocks.drop (k + 1)) := by rw [← List.drop_eq_getElem_cons h, List.take_append_drop]
    unfold allIns
    conv => lhs; rw [e2]
    rw [List.flatMap_append, List.flatMap_cons]
  rw [e, List.getElem?_append_right (by unfold cnt; omega)]
  rw [show cnt f k + m - ((f.blocks.take k).flatMap (·.ins)).length = m by unfold cnt; omega]
  rw [List.getElem?_append_left hm, List.getElem?_eq_getElem hm]

theorem op_tmp (n : Nat) (h : n < 256) : TrOpd 8 (.tmp n) (.s (sl n)) := by
  have := TrOpd.s (D := 8) (sl n) (bits_length 8 n)
  rwa [idx_bits 8 n (by omega)] at this

set_option maxRecDepth 10000 in
set_option maxHeartbeats 2000000 in
theorem insts1_seq (f : Func) : ASeq Try.prog 56 [.cref (funcC f) 0] ((allIns f).map fun i => [.agg (instC i)]) := by
  refine ⟨⟨_, _, Try.func56, by kernel_rfl, rfl⟩, fun X w us hX hus l J Jx hJe hJxe hJY hY0 hJ0 => ?_⟩
  have hY : ∀ k Y W (vs : Array Value) i, (allIns f)[k]? = some i → J k Y W → DReps Y W vs.toList [.agg (instC i)] → YieldAt Fence.wide 0 Try.prog l vs W fun e W' => (e = .returned (.bool true) ∧ ∃ Y', J (k + 1) Y' W' ∧ KB 0 Y Y' W W') ∨ (e = .returned (.bool false) ∧ Jx W') := by
    intro k Y W vs i hi hJ hvs
    obtain ⟨hk, he⟩ := List.getElem?_eq_some_iff.1 hi
    exact hY0 k Y W vs (by simpa using hk) hJ (by simpa [he] using hvs)
  clear hY0
  refine (callsIn_wide (n := 0)).1 (callsIn_of_wp (F := Fence.wide) Try.func56 rfl trivial ?_ rfl)
  have hargs : DReps X w (#[Value.func (.yield l) #[] #[]] ++ us).toList [.lit (.func (.yield l) #[] #[]), .cref (funcC f) 0] := by
    simpa using DReps.cons (.lit _) hus
  have hP0 : P1 27 X _ w _ := P1.init hX (by omega) (by simp) hargs
  refine wpIn_seq (wpIn_mono (stretch (e' := EO l f 0) (ac := .reg [⟨(some (sl 7)), none, (.fld (.s (sl 1)) 3), none⟩, ⟨(some (sl 8)), none, (.ld true (.s (sl 7)) none), none⟩, ⟨(some (sl 9)), none, (.len false (.s (sl 8))), none⟩, ⟨(some (sl 10)), none, (.mv (.c (.int .i64 0))), none⟩]) (tr67 (by kernel_rfl)) rfl hP0 (G_start _ (by simp [EO, yv]))) ?_)
  rintro x a w1 ⟨rfl, hx, hP⟩
  refine wpIn_block ?_
  refine wpIn_loop_n (fun j a W => ∃ k Y, j = f.blocks.length - k ∧ k ≤ f.blocks.length ∧ P1 27 Y a W (EO l f k) ∧ J (cnt f k) Y W) ⟨_, 0, X, rfl, Nat.zero_le _, hP, hJe _ _ _ _ hJ0 hx⟩ ?_
  rintro j a W ⟨k, Y, rfl, hk, hP, hJ⟩
  have hbl := hP.len (p := sl 8) rfl rfl
  refine wpIn_seq (wpIn_mono (stretch (e' := EO' l f k) (ac := .reg [⟨(some (sl 11)), none, (.bin .lss (.s (sl 10)) (.s (sl 9))), none⟩]) (tr67 (by kernel_rfl)) rfl hP (G_start _ (by simp [EO, EO', yv]))) ?_)
  rintro x a1 W1 ⟨rfl, hx1, hP1⟩
  refine wpIn_seq (condStep hP1 (op_tmp 11 (by omega)) (b := decide (k < f.blocks.length)) rfl (fun hlt => wpIn_skip ?_) (fun hge => wpIn_exit ?_))
  rotate_left
  · have hkl : k = f.blocks.length := by simp at hge; omega
    simp only [Exit.then, Exit.inBlock, ↓reduceIte]
    refine ⟨hP1.defers, _, results_none rfl _ _ _, ⟨_, rfl⟩, .inl ⟨Y, ?_⟩⟩
    rw [List.length_map, ← cnt_all, ← hkl]
    exact hJe _ _ _ _ hJ hx1
  have hlt : k < f.blocks.length := by simpa using hlt
  have hJ1 := hJe _ _ _ _ hJ hx1
  clear hJ hP hx1
  refine wpIn_seq (wpIn_block ?_)
  obtain ⟨b, hb⟩ : ∃ b, b = f.blocks[k] := ⟨_, rfl⟩
  have hb' : f.blocks[k]?.getD default = b := by rw [hb]; exact getD_some hlt
  refine wpIn_seq (wpIn_mono (stretch (e' := EB l f k b) (ac := .seq (.reg [⟨(some (sl 12)), none, (.idx true (.s (sl 8)) (.s (sl 10)) 8), none⟩, ⟨(some (sl 13)), none, (.ld true (.s (sl 12)) (some 8)), none⟩, ⟨(some (sl 4)), none, (.new [(.int .i64 0), (.slice none 0 0), (.int .i64 0), (.int .i64 0), (.int .i64 0), (.slice none 0 0), (.int .i64 0), (.slice none 0 0)]), none⟩, ⟨none, none, (.ini 1 (.s (sl 4)) (.s (sl 13)) 8), none⟩]) (.frz (sl 4))) (tr67 (by kernel_rfl)) rfl hP1 (G_start _ (by simp [EO, EO', EB, yv, hlt]; rw [hb]; exact DLe.refl _))) ?_)
  rintro x a2 W2 ⟨rfl, hx2, hP2⟩
  have hJ2 := hJe _ _ _ _ hJ1 hx2
  clear hJ1 hP1 hx2
  refine wpIn_seq (wpIn_mono (stretch (e' := EI l f k b 0) (ac := .reg [⟨(some (sl 14)), none, (.fld (.s (sl 4)) 1), none⟩, ⟨(some (sl 15)), none, (.ld true (.s (sl 14)) none), none⟩, ⟨(some (sl 16)), none, (.len false (.s (sl 15))), none⟩, ⟨(some (sl 17)), none, (.mv (.c (.int .i64 0))), none⟩]) (tr67 (by kernel_rfl)) rfl hP2 (G_start _ (by simp [EO, EB, EI, yv]))) ?_)
  rintro x a3 W3 ⟨rfl, hx3, hP3⟩
  have hJ3 := hJe _ _ _ _ hJ2 hx3
  clear hJ2 hP2 hx3
  refine wpIn_block ?_
  refine wpIn_loop_n (fun j a W => ∃ m Y, j = b.ins.length - m ∧ m ≤ b.ins.length ∧ P1 27 Y a W (EI l f k b m) ∧ J (cnt f k + m) Y W) ⟨_, 0, Y, rfl, Nat.zero_le _, hP3, hJ3⟩ ?_
  clear hJ3 hP3
  rintro j a W ⟨m, Y, rfl, hm, hP, hJ⟩
  have hil := hP.len (p := sl 15) rfl rfl
  refine wpIn_seq (wpIn_mono (stretch (e' := EI' l f k b m) (ac := .reg [⟨(some (sl 18)), none, (.bin .lss (.s (sl 17)) (.s (sl 16))), none⟩]) (tr67 (by kernel_rfl)) rfl hP (G_start _ (by simp [EO, EI, EI', yv]))) ?_)
  rintro x a1 W1 ⟨rfl, hx1, hP1⟩
  have hJ1 := hJe _ _ _ _ hJ hx1
  clear hJ hP hx1
  refine wpIn_seq (condStep hP1 (op_tmp 18 (by omega)) (b := decide (m < b.ins.length)) rfl (fun hml => wpIn_skip ?_) (fun hge => wpIn_exit ?_))
  rotate_left
  · have hml : m = b.ins.length := by simp at hge; omega
    simp only [Exit.then, Exit.inBlock, ↓reduceIte]
    refine wpIn_mono (stretch (e' := EO l f (k + 1)) (ac := .reg [⟨(some (sl 26)), none, (.bin .add (.s (sl 10)) (.c (.int .i64 1))), none⟩, ⟨(some (sl 10)), none, (.mv (.s (sl 26))), none⟩]) (tr67 (by kernel_rfl)) rfl hP1 (G_start _ (by simp [EO, EI, EI', yv]; exact DLe_int (wrap_succ (by omega))))) ?_
    rintro x a4 W4 ⟨rfl, hx4, hP4⟩
    refine ⟨_, ?_, k + 1, Y, rfl, hlt, hP4, ?_⟩
    · omega
    · rw [cnt_succ hlt, ← hb, ← hml]
      exact hJe _ _ _ _ hJ1 hx4
  have hml : m < b.ins.length := by simpa using hml
  obtain ⟨i, hi⟩ : ∃ i, i = b.ins[m] := ⟨_, rfl⟩
  have hiat : (allIns f)[cnt f k + m]? = some i := by
    subst hb
    rw [ins_at hlt hml, hi]
  refine wpIn_seq (wpIn_block ?_)
  refine wpIn_seq (wpIn_mono (stretch (e' := EJ l f k b m i) (ac := .seq (.reg [⟨(some (sl 19)), none, (.idx true (.s (sl 15)) (.s (sl 17)) 6), none⟩, ⟨(some (sl 20)), none, (.ld true (.s (sl 19)) (some 6)), none⟩, ⟨(some (sl 6)), none, (.new [(.int .i64 0), (.int .i64 0), (.int .i64 0), (.int .u64 0), (.string ⟨#[]⟩), (.slice none 0 0)]), none⟩, ⟨none, none, (.ini 1 (.s (sl 6)) (.s (sl 20)) 6), none⟩]) (.frz (sl 6))) (tr67 (by kernel_rfl)) rfl hP1 (G_start _ (by simp [EO, EI, EI', EJ, yv, hml]; rw [hi]; exact DLe.refl _))) ?_)
  rintro x a2 W2 ⟨rfl, hx2, hP2⟩
  have hJ2 := hJe _ _ _ _ hJ1 hx2
  clear hJ1 hP1 hx2
  -- the call of yield
  refine wpIn_seq (wpIn_mono (yieldReg (l := l) (a0 := ⟨some (sl 21), none, .mv (.s (sl 0)), none⟩) (a1 := ⟨some (sl 22), none, .ld true (.s (sl 6)) (some 6), none⟩) (a2 := ⟨some (sl 23), none, .call true (.s (sl 21)) [.s (sl 22)], none⟩) (a3 := ⟨some (sl 24), none, .not (.s (sl 23)), none⟩)
    (p2 := sl 23) (e1 := EJ1 l f k b m i) (e2 := EJ2 l f k b m i) (e4 := EJ4 l f k b m) (f4 := EN') (xd := .agg (instC i)) (JT := J (cnt f k + (m + 1))) (Jx := Jx) (by kernel_rfl) (by kernel_rfl) rfl rfl rfl rfl (by decide) (op_tmp 21 (by omega)) (op_tmp 22 (by omega)) hP2
    rfl (by simp [EO, EI, EJ, EJ1, yv]) rfl (by simp [EO, EI, EJ, EJ1, EJ2, yv]) rfl rfl
    (fun W' vs hx hvs => hY _ _ _ vs i hiat (hJe _ _ _ _ hJ2 hx) hvs) (hJY _) (hJe _) hJxe rfl (by simp [EO, EI, EJ, EJ1, EJ2, EJ4, yv]) (by simp [EN'])) ?_)
  rintro x a6 W6 ⟨rfl, (⟨Y', hJ6, hP6⟩ | ⟨hJx6, hP6⟩)⟩
  · refine condStep hP6 (op_tmp 24 (by omega)) (b := false) rfl (fun h => by cases h) (fun _ => wpIn_skip ?_)
    simp only [Exit.then, Exit.inBlock]
    refine wpIn_mono (stretch (e' := EI l f k b (m + 1)) (ac := .reg [⟨(some (sl 25)), none, (.bin .add (.s (sl 17)) (.c (.int .i64 1))), none⟩, ⟨(some (sl 17)), none, (.mv (.s (sl 25))), none⟩]) (tr67 (by kernel_rfl)) rfl hP6 (G_start _ (by simp [EO, EI, EJ4, yv]; exact DLe_int (wrap_succ (by omega))))) ?_
    rintro x a7 W7 ⟨rfl, hx7, hP7⟩
    exact ⟨_, by omega, m + 1, Y', rfl, hml, hP7, hJe _ _ _ _ hJ6 hx7⟩
  · refine condStep hP6 (op_tmp 24 (by omega)) (b := true) rfl (fun _ => wpIn_ret ?_) (fun h => by cases h)
    simp only [Exit.then, Exit.inBlock]
    exact ⟨hP6.defers, _, results_none rfl _ _ _, ⟨_, rfl⟩, .inr hJx6⟩

end Go.Proofs.Ytpfokkfomgmibaa
/- Contracts by the evaluator: the program's layer 5, names. -/
namespace Go.Proofs.Ytpfokkfomgmibaa
open Go.RowKit

/-- The names that some instructions have. -/
def namesOf (l : List Inst) : List ByteArray := (l.filter fun i => isNamed i.op).map (·.name)

theorem namesOf_length (l : List Inst) : (namesOf l).length ≤ l.length := by
  unfold namesOf
  rw [List.length_map]
  exact List.length_filter_le _ _
theorem namesOf_yes {l : List Inst} {k : Nat} (h : k < l.length) (hn : isNamed l[k].op = true) : namesOf (l.take (k + 1)) = namesOf (l.take k) ++ [l[k].name] := by
  unfold namesOf
  rw [List.take_succ_eq_append_getElem h, List.filter_append, List.map_append]
  simp [hn]
theorem namesOf_no {l : List Inst} {k : Nat} (h : k < l.length) (hn : isNamed l[k].op = false) : namesOf (l.take (k + 1)) = namesOf (l.take k) := by
  unfold namesOf
  rw [List.take_succ_eq_append_getElem h, List.filter_append, List.map_append]
  simp [hn]
theorem appRow_str {l : List ByteArray} {x : ByteArray} {i : Nat} (h : i < l.length + 1) : appRow l.length (fun i => strC (l[i]?.getD ⟨#[]⟩)) (fun i => List.take 1 (List.drop i [DV.str x])) i = strC ((l ++ [x])[i]?.getD ⟨#[]⟩) := by
  unfold appRow
  split
  · rename_i hi
    rw [List.getElem?_append_left hi]
  · rename_i hi
    obtain rfl : i = l.length := by omega
    simp
    rfl

set_option maxRecDepth 10000 in
theorem refs_pure (f : Func) (hl : (allIns f).length ≤ 8796093022208) : APure Try.prog 29 [.agg (funcC f)] (strsD (namesOf (allIns f))) := by
  refine apureG _ _ Try.func29 (by kernel_rfl) t_ir_Refs u_ir_Refs rfl rfl (fun _ => ?_)
  simp [c_ir_Refs, r_ir_Refs]
  refine call_plain _ (by simp) (by simp) (fun _ => rfl) (fun _ => insts_pure f) ?_
  simp
  refine rng_s (insts1_seq f) (κ := List ByteArray) (fun k s => s = namesOf ((allIns f).take k)) [] (fun s => [(2, .box [.own 3 s.length]), (3, .row 9 1 s.length fun i => strC (s[i]?.getD ⟨#[]⟩))]) 5 [2] [] (srcs [(2, .id 2), (3, .nil)]) (by simp) (by simp) (by simp [T.pinned, AV.pinned]) (by simp) rfl (by simp) ?_ ?_
  · rintro k hk s rfl
    have hk' : k < (allIns f).length := by simpa using hk
    simp
    refine call_plain (ds := [.agg (instC (allIns f)[k])]) _ (by simp) (by simp) (fun _ => rfl) (fun _ => named_pure (allIns f)[k]) ?_
    simp
    refine ⟨fun h => ?_, fun h => ?_⟩
    · have hb : (namesOf (List.take k (allIns f))).length ≤ k := Nat.le_trans (namesOf_length _) (by simp; omega)
      refine ⟨by omega, srcs [(2, .id 2), (3, .id 13)], ?_⟩
      rw [namesOf_yes hk' h]
      simp [RngE]
      intro i hi
      exact appRow_str hi
    · refine ⟨srcs [(2, .id 2), (3, .id 3)], ?_⟩
      rw [namesOf_no hk' h]
      simp [RngE]
  · rintro s rfl
    simp

end Go.Proofs.Ytpfokkfomgmibaa
