/- Contracts by the evaluator: the document's layer 5, names. -/
import Derived.Test.YtghlfjpmpalpdaaB7
import Derived.Test.YtghlfjpmpalpdaaE5
namespace Go.Proofs.Ytghlfjpmpalpdaa
open Go.RowKit

set_option maxRecDepth 10000 in
theorem findFunc_pure (m : Module) (s : ByteArray) : APure Try.prog 23 [.agg (moduleC m), .str s] (.int (findI (fun f => decide (f.name = s)) m.funcs)) := by
  refine apureG _ _ Try.func23 (by kernel_rfl) t_marlineref05_FindFunc u_marlineref05_FindFunc rfl rfl (fun hx => ?_)
  have hl := lenAgg hx 0 rfl
  clear hx
  simp [c_marlineref05_FindFunc, r_marlineref05_FindFunc]
  refine loop_s (κ := Nat) (fun k => k ≤ m.funcs.length ∧ ∀ i (h : i < m.funcs.length), i < k → decide (m.funcs[i].name = s) = false) (fun k => m.funcs.length - k) (fun k => [(sl 5, .int k)]) (fun _ => []) 0 0 (srcs []) (by simp) (by simp) ?_
  rintro k ⟨hk, hb⟩
  simp
  refine ⟨fun hlt => ⟨hlt, ?_⟩, fun hge => DLe_int (findI_miss fun i hi => hb i hi (by omega)).symm⟩
  rw [getD_some hlt]
  refine ⟨fun h => DLe_int (findI_hit hlt hb (by simp [h])).symm, fun h => ⟨k + 1, ⟨hlt, fun i hi h1 => ?_⟩, by omega, srcs [], ?_⟩⟩
  · rcases Nat.lt_or_ge i k with h2 | h2
    · simpa using hb i hi h2
    · obtain rfl : i = k := by omega
      exact h
  · simp [SLeK]
    exact DLe_int (wrap_succ (by omega))

set_option maxRecDepth 10000 in
theorem findGlob_pure (m : Module) (s : ByteArray) : APure Try.prog 24 [.agg (moduleC m), .str s] (.int (findI (fun f => decide (f.name = s)) m.globs)) := by
  refine apureG _ _ Try.func24 (by kernel_rfl) t_marlineref05_FindGlob u_marlineref05_FindGlob rfl rfl (fun hx => ?_)
  have hl := lenAgg hx 1 rfl
  clear hx
  simp [c_marlineref05_FindGlob, r_marlineref05_FindGlob]
  refine loop_s (κ := Nat) (fun k => k ≤ m.globs.length ∧ ∀ i (h : i < m.globs.length), i < k → decide (m.globs[i].name = s) = false) (fun k => m.globs.length - k) (fun k => [(sl 5, .int k)]) (fun _ => []) 0 0 (srcs []) (by simp) (by simp) ?_
  rintro k ⟨hk, hb⟩
  simp
  refine ⟨fun hlt => ⟨hlt, ?_⟩, fun hge => DLe_int (findI_miss fun i hi => hb i hi (by omega)).symm⟩
  rw [getD_some hlt]
  refine ⟨fun h => DLe_int (findI_hit hlt hb (by simp [h])).symm, fun h => ⟨k + 1, ⟨hlt, fun i hi h1 => ?_⟩, by omega, srcs [], ?_⟩⟩
  · rcases Nat.lt_or_ge i k with h2 | h2
    · simpa using hb i hi h2
    · obtain rfl : i = k := by omega
      exact h
  · simp [SLeK]
    exact DLe_int (wrap_succ (by omega))

theorem take_eq_succS {xs ys : List ByteArray} {k : Nat} (h1 : k < xs.length) (h2 : k < ys.length) (h : xs.take k = ys.take k) (he : xs[k] = ys[k]) : xs.take (k + 1) = ys.take (k + 1) := by
  rw [List.take_succ_eq_append_getElem h1, List.take_succ_eq_append_getElem h2, h, he]

set_option maxRecDepth 10000 in
theorem strings_pure (xs ys : List ByteArray) : APure Try.prog 25 [strsD xs, strsD ys] (.bool (decide (xs = ys))) := by
  refine apureG _ _ Try.func25 (by kernel_rfl) t_marlineref05_Strings u_marlineref05_Strings rfl rfl (fun hx => len1 hx fun hl => ?_)
  clear hx
  simp [c_marlineref05_Strings, r_marlineref05_Strings]
  refine ⟨fun h => DLe_bool ?_, fun hlen => ?_⟩
  · symm; rw [decide_eq_false_iff_not]; rintro rfl; exact h rfl
  have hlen' : xs.length = ys.length := by omega
  refine loop_s (κ := Nat) (fun k => k ≤ xs.length ∧ xs.take k = ys.take k) (fun k => xs.length - k) (fun k => [(sl 5, .int k)]) (fun _ => []) 0 0 (srcs []) (by simp) (by simp) ?_
  rintro k ⟨hk, hb⟩
  simp
  refine ⟨fun hlt => ?_, fun hge => DLe_bool ?_⟩
  · have hlt' : k < ys.length := by omega
    rw [getD_some hlt, getD_some hlt']
    refine ⟨hlt, by omega, fun hne => DLe_bool ?_, fun he => ⟨k + 1, ⟨hlt, take_eq_succS hlt hlt' hb he⟩, by omega, srcs [], ?_⟩⟩
    · symm; rw [decide_eq_false_iff_not]; rintro rfl; exact hne rfl
    · simp [SLeK]
      exact DLe_int (wrap_succ (by omega))
  · rw [List.take_of_length_le hge, List.take_of_length_le (by omega)] at hb
    simp [hb]

theorem namesOf_append (l l' : List Inst) : namesOf (l ++ l') = namesOf l ++ namesOf l' := by simp [namesOf]

set_option maxRecDepth 10000 in
theorem refRefs_pure (f : Func) (hl : (allIns f).length ≤ 8796093022208) : APure Try.prog 27 [.agg (funcC f)] (strsD (namesOf (allIns f))) := by
  refine apureG _ _ Try.func27 (by kernel_rfl) t_marlineref05_Refs u_marlineref05_Refs rfl rfl (fun hx => ?_)
  have hbl := lenAgg hx 3 rfl
  clear hx
  simp [c_marlineref05_Refs, r_marlineref05_Refs]
  refine loop_s (κ := Nat) (fun k => k ≤ f.blocks.length) (fun k => f.blocks.length - k) (fun k => [(sl 4, .int k), (sl 3, .own 0 (namesOf ((f.blocks.take k).flatMap (·.ins))).length)])
    (fun k => [(0, .row 9 1 (namesOf ((f.blocks.take k).flatMap (·.ins))).length fun i => strC ((namesOf ((f.blocks.take k).flatMap (·.ins)))[i]?.getD ⟨#[]⟩))]) 1 0 (srcs [(0, .nil)]) (by simp) (by simp [namesOf]) ?_
  rintro k hk
  simp
  refine ⟨fun hlt => ?_, fun hge => by rw [List.take_of_length_le hge]; exact DLe.refl _⟩
  obtain ⟨b, hb⟩ : ∃ b, b = f.blocks[k] := ⟨_, rfl⟩
  have hbk : f.blocks[k]?.getD default = b := by rw [getD_some hlt, hb]
  have hcnt := cnt_succ hlt
  rw [← hb] at hcnt
  have hcl : cnt f (k + 1) ≤ (allIns f).length := by
    have e : allIns f = (f.blocks.take (k + 1)).flatMap (·.ins) ++ (f.blocks.drop (k + 1)).flatMap (·.ins) := by
      rw [← List.flatMap_append, List.take_append_drop]
      rfl
    rw [e, List.length_append]
    unfold cnt
    omega
  obtain ⟨l, hl0⟩ : ∃ l, l = namesOf ((f.blocks.take k).flatMap (·.ins)) := ⟨_, rfl⟩
  have hll : l.length ≤ cnt f k := by rw [hl0]; exact namesOf_length _
  rw [← hl0]
  refine loop_s (κ := Nat) (fun m => m ≤ b.ins.length) (fun m => b.ins.length - m) (fun m => [(sl 5, .int m), (sl 3, .own 0 (l ++ namesOf (b.ins.take m)).length)])
    (fun m => [(0, .row 9 1 (l ++ namesOf (b.ins.take m)).length fun i => strC ((l ++ namesOf (b.ins.take m))[i]?.getD ⟨#[]⟩))]) 1 0 (srcs [(0, .id 0)]) (by simp) (by simp [namesOf]) ?_
  rintro m hm
  simp [hlt, ← hb]
  refine ⟨fun hml => ⟨hml, ?_⟩, fun hge => ?_⟩
  · refine call_plain (ds := [.agg (instC b.ins[m])]) _ (by simp) (by simp) (fun _ => by simp [hml]; rfl) (fun _ => refNamed_pure b.ins[m]) ?_
    simp [hlt, ← hb, hml]
    have hlm : (namesOf (b.ins.take m)).length ≤ m := Nat.le_trans (namesOf_length _) (by simp; omega)
    refine ⟨fun h => ?_, fun h => ?_⟩
    · refine ⟨by omega, m + 1, by omega, by omega, srcs [(0, .id 34)], ?_⟩
      simp [SLeK, namesOf_yes hml h]
      refine ⟨⟨DLe_int (wrap_succ (by omega)), by omega⟩, by omega, fun i hi => ?_⟩
      have h1 := appRow_str (l := l ++ namesOf (b.ins.take m)) (x := b.ins[m].name) (i := i) (by rw [List.length_append]; exact hi)
      rw [List.length_append, List.append_assoc] at h1
      exact h1
    · refine ⟨m + 1, by omega, by omega, srcs [(0, .id 0)], ?_⟩
      simp [SLeK, namesOf_no hml h]
      exact DLe_int (wrap_succ (by omega))
  · refine ⟨k + 1, by omega, by omega, srcs [(0, .id 0)], ?_⟩
    have e : namesOf ((f.blocks.take (k + 1)).flatMap (·.ins)) = l ++ namesOf b.ins := by
      rw [List.take_succ_eq_append_getElem hlt, List.flatMap_append, namesOf_append, ← hl0, ← hb]
      simp
    rw [List.take_of_length_le hge]
    simp [SLeK, e]
    exact DLe_int (wrap_succ (by omega))

end Go.Proofs.Ytghlfjpmpalpdaa
