/- Contracts by the evaluator: the program's layer 5, names. -/
import Derived.Test.YtghlfjpmpalpdaaB6
import Derived.Test.YtghlfjpmpalpdaaE4
namespace Go.Proofs.Ytghlfjpmpalpdaa
open Go.RowKit

/-- The names that some instructions have. -/
def namesOf (l : List Inst) : List ByteArray := (l.filter fun i => isNamed i.op).map (·.name)

theorem namesOf_length (l : List Inst) : (namesOf l).length ≤ l.length := by
  unfold namesOf
  rw [List.length_map]
  exact List.length_filter_le _ _
theorem namesOf_yes {l : List Inst} {k : Nat} (h : k < l.length) (hn : isNamed l[k].op = true) : namesOf (l.take (k + 1)) = namesOf (l.take k) ++ [l[k].name] := by
  unfold namesOf
  rw [List.take_succ_eq_append_getElem h, List.filter_append, List.map_append]
  simp [hn]
theorem namesOf_no {l : List Inst} {k : Nat} (h : k < l.length) (hn : isNamed l[k].op = false) : namesOf (l.take (k + 1)) = namesOf (l.take k) := by
  unfold namesOf
  rw [List.take_succ_eq_append_getElem h, List.filter_append, List.map_append]
  simp [hn]
theorem appRow_str {l : List ByteArray} {x : ByteArray} {i : Nat} (h : i < l.length + 1) : appRow l.length (fun i => strC (l[i]?.getD ⟨#[]⟩)) (fun i => List.take 1 (List.drop i [DV.str x])) i = strC ((l ++ [x])[i]?.getD ⟨#[]⟩) := by
  unfold appRow
  split
  · rename_i hi
    rw [List.getElem?_append_left hi]
  · rename_i hi
    obtain rfl : i = l.length := by omega
    simp
    rfl

set_option maxRecDepth 10000 in
theorem refs_pure (f : Func) (hl : (allIns f).length ≤ 8796093022208) : APure Try.prog 26 [.agg (funcC f)] (strsD (namesOf (allIns f))) := by
  refine apureG _ _ Try.func26 (by kernel_rfl) t_ir_Refs u_ir_Refs rfl rfl (fun _ => ?_)
  simp [c_ir_Refs, r_ir_Refs]
  refine call_plain _ (by simp) (by simp) (fun _ => rfl) (fun _ => insts_pure f) ?_
  simp
  refine rng_s (insts1_seq f) (κ := List ByteArray) (fun k s => s = namesOf ((allIns f).take k)) [] (fun s => [(2, .box [.own 3 s.length]), (3, .row 9 1 s.length fun i => strC (s[i]?.getD ⟨#[]⟩))]) 5 [2] [] (srcs [(2, .id 2), (3, .nil)]) (by simp) (by simp) (by simp [T.pinned, AV.pinned]) (by simp) rfl (by simp) ?_ ?_
  · rintro k hk s rfl
    have hk' : k < (allIns f).length := by simpa using hk
    simp
    refine call_plain (ds := [.agg (instC (allIns f)[k])]) _ (by simp) (by simp) (fun _ => rfl) (fun _ => named_pure (allIns f)[k]) ?_
    simp
    refine ⟨fun h => ?_, fun h => ?_⟩
    · have hb : (namesOf (List.take k (allIns f))).length ≤ k := Nat.le_trans (namesOf_length _) (by simp; omega)
      refine ⟨by omega, srcs [(2, .id 2), (3, .id 13)], ?_⟩
      rw [namesOf_yes hk' h]
      simp [RngE]
      intro i hi
      exact appRow_str hi
    · refine ⟨srcs [(2, .id 2), (3, .id 3)], ?_⟩
      rw [namesOf_no hk' h]
      simp [RngE]
  · rintro s rfl
    simp

end Go.Proofs.Ytghlfjpmpalpdaa
