/- Contracts by the evaluator: the program's layer 11: functions, those that are called first. -/
import Derived.Test.YtifinpijhbkhnaaF5
import Derived.Test.YtifinpijhbkhnaaRB
namespace Go.Proofs.Ytifinpijhbkhnaa
open Go.RowKit

/-- The functions that instructions call. -/
def callsI (l : List Inst) : List ByteArray := (l.filter fun i => decide (i.op = 14)).map (·.name)
def callsL (m : Module) (s : ByteArray) : List ByteArray := match findF m s with
  | some f => onceL (callsI (allIns f))
  | none => []
theorem callsI_append (l l' : List Inst) : callsI (l ++ l') = callsI l ++ callsI l' := by simp [callsI]
theorem callsI_length (l : List Inst) : (callsI l).length ≤ l.length := by
  unfold callsI
  rw [List.length_map]
  exact List.length_filter_le _ _
theorem callsI_yes {l : List Inst} {k : Nat} (h : k < l.length) (hn : l[k].op = 14) : callsI (l.take (k + 1)) = callsI (l.take k) ++ [l[k].name] := by
  rw [List.take_succ_eq_append_getElem h, callsI_append]
  simp [callsI, hn]
theorem callsI_no {l : List Inst} {k : Nat} (h : k < l.length) (hn : ¬ l[k].op = 14) : callsI (l.take (k + 1)) = callsI (l.take k) := by
  rw [List.take_succ_eq_append_getElem h, callsI_append]
  simp [callsI, hn]

/-- The two ways that the search for a function ends. -/
def foundF (m : Module) (s : ByteArray) : Func := (findF m s).getD ⟨⟨#[]⟩, 0, 0, []⟩
theorem findR_eq (m : Module) (s : ByteArray) : DLe (findR m s) (.tup [.agg (funcC (foundF m s)), .bool (findF m s).isSome]) := by
  unfold findR foundF
  cases findF m s with
  | some f => exact DLe.refl _
  | none =>
    refine DLe.tup rfl fun i h h' => ?_
    rcases i with _ | _ | i
    · refine DLe.agg rfl fun i h h' => ?_
      rcases i with _ | _ | _ | _ | i
      · exact DLe.refl _
      · exact DLe.refl _
      · exact DLe.refl _
      · exact blocksD_nil
      · simp at h; omega
    · exact DLe.refl _
    · simp at h; omega
theorem callsL_eq (m : Module) (s : ByteArray) : callsL m s = onceL (callsI (allIns (foundF m s))) := by
  unfold callsL foundF
  cases findF m s <;> rfl

set_option maxRecDepth 10000 in
theorem calls_pure (m : Module) (hm : Small m) (s : ByteArray) : APure Try.prog 55 [.agg (moduleC m), .str s] (strsD (callsL m s)) := by
  rw [callsL_eq]
  obtain ⟨f, hf⟩ : ∃ f, foundF m s = f := ⟨_, rfl⟩
  have hfi : (allIns f).length ≤ 1048576 := by
    rw [← hf]
    unfold foundF
    cases h : findF m s with
    | none => simp [allIns]
    | some f => exact hm.ins f (List.mem_of_find?_eq_some h)
  have hfb : f.blocks.length ≤ 1048576 := by
    rw [← hf]
    unfold foundF
    cases h : findF m s with
    | none => simp
    | some f => exact hm.blks f (List.mem_of_find?_eq_some h)
  have hfr := findR_eq m s
  rw [hf] at hfr ⊢
  refine apureG _ _ Try.func55 (by kernel_rfl) t_reach_Calls u_reach_Calls rfl rfl (fun _ => ?_)
  simp [c_reach_Calls, r_reach_Calls]
  refine call_plain (ds := [.agg (moduleC m), .str s]) _ (by simp) (by simp) (fun _ => rfl) (fun _ => (find_pure m s).le hfr) ?_
  simp
  refine loop_s (κ := Nat) (fun k => k ≤ f.blocks.length) (fun k => f.blocks.length - k) (fun k => [(sl 21, .int k), (sl 7, .own 0 (callsI ((f.blocks.take k).flatMap (·.ins))).length)])
    (fun k => [(0, .row 9 1 (callsI ((f.blocks.take k).flatMap (·.ins))).length fun i => strC ((callsI ((f.blocks.take k).flatMap (·.ins)))[i]?.getD ⟨#[]⟩))]) 1 0 (srcs [(0, .nil)]) (by simp) (by simp [callsI]) ?_
  rintro k hk
  simp
  refine ⟨fun hlt => ?_, fun hge => ?_⟩
  · refine ⟨hlt, ?_⟩
    obtain ⟨b, hb⟩ : ∃ b, b = f.blocks[k] := ⟨_, rfl⟩
    have hbk : f.blocks[k]?.getD default = b := by rw [getD_some hlt, hb]
    have hcnt := cnt_succ hlt
    rw [← hb] at hcnt
    have hcl : cnt f (k + 1) ≤ (allIns f).length := by
      have e : allIns f = (f.blocks.take (k + 1)).flatMap (·.ins) ++ (f.blocks.drop (k + 1)).flatMap (·.ins) := by
        rw [← List.flatMap_append, List.take_append_drop]
        rfl
      rw [e, List.length_append]
      unfold cnt
      omega
    obtain ⟨l, hl0⟩ : ∃ l, l = callsI ((f.blocks.take k).flatMap (·.ins)) := ⟨_, rfl⟩
    have hll : l.length ≤ cnt f k := by rw [hl0]; exact callsI_length _
    rw [← hl0]
    simp only [hbk]
    refine loop_s (κ := Nat) (fun m => m ≤ b.ins.length) (fun m => b.ins.length - m) (fun m => [(sl 28, .int m), (sl 7, .own 0 (l ++ callsI (b.ins.take m)).length)])
      (fun m => [(0, .row 9 1 (l ++ callsI (b.ins.take m)).length fun i => strC ((l ++ callsI (b.ins.take m))[i]?.getD ⟨#[]⟩))]) 1 0 (srcs [(0, .id 0)]) (by simp) (by simp [callsI]) ?_
    rintro j hj
    simp
    refine ⟨fun hml => ⟨hml, ?_⟩, fun hge => ?_⟩
    · rw [getD_some hml]
      have hlm : (callsI (b.ins.take j)).length ≤ j := Nat.le_trans (callsI_length _) (by simp; omega)
      refine ⟨fun h => ?_, fun h => ?_⟩
      · refine ⟨by omega, j + 1, by omega, by omega, srcs [(0, .id 13)], ?_⟩
        simp [SLeK, callsI_yes hml h]
        refine ⟨⟨DLe_int (wrap_succ (by omega)), by omega⟩, by omega, fun i hi => ?_⟩
        have h1 := appRow_str (l := l ++ callsI (b.ins.take j)) (x := b.ins[j].name) (i := i) (by rw [List.length_append]; exact hi)
        rw [List.length_append, List.append_assoc] at h1
        exact h1
      · refine ⟨j + 1, by omega, by omega, srcs [(0, .id 0)], ?_⟩
        simp [SLeK, callsI_no hml h]
        exact DLe_int (wrap_succ (by omega))
    · refine ⟨k + 1, by omega, by omega, srcs [(0, .id 0)], ?_⟩
      have e : callsI ((f.blocks.take (k + 1)).flatMap (·.ins)) = l ++ callsI b.ins := by
        rw [List.take_succ_eq_append_getElem hlt, List.flatMap_append, callsI_append, ← hl0, ← hb]
        simp
      rw [List.take_of_length_le hge]
      simp [SLeK, e]
      exact DLe_int (wrap_succ (by omega))
  · rw [List.take_of_length_le hge]
    have e : f.blocks.flatMap (·.ins) = allIns f := rfl
    rw [e]
    have hc := callsI_length (allIns f)
    refine call_plain (ds := [strsD (callsI (allIns f))]) _ (by simp) (by simp) (fun _ => by simp) (fun _ => (once_own (callsI (allIns f)) (by omega)).pure) ?_
    simp

end Go.Proofs.Ytifinpijhbkhnaa
