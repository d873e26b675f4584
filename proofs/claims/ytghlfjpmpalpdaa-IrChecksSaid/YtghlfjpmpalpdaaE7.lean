/- Contracts by the evaluator: the program's layer 5, is a module right? -/
import Derived.Test.YtghlfjpmpalpdaaE6
namespace Go.Proofs.Ytghlfjpmpalpdaa
open Go.RowKit

def hasN (l : List ByteArray) (s : ByteArray) : Bool := l.any fun x => decide (x = s)
/-- How many names there are, each one counted once. -/
def dcount : List ByteArray → Nat
  | [] => 0
  | x :: l => dcount l + if hasN l x then 0 else 1
def dcountR (l : List ByteArray) : Nat := dcount l.reverse
theorem hasN_append (l l' : List ByteArray) (s : ByteArray) : hasN (l ++ l') s = (hasN l s || hasN l' s) := by simp [hasN]
theorem hasN_reverse (l : List ByteArray) (s : ByteArray) : hasN l.reverse s = hasN l s := by simp [hasN]
theorem dcountR_snoc (l : List ByteArray) (x : ByteArray) : dcountR (l ++ [x]) = if hasN l x = true then dcountR l else dcountR l + 1 := by
  unfold dcountR
  rw [List.reverse_append]
  simp only [List.reverse_cons, List.reverse_nil, List.nil_append, List.singleton_append, dcount, hasN_reverse]
  split <;> rfl
def mapN (l : List ByteArray) : Value → Option Value
  | .string s => if hasN l s then some (.bool true) else none
  | _ => none
@[simp] theorem mapN_str (l : List ByteArray) (s : ByteArray) : mapN l (.string s) = if hasN l s then some (.bool true) else none := rfl
theorem mapN_step {l : List ByteArray} {x : ByteArray} (v : Value) (hv : kdOk .string v = true) : mset (mapN l) (.string x) (.bool true) v = mapN (l ++ [x]) v := by
  cases v <;> simp [kdOk] at hv
  rename_i s
  simp only [mset, keq_str, mapN_str, hasN_append]
  by_cases h : x = s
  · simp [h, hasN]
  · have e : hasN [x] s = false := by simp [hasN, h]
    rw [e, Bool.or_false, if_neg (by simp [Ne.symm h])]

def fnames (m : Module) : List ByteArray := m.funcs.map (·.name)
def gnames (m : Module) : List ByteArray := m.globs.map (·.name)
def namesM (m : Module) : List ByteArray := fnames m ++ gnames m
/-- Is a module right? If it isn't, why. -/
def checkE (m : Module) : Int :=
  if 16 < m.funcs.length ∨ 16 < m.globs.length then 4
  else if (m.funcs.all funcOk && m.globs.all globOk) = false then 10
  else if dcountR (namesM m) < m.funcs.length + m.globs.length then 9
  else refsE m

set_option maxRecDepth 10000 in
set_option maxHeartbeats 1000000 in
theorem check_pure (m : Module) (hi : ∀ f ∈ m.funcs, ∀ b ∈ f.blocks, ∀ i ∈ b.ins, i.args.length ≤ 17592186044416) : APure Try.prog 22 [.agg (moduleC m)] (.int (checkE m)) := by
  refine apureG _ _ Try.func22 (by kernel_rfl) t_ir_Check u_ir_Check rfl rfl (fun _ => ?_)
  simp [c_ir_Check, r_ir_Check]
  refine ⟨fun h => DLe_int ?_, fun hf hg => ?_⟩
  · unfold checkE
    rw [if_pos (by omega)]
  refine loop_s (κ := Nat) (fun k => k ≤ m.funcs.length ∧ ∀ j (h : j < m.funcs.length), j < k → funcOk m.funcs[j] = true) (fun k => m.funcs.length - k) (fun k => [(sl 22, .int k)]) (fun k => [(12, .map .string (dcountR ((fnames m).take k)) (mapN ((fnames m).take k)))]) 18 0 (srcs [(12, .id 12)]) (by simp) ?_ ?_
  · simp
    exact ⟨rfl, fun v _ => by cases v <;> rfl⟩
  rintro k ⟨hk, hall⟩
  simp
  refine ⟨fun hlt => ⟨hlt, ?_⟩, fun hge => ?_⟩
  · rw [getD_some hlt]
    refine call_plain (ds := [.agg (funcC m.funcs[k])]) _ (by simp) (by simp) (fun _ => rfl) (fun _ => func_pure m.funcs[k] (hi _ (List.getElem_mem hlt))) ?_
    simp
    refine ⟨fun h => DLe_int ?_, fun h => ?_⟩
    · unfold checkE
      rw [if_neg (by omega), if_pos (by rw [all_no hlt h]; rfl)]
    · have e : (fnames m).take (k + 1) = (fnames m).take k ++ [m.funcs[k].name] := by
        unfold fnames
        rw [List.take_succ_eq_append_getElem (by simpa using hlt)]
        simp
      refine ⟨k + 1, ⟨hlt, fun j hj hj' => ?_⟩, by omega, srcs [(12, .id 12)], ?_⟩
      · rcases Nat.lt_or_ge j k with h1 | h1
        · exact hall j hj h1
        · obtain rfl : j = k := by omega
          exact h
      · simp [SLeK]
        rw [e]
        refine ⟨DLe_int (wrap_succ (by omega)), ?_, fun v hv => mapN_step v hv⟩
        rw [dcountR_snoc]
  have hff := all_yes fun j hj => hall j hj (by omega)
  obtain rfl : k = m.funcs.length := by omega
  rw [show (fnames m).take m.funcs.length = fnames m by rw [List.take_of_length_le (by simp [fnames])]]
  refine loop_s (κ := Nat) (fun k => k ≤ m.globs.length ∧ ∀ j (h : j < m.globs.length), j < k → globOk m.globs[j] = true) (fun k => m.globs.length - k) (fun k => [(sl 36, .int k)]) (fun k => [(12, .map .string (dcountR (fnames m ++ (gnames m).take k)) (mapN (fnames m ++ (gnames m).take k)))]) 23 0 (srcs [(12, .id 12)]) (by simp) (by simp) ?_
  rintro k ⟨hk', hall'⟩
  simp
  refine ⟨fun hlt => ⟨hlt, ?_⟩, fun hge' => ?_⟩
  · rw [getD_some hlt]
    refine call_plain (ds := [.agg (globC m.globs[k])]) _ (by simp) (by simp) (fun _ => rfl) (fun _ => glob_pure m.globs[k]) ?_
    simp
    refine ⟨fun h => DLe_int ?_, fun h => ?_⟩
    · unfold checkE
      rw [if_neg (by omega), if_pos (by rw [all_no hlt h]; simp)]
    · have e : (gnames m).take (k + 1) = (gnames m).take k ++ [m.globs[k].name] := by
        unfold gnames
        rw [List.take_succ_eq_append_getElem (by simpa using hlt)]
        simp
      refine ⟨k + 1, ⟨hlt, fun j hj hj' => ?_⟩, by omega, srcs [(12, .id 12)], ?_⟩
      · rcases Nat.lt_or_ge j k with h1 | h1
        · exact hall' j hj h1
        · obtain rfl : j = k := by omega
          exact h
      · simp [SLeK]
        rw [e, ← List.append_assoc]
        refine ⟨DLe_int (wrap_succ (by omega)), ?_, fun v hv => mapN_step v hv⟩
        rw [dcountR_snoc]
  have hgg := all_yes fun j hj => hall' j hj (by omega)
  obtain rfl : k = m.globs.length := by omega
  rw [show (gnames m).take m.globs.length = gnames m by rw [List.take_of_length_le (by simp [gnames])]]
  rw [wrap_in (by omega)]
  have hc : ∀ x y z : Int, checkE m = if dcountR (fnames m ++ gnames m) < m.funcs.length + m.globs.length then 9 else refsE m := by
    intro _ _ _
    unfold checkE
    rw [if_neg (by omega), if_neg (by rw [hff, hgg]; simp)]
    rfl
  have hc := hc 0 0 0
  refine ⟨fun h => DLe_int ?_, fun h => ?_⟩
  · rw [hc, if_pos (by omega)]
  · refine call_plain (ds := [.agg (moduleC m)]) _ (by simp) (by simp) (fun _ => rfl) (fun _ => refsM_pure m) ?_
    simp
    rw [hc, if_neg (by omega)]
    exact DLe.refl _

end Go.Proofs.Ytghlfjpmpalpdaa
