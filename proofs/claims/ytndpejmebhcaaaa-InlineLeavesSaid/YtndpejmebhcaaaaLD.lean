/- Some texts of one kind, one behind the other. -/
import Derived.Test.YtndpejmebhcaaaaLC
import Derived.Test.YtndpejmebhcaaaaLB
/- Contracts by the evaluator: the program's layer 5, names that are there. -/
namespace Go.Proofs.Ytndpejmebhcaaaa
open Go.RowKit

/-- What the last function of a name has: how many values it is handed. -/
def lookP (fs : List Func) (s : ByteArray) : Option Int := (fs.reverse.find? fun f => decide (f.name = s)).map (·.params)
theorem lookP_nil (s : ByteArray) : lookP [] s = none := rfl
theorem lookP_snoc (fs : List Func) (f : Func) (s : ByteArray) : lookP (fs ++ [f]) s = if f.name = s then some f.params else lookP fs s := by
  unfold lookP
  rw [List.reverse_append]
  simp only [List.reverse_cons, List.reverse_nil, List.nil_append, List.singleton_append, List.find?_cons]
  split
  · rename_i h; simp at h; simp [h]
  · rename_i h; simp at h; simp [h]
/-- Is there a global of a name? -/
def hasG (gs : List Glob) (s : ByteArray) : Bool := gs.any fun g => decide (g.name = s)
theorem hasG_snoc (gs : List Glob) (g : Glob) (s : ByteArray) : hasG (gs ++ [g]) s = (hasG gs s || decide (g.name = s)) := by simp [hasG]

def mapP (fs : List Func) : Value → Option Value
  | .string s => (lookP fs s).map (Value.int .i64)
  | _ => none
def mapG (gs : List Glob) : Value → Option Value
  | .string s => if hasG gs s then some (.bool true) else none
  | _ => none
@[simp] theorem mapP_str (fs : List Func) (s : ByteArray) : mapP fs (.string s) = (lookP fs s).map (Value.int .i64) := rfl
@[simp] theorem mapG_str (gs : List Glob) (s : ByteArray) : mapG gs (.string s) = if hasG gs s then some (.bool true) else none := rfl
@[simp] theorem int_getD (o : Option Int) (d : Int) : (o.map (Value.int .i64)).getD (.int .i64 d) = .int .i64 (o.getD d) := by cases o <;> rfl
@[simp] theorem bool_getD (b : Bool) : (if b = true then some (Value.bool true) else none).getD (.bool false) = .bool b := by cases b <;> rfl

theorem keq_str (s t : ByteArray) : keq (.string s) (.string t) = decide (s = t) := by
  rw [Bool.eq_iff_iff]
  simp only [keq, decide_eq_true_eq]
  exact ba_beq s t
theorem mapP_step {fs : List Func} {k : Nat} (hk : k < fs.length) (v : Value) (hv : kdOk .string v = true) : mset (mapP (fs.take k)) (.string fs[k].name) (.int .i64 fs[k].params) v = mapP (fs.take (k + 1)) v := by
  cases v <;> simp [kdOk] at hv
  rename_i s
  rw [List.take_succ_eq_append_getElem hk]
  simp only [mset, keq_str, mapP_str, lookP_snoc]
  by_cases h : fs[k].name = s
  · simp [h]
  · simp [h, Ne.symm h]
theorem mapG_step {gs : List Glob} {k : Nat} (hk : k < gs.length) (v : Value) (hv : kdOk .string v = true) : mset (mapG (gs.take k)) (.string gs[k].name) (.bool true) v = mapG (gs.take (k + 1)) v := by
  cases v <;> simp [kdOk] at hv
  rename_i s
  rw [List.take_succ_eq_append_getElem hk]
  simp only [mset, keq_str, mapG_str, hasG_snoc]
  by_cases h : gs[k].name = s
  · simp [h]
  · simp [h, Ne.symm h]

/-- A module's instructions. -/
def insM (m : Module) : List Inst := m.funcs.flatMap allIns
/-- An instruction names what there isn't. -/
def missI (m : Module) (i : Inst) : Bool := (i.op == 14 && (lookP m.funcs i.name).isNone) || ((i.op == 12 || i.op == 13) && !hasG m.globs i.name)
/-- A call hands over too few, or too many. -/
def oddI (m : Module) (i : Inst) : Bool := i.op == 14 && (lookP m.funcs i.name).getD 0 != i.args.length
def refsE (m : Module) : Int := if (insM m).any (missI m) then 8 else if (insM m).any (oddI m) then 1 else 0

/-- How far the walk over the instructions is. -/
structure KO where
  k : Nat
  o : Bool
/-- The first k functions are seen. -/
def InvF (m : Module) (s : KO) : Prop := s.k ≤ m.funcs.length ∧ s.o = ((m.funcs.take s.k).flatMap allIns).any (oddI m) ∧ ((m.funcs.take s.k).flatMap allIns).any (missI m) = false
/-- The first j instructions of a function are seen. -/
def InvJ (m : Module) (f : Func) (odd : Bool) (j : Nat) (s : KO) : Prop := s.o = (odd || ((allIns f).take j).any (oddI m)) ∧ ((allIns f).take j).any (missI m) = false

theorem InvF.start (m : Module) : InvF m ⟨0, false⟩ := ⟨Nat.zero_le _, rfl, rfl⟩
theorem InvJ.start (m : Module) (f : Func) (odd : Bool) : InvJ m f odd 0 ⟨0, odd⟩ := ⟨by simp, rfl⟩
theorem InvF.next {m : Module} {k : Nat} {odd : Bool} {s : KO} (h : InvF m ⟨k, odd⟩) (hk : k < m.funcs.length) (hj : InvJ m m.funcs[k] odd (allIns m.funcs[k]).length s) : InvF m ⟨k + 1, s.o⟩ := by
  obtain ⟨_, h2, h3⟩ := h
  obtain ⟨g1, g2⟩ := hj
  rw [List.take_of_length_le (Nat.le_refl _)] at g1 g2
  have e : (m.funcs.take (k + 1)).flatMap allIns = (m.funcs.take k).flatMap allIns ++ allIns m.funcs[k] := by
    rw [List.take_succ_eq_append_getElem hk, List.flatMap_append]
    simp
  exact ⟨hk, by simp only at h2 ⊢; rw [e, List.any_append, g1, h2], by simp only at h3 ⊢; rw [e, List.any_append, g2, h3]; rfl⟩
theorem InvJ.next {m : Module} {f : Func} {odd : Bool} {j : Nat} {s : KO} (h : InvJ m f odd j s) (hj : j < (allIns f).length) (hm : missI m (allIns f)[j] = false) : InvJ m f odd (j + 1) ⟨0, s.o || oddI m (allIns f)[j]⟩ := by
  obtain ⟨h1, h2⟩ := h
  unfold InvJ
  rw [List.take_succ_eq_append_getElem hj, List.any_append, List.any_append, h2, h1]
  simp [hm, Bool.or_assoc]
theorem refsE_miss {m : Module} {k j : Nat} (hk : k < m.funcs.length) (hj : j < (allIns m.funcs[k]).length) (hm : missI m (allIns m.funcs[k])[j] = true) : refsE m = 8 := by
  unfold refsE
  rw [if_pos]
  exact List.any_eq_true.2 ⟨_, List.mem_flatMap.2 ⟨_, List.getElem_mem hk, List.getElem_mem hj⟩, hm⟩
theorem refsE_end {m : Module} {odd : Bool} (h : InvF m ⟨m.funcs.length, odd⟩) : refsE m = if odd = true then 1 else 0 := by
  obtain ⟨_, h2, h3⟩ := h
  simp only [List.take_of_length_le (Nat.le_refl _)] at h2 h3
  unfold refsE insM
  rw [h3, ← h2]
  simp

set_option maxRecDepth 10000 in
set_option maxHeartbeats 1000000 in
theorem refsM_pure (m : Module) : APure Try.prog 82 [.agg (moduleC m)] (.int (refsE m)) := by
  refine apureG _ _ Try.func82 (by kernel_rfl) t_ir_refs u_ir_refs rfl rfl (fun hx => ?_)
  have hlf := lenAgg hx 0 rfl
  have hlg := lenAgg hx 1 rfl
  clear hx
  simp [c_ir_refs, r_ir_refs]
  refine loop_s (κ := Nat × Nat) (fun k => k.1 ≤ m.funcs.length) (fun k => m.funcs.length - k.1) (fun k => [(sl 20, .int k.1)]) (fun k => [(1, .box [.int 0]), (2, .map .string k.2 (mapP (m.funcs.take k.1))), (3, .map .string 0 (mapG [])), (4, .box [.mp 2]), (5, .box [.mp 3])]) 12 (0, 0) (srcs [(1, .id 1), (2, .id 2), (3, .id 3), (4, .id 4), (5, .id 5)]) (by simp) ?_ ?_
  · simp
    exact ⟨fun v _ => by cases v <;> rfl, fun v _ => by cases v <;> rfl⟩
  rintro ⟨k, n⟩ hk
  simp at hk
  simp
  refine ⟨fun hlt => ⟨hlt, ?_⟩, fun hge => ?_⟩
  · rw [getD_some hlt]
    refine ⟨k + 1, hlt, by omega, (if (lookP (List.take k m.funcs) m.funcs[k].name).isSome = true then n else n + 1), srcs [(1, .id 1), (2, .id 2), (3, .id 3), (4, .id 4), (5, .id 5)], ?_⟩
    simp [SLeK]
    exact ⟨DLe_int (wrap_succ (by omega)), fun v hv => mapP_step hlt v hv⟩
  obtain rfl : k = m.funcs.length := by omega
  rw [List.take_of_length_le (Nat.le_refl _)]
  refine loop_s (κ := Nat × Nat) (fun k => k.1 ≤ m.globs.length) (fun k => m.globs.length - k.1) (fun k => [(sl 33, .int k.1)]) (fun k => [(1, .box [.int 0]), (2, .map .string n (mapP m.funcs)), (3, .map .string k.2 (mapG (m.globs.take k.1))), (4, .box [.mp 2]), (5, .box [.mp 3])]) 17 (0, 0) (srcs [(1, .id 1), (2, .id 2), (3, .id 3), (4, .id 4), (5, .id 5)]) (by simp) (by simp) ?_
  rintro ⟨k, n'⟩ hk
  simp at hk
  simp
  refine ⟨fun hlt => ⟨hlt, ?_⟩, fun hge => ?_⟩
  · rw [getD_some hlt]
    refine ⟨k + 1, hlt, by omega, (if hasG (List.take k m.globs) m.globs[k].name = true then n' else n' + 1), srcs [(1, .id 1), (2, .id 2), (3, .id 3), (4, .id 4), (5, .id 5)], ?_⟩
    simp [SLeK]
    exact ⟨DLe_int (wrap_succ (by omega)), fun v hv => mapG_step hlt v hv⟩
  obtain rfl : k = m.globs.length := by omega
  rw [List.take_of_length_le (Nat.le_refl _)]
  refine loop_s (κ := KO) (InvF m) (fun k => m.funcs.length - k.k) (fun k => [(sl 44, .int k.k)])
    (fun k => [(18, .box [.d (.lit (.bool k.o))]), (1, .box [.int 0]), (2, .map .string n (mapP m.funcs)), (3, .map .string n' (mapG m.globs)), (4, .box [.mp 2]), (5, .box [.mp 3])]) 24 ⟨0, false⟩ (srcs [(18, .id 18), (1, .id 1), (2, .id 2), (3, .id 3), (4, .id 4), (5, .id 5)]) (InvF.start m) (by simp) ?_
  rintro ⟨k, odd⟩ hinv
  simp
  refine ⟨fun hlt => ⟨hlt, ?_⟩, fun hge => ?_⟩
  · rw [getD_some hlt]
    refine call_plain (ds := [.agg (funcC m.funcs[k])]) _ (by simp) (by simp) (fun _ => rfl) (fun _ => insts_pure m.funcs[k]) ?_
    simp
    refine rng_s (insts1_seq m.funcs[k]) (κ := KO) (InvJ m m.funcs[k] odd) []
      (fun o => [(18, .box [.d (.lit (.bool o.o))]), (1, .box [.int 0]), (2, .map .string n (mapP m.funcs)), (3, .map .string n' (mapG m.globs)), (4, .box [.mp 2]), (5, .box [.mp 3])]) 31 [18, 1, 2, 3, 4, 5] ⟨0, odd⟩ (srcs [(18, .id 18), (1, .id 1), (2, .id 2), (3, .id 3), (4, .id 4), (5, .id 5)]) (by simp) (by simp) (by simp [T.pinned, AV.pinned]) (by simp) (InvJ.start _ _ _) (by simp) ?_ ?_
    · rintro j hj ⟨_, o⟩ hij
      have hj' : j < (allIns m.funcs[k]).length := by simpa using hj
      have hmiss := fun h => refsE_miss (m := m) hlt hj' h
      have hnext := fun h => hij.next (m := m) hj' h
      simp
      generalize (allIns m.funcs[k])[j] = i at *
      refine ⟨fun h => ⟨h, fun h' => ⟨h, h'⟩⟩, fun h => ⟨h, fun h' => ⟨h, h'⟩⟩, fun h => ?_, fun h => DLe_int ?_, fun h1 h2 => ?_⟩
      · by_cases h14 : i.op = 14
        · exact .inr (h h14)
        · exact .inl h14
      · rw [hmiss]
        unfold missI
        rcases h with ⟨h1, h2⟩ | ⟨h1, h2⟩
        · simp [h1, h2]
        · rcases h1 with h1 | h1 <;> simp [h1, h2]
      · refine ⟨fun h => ⟨h, fun h' => ⟨h, h'⟩⟩, _, hnext ?_, srcs [(18, .id 18), (1, .id 1), (2, .id 2), (3, .id 3), (4, .id 4), (5, .id 5)], ?_⟩
        · unfold missI
          rw [Bool.or_eq_false_iff]
          constructor
          · by_cases h14 : i.op = 14
            · have := h1 h14
              simp [h14, Option.isSome_iff_ne_none] at this ⊢
              exact this
            · simp [h14]
          · by_cases h12 : i.op = 12 ∨ i.op = 13
            · simp [h2 h12]
            · simp only [not_or] at h12
              simp [h12.1, h12.2]
        · simp [RngE]
          refine DLe_bool ?_
          congr 1
    · rintro s hs
      rw [List.length_map] at hs
      simp
      refine ⟨⟨k + 1, s.o⟩, hinv.next hlt hs, by simp; omega, srcs [(18, .id 18), (1, .id 1), (2, .id 2), (3, .id 3), (4, .id 4), (5, .id 5)], ?_⟩
      simp [SLeK]
      exact DLe_int (wrap_succ (by omega))
  · obtain rfl : k = m.funcs.length := by have := hinv.1; simp only at this; omega
    rw [refsE_end hinv]
    exact ⟨fun h => by subst h; exact DLe.refl _, fun h => by subst h; exact DLe.refl _⟩

end Go.Proofs.Ytndpejmebhcaaaa
/- Contracts by the evaluator: the program's layer 5, is a module right? -/
namespace Go.Proofs.Ytndpejmebhcaaaa
open Go.RowKit

def hasN (l : List ByteArray) (s : ByteArray) : Bool := l.any fun x => decide (x = s)
/-- How many names there are, each one counted once. -/
def dcount : List ByteArray → Nat
  | [] => 0
  | x :: l => dcount l + if hasN l x then 0 else 1
def dcountR (l : List ByteArray) : Nat := dcount l.reverse
theorem hasN_append (l l' : List ByteArray) (s : ByteArray) : hasN (l ++ l') s = (hasN l s || hasN l' s) := by simp [hasN]
theorem hasN_reverse (l : List ByteArray) (s : ByteArray) : hasN l.reverse s = hasN l s := by simp [hasN]
theorem dcountR_snoc (l : List ByteArray) (x : ByteArray) : dcountR (l ++ [x]) = if hasN l x = true then dcountR l else dcountR l + 1 := by
  unfold dcountR
  rw [List.reverse_append]
  simp only [List.reverse_cons, List.reverse_nil, List.nil_append, List.singleton_append, dcount, hasN_reverse]
  split <;> rfl
def mapN (l : List ByteArray) : Value → Option Value
  | .string s => if hasN l s then some (.bool true) else none
  | _ => none
@[simp] theorem mapN_str (l : List ByteArray) (s : ByteArray) : mapN l (.string s) = if hasN l s then some (.bool true) else none := rfl
theorem mapN_step {l : List ByteArray} {x : ByteArray} (v : Value) (hv : kdOk .string v = true) : mset (mapN l) (.string x) (.bool true) v = mapN (l ++ [x]) v := by
  cases v <;> simp [kdOk] at hv
  rename_i s
  simp only [mset, keq_str, mapN_str, hasN_append]
  by_cases h : x = s
  · simp [h, hasN]
  · have e : hasN [x] s = false := by simp [hasN, h]
    rw [e, Bool.or_false, if_neg (by simp [Ne.symm h])]

def fnames (m : Module) : List ByteArray := m.funcs.map (·.name)
def gnames (m : Module) : List ByteArray := m.globs.map (·.name)
def namesM (m : Module) : List ByteArray := fnames m ++ gnames m
/-- Is a module right? If it isn't, why. -/
def checkE (m : Module) : Int :=
  if 16 < m.funcs.length ∨ 16 < m.globs.length then 4
  else if (m.funcs.all funcOk && m.globs.all globOk) = false then 10
  else if dcountR (namesM m) < m.funcs.length + m.globs.length then 9
  else refsE m

set_option maxRecDepth 10000 in
set_option maxHeartbeats 1000000 in
theorem check_pure (m : Module) (hi : ∀ f ∈ m.funcs, ∀ b ∈ f.blocks, ∀ i ∈ b.ins, i.args.length ≤ 17592186044416) : APure Try.prog 52 [.agg (moduleC m)] (.int (checkE m)) := by
  refine apureG _ _ Try.func52 (by kernel_rfl) t_ir_Check u_ir_Check rfl rfl (fun _ => ?_)
  simp [c_ir_Check, r_ir_Check]
  refine ⟨fun h => DLe_int ?_, fun hf hg => ?_⟩
  · unfold checkE
    rw [if_pos (by omega)]
  refine loop_s (κ := Nat) (fun k => k ≤ m.funcs.length ∧ ∀ j (h : j < m.funcs.length), j < k → funcOk m.funcs[j] = true) (fun k => m.funcs.length - k) (fun k => [(sl 22, .int k)]) (fun k => [(12, .map .string (dcountR ((fnames m).take k)) (mapN ((fnames m).take k)))]) 18 0 (srcs [(12, .id 12)]) (by simp) ?_ ?_
  · simp
    exact ⟨rfl, fun v _ => by cases v <;> rfl⟩
  rintro k ⟨hk, hall⟩
  simp
  refine ⟨fun hlt => ⟨hlt, ?_⟩, fun hge => ?_⟩
  · rw [getD_some hlt]
    refine call_plain (ds := [.agg (funcC m.funcs[k])]) _ (by simp) (by simp) (fun _ => rfl) (fun _ => func_pure m.funcs[k] (hi _ (List.getElem_mem hlt))) ?_
    simp
    refine ⟨fun h => DLe_int ?_, fun h => ?_⟩
    · unfold checkE
      rw [if_neg (by omega), if_pos (by rw [all_no hlt h]; rfl)]
    · have e : (fnames m).take (k + 1) = (fnames m).take k ++ [m.funcs[k].name] := by
        unfold fnames
        rw [List.take_succ_eq_append_getElem (by simpa using hlt)]
        simp
      refine ⟨k + 1, ⟨hlt, fun j hj hj' => ?_⟩, by omega, srcs [(12, .id 12)], ?_⟩
      · rcases Nat.lt_or_ge j k with h1 | h1
        · exact hall j hj h1
        · obtain rfl : j = k := by omega
          exact h
      · simp [SLeK]
        rw [e]
        refine ⟨DLe_int (wrap_succ (by omega)), ?_, fun v hv => mapN_step v hv⟩
        rw [dcountR_snoc]
  have hff := all_yes fun j hj => hall j hj (by omega)
  obtain rfl : k = m.funcs.length := by omega
  rw [show (fnames m).take m.funcs.length = fnames m by rw [List.take_of_length_le (by simp [fnames])]]
  refine loop_s (κ := Nat) (fun k => k ≤ m.globs.length ∧ ∀ j (h : j < m.globs.length), j < k → globOk m.globs[j] = true) (fun k => m.globs.length - k) (fun k => [(sl 36, .int k)]) (fun k => [(12, .map .string (dcountR (fnames m ++ (gnames m).take k)) (mapN (fnames m ++ (gnames m).take k)))]) 23 0 (srcs [(12, .id 12)]) (by simp) (by simp) ?_
  rintro k ⟨hk', hall'⟩
  simp
  refine ⟨fun hlt => ⟨hlt, ?_⟩, fun hge' => ?_⟩
  · rw [getD_some hlt]
    refine call_plain (ds := [.agg (globC m.globs[k])]) _ (by simp) (by simp) (fun _ => rfl) (fun _ => glob_pure m.globs[k]) ?_
    simp
    refine ⟨fun h => DLe_int ?_, fun h => ?_⟩
    · unfold checkE
      rw [if_neg (by omega), if_pos (by rw [all_no hlt h]; simp)]
    · have e : (gnames m).take (k + 1) = (gnames m).take k ++ [m.globs[k].name] := by
        unfold gnames
        rw [List.take_succ_eq_append_getElem (by simpa using hlt)]
        simp
      refine ⟨k + 1, ⟨hlt, fun j hj hj' => ?_⟩, by omega, srcs [(12, .id 12)], ?_⟩
      · rcases Nat.lt_or_ge j k with h1 | h1
        · exact hall' j hj h1
        · obtain rfl : j = k := by omega
          exact h
      · simp [SLeK]
        rw [e, ← List.append_assoc]
        refine ⟨DLe_int (wrap_succ (by omega)), ?_, fun v hv => mapN_step v hv⟩
        rw [dcountR_snoc]
  have hgg := all_yes fun j hj => hall' j hj (by omega)
  obtain rfl : k = m.globs.length := by omega
  rw [show (gnames m).take m.globs.length = gnames m by rw [List.take_of_length_le (by simp [gnames])]]
  rw [wrap_in (by omega)]
  have hc : ∀ x y z : Int, checkE m = if dcountR (fnames m ++ gnames m) < m.funcs.length + m.globs.length then 9 else refsE m := by
    intro _ _ _
    unfold checkE
    rw [if_neg (by omega), if_neg (by rw [hff, hgg]; simp)]
    rfl
  have hc := hc 0 0 0
  refine ⟨fun h => DLe_int ?_, fun h => ?_⟩
  · rw [hc, if_pos (by omega)]
  · refine call_plain (ds := [.agg (moduleC m)]) _ (by simp) (by simp) (fun _ => rfl) (fun _ => refsM_pure m) ?_
    simp
    rw [hc, if_neg (by omega)]
    exact DLe.refl _

end Go.Proofs.Ytndpejmebhcaaaa
/- Plain laws of layer 5: what it means that a module is right. -/
namespace Go.Proofs.Ytndpejmebhcaaaa
open Go.RowKit

theorem hasN_iff (l : List ByteArray) (s : ByteArray) : hasN l s = true ↔ s ∈ l := by
  unfold hasN
  rw [List.any_eq_true]
  constructor
  · rintro ⟨x, hx, h⟩
    simp only [decide_eq_true_eq] at h
    exact h ▸ hx
  · intro h
    exact ⟨s, h, by simp⟩
theorem dcount_le : ∀ l : List ByteArray, dcount l ≤ l.length
  | [] => Nat.le_refl _
  | x :: l => by
    have := dcount_le l
    simp only [dcount, List.length_cons]
    split <;> omega
theorem dcount_iff : ∀ l : List ByteArray, dcount l = l.length ↔ l.Nodup
  | [] => by simp [dcount]
  | x :: l => by
    have h1 := dcount_le l
    have h2 := dcount_iff l
    simp only [dcount, List.length_cons, List.nodup_cons, ← hasN_iff]
    by_cases hx : hasN l x = true
    · rw [if_pos hx]
      constructor
      · intro h; omega
      · intro h; exact absurd hx h.1
    · rw [if_neg hx]
      constructor
      · intro h; exact ⟨hx, h2.1 (by omega)⟩
      · intro h; have := h2.2 h.2; omega
theorem nodup_rev (l : List ByteArray) : l.reverse.Nodup ↔ l.Nodup := by
  unfold List.Nodup
  rw [List.pairwise_reverse]
  exact List.Pairwise.iff fun {_ _} => ⟨fun h => Ne.symm h, fun h => Ne.symm h⟩
theorem dcountR_iff (l : List ByteArray) : dcountR l < l.length ↔ ¬ l.Nodup := by
  unfold dcountR
  have h1 := dcount_le l.reverse
  have h2 := dcount_iff l.reverse
  rw [List.length_reverse] at h1 h2
  rw [← nodup_rev, ← h2]
  omega

theorem lookP_none {fs : List Func} {s : ByteArray} : lookP fs s = none ↔ ∀ f ∈ fs, f.name ≠ s := by
  unfold lookP
  simp
theorem lookP_mem {fs : List Func} {s : ByteArray} {p : Int} (h : lookP fs s = some p) : ∃ f ∈ fs, f.name = s ∧ f.params = p := by
  unfold lookP at h
  simp only [Option.map_eq_some_iff] at h
  obtain ⟨f, h1, h2⟩ := h
  have h3 := List.find?_some h1
  have h4 := List.mem_of_find?_eq_some h1
  exact ⟨f, by simpa using h4, by simpa using h3, h2⟩
theorem lookP_some {fs : List Func} {s : ByteArray} {f : Func} (hf : f ∈ fs) (hs : f.name = s) : ∃ p, lookP fs s = some p := by
  cases h : lookP fs s with
  | some p => exact ⟨p, rfl⟩
  | none => exact absurd hs (lookP_none.1 h f hf)
theorem hasG_iff {gs : List Glob} {s : ByteArray} : hasG gs s = true ↔ ∃ g ∈ gs, g.name = s := by simp [hasG]

/-- In a right module .. -/
structure ModOk (m : Module) : Prop where
  nf : m.funcs.length ≤ 16
  ng : m.globs.length ≤ 16
  funcs : ∀ f ∈ m.funcs, funcOk f = true
  globs : ∀ g ∈ m.globs, globOk g = true
  names : (namesM m).Nodup
  miss : ∀ i ∈ insM m, missI m i = false
  odd : ∀ i ∈ insM m, oddI m i = false

theorem refsE_zero {m : Module} : refsE m = 0 ↔ (∀ i ∈ insM m, missI m i = false) ∧ ∀ i ∈ insM m, oddI m i = false := by
  unfold refsE
  by_cases h1 : (insM m).any (missI m) = true
  · rw [if_pos h1]
    constructor
    · intro h; omega
    · rintro ⟨h, _⟩
      obtain ⟨i, hi, hm⟩ := List.any_eq_true.1 h1
      rw [h i hi] at hm; cases hm
  · rw [if_neg h1]
    have h1' : ∀ i ∈ insM m, missI m i = false := fun i hi => by
      cases hm : missI m i with
      | false => rfl
      | true => exact absurd (List.any_eq_true.2 ⟨i, hi, hm⟩) h1
    by_cases h2 : (insM m).any (oddI m) = true
    · rw [if_pos h2]
      constructor
      · intro h; omega
      · rintro ⟨_, h⟩
        obtain ⟨i, hi, hm⟩ := List.any_eq_true.1 h2
        rw [h i hi] at hm; cases hm
    · rw [if_neg h2]
      exact ⟨fun _ => ⟨h1', fun i hi => by
        cases hm : oddI m i with
        | false => rfl
        | true => exact absurd (List.any_eq_true.2 ⟨i, hi, hm⟩) h2⟩, fun _ => rfl⟩
theorem namesM_length (m : Module) : (namesM m).length = m.funcs.length + m.globs.length := by simp [namesM, fnames, gnames]
theorem checkE_zero {m : Module} : checkE m = 0 ↔ ModOk m := by
  unfold checkE
  by_cases h1 : 16 < m.funcs.length ∨ 16 < m.globs.length
  · rw [if_pos h1]
    exact ⟨fun h => by omega, fun h => by have := h.nf; have := h.ng; omega⟩
  rw [if_neg h1]
  by_cases h2 : (m.funcs.all funcOk && m.globs.all globOk) = false
  · rw [if_pos h2]
    refine ⟨fun h => by omega, fun h => ?_⟩
    rw [List.all_eq_true.2 h.funcs, List.all_eq_true.2 h.globs] at h2
    cases h2
  rw [if_neg h2]
  have h2' : m.funcs.all funcOk = true ∧ m.globs.all globOk = true := by simpa using h2
  by_cases h3 : dcountR (namesM m) < m.funcs.length + m.globs.length
  · rw [if_pos h3]
    refine ⟨fun h => by omega, fun h => ?_⟩
    rw [← namesM_length] at h3
    exact absurd h.names ((dcountR_iff _).1 h3)
  rw [if_neg h3, refsE_zero]
  have h3' : (namesM m).Nodup := by
    rw [← namesM_length] at h3
    exact Classical.not_not.1 fun hn => h3 ((dcountR_iff _).2 hn)
  exact ⟨fun h => ⟨by omega, by omega, List.all_eq_true.1 h2'.1, List.all_eq_true.1 h2'.2, h3', h.1, h.2⟩, fun h => ⟨h.miss, h.odd⟩⟩

theorem ModOk.fnodup {m : Module} (h : ModOk m) : (fnames m).Nodup := (List.nodup_append.1 h.names).1
theorem ModOk.gnodup {m : Module} (h : ModOk m) : (gnames m).Nodup := (List.nodup_append.1 h.names).2.1
theorem ModOk.apart {m : Module} (h : ModOk m) {f : Func} {g : Glob} (hf : f ∈ m.funcs) (hg : g ∈ m.globs) : f.name ≠ g.name :=
  (List.nodup_append.1 h.names).2.2 _ (List.mem_map.2 ⟨f, hf, rfl⟩) _ (List.mem_map.2 ⟨g, hg, rfl⟩)
theorem missI_false {m : Module} {i : Inst} (h : missI m i = false) : (i.op = 14 → ∃ p, lookP m.funcs i.name = some p) ∧ (i.op = 12 ∨ i.op = 13 → hasG m.globs i.name = true) := by
  unfold missI at h
  rw [Bool.or_eq_false_iff] at h
  obtain ⟨h1, h2⟩ := h
  constructor
  · intro h14
    cases hl : lookP m.funcs i.name with
    | some p => exact ⟨p, rfl⟩
    | none => rw [hl, h14] at h1; simp at h1
  · intro h'
    cases hg : hasG m.globs i.name with
    | true => rfl
    | false =>
      rw [hg] at h2
      rcases h' with h' | h' <;> rw [h'] at h2 <;> simp at h2
theorem missI_mk {m : Module} {i : Inst} (h1 : i.op = 14 → ∃ p, lookP m.funcs i.name = some p) (h2 : i.op = 12 ∨ i.op = 13 → hasG m.globs i.name = true) : missI m i = false := by
  unfold missI
  rw [Bool.or_eq_false_iff]
  constructor
  · by_cases h14 : i.op = 14
    · obtain ⟨p, hp⟩ := h1 h14
      simp [hp]
    · simp [h14]
  · by_cases h12 : i.op = 12 ∨ i.op = 13
    · simp [h2 h12]
    · simp only [not_or] at h12
      simp [h12.1, h12.2]
theorem mem_insM {m : Module} {f : Func} {i : Inst} (hf : f ∈ m.funcs) (hi : i ∈ allIns f) : i ∈ insM m := List.mem_flatMap.2 ⟨f, hf, hi⟩
theorem mem_namesOf {l : List Inst} {s : ByteArray} (h : s ∈ namesOf l) : ∃ i ∈ l, isNamed i.op = true ∧ i.name = s := by
  unfold namesOf at h
  obtain ⟨i, h1, h2⟩ := List.mem_map.1 h
  obtain ⟨h3, h4⟩ := List.mem_filter.1 h1
  exact ⟨i, h3, by simpa using h4, h2⟩
theorem isNamed_iff {op : Int} : isNamed op = true ↔ op = 12 ∨ op = 13 ∨ op = 14 := by
  unfold isNamed
  simp
  omega

/-- A name that an instruction of a right module has is there. -/
theorem ModOk.there {m : Module} (h : ModOk m) {f : Func} (hf : f ∈ m.funcs) {s : ByteArray} (hs : s ∈ namesOf (allIns f)) : (∃ g ∈ m.funcs, g.name = s) ∨ ∃ g ∈ m.globs, g.name = s := by
  obtain ⟨i, hi, hn, rfl⟩ := mem_namesOf hs
  obtain ⟨h1, h2⟩ := missI_false (h.miss i (mem_insM hf hi))
  rcases isNamed_iff.1 hn with h' | h' | h'
  · exact .inr (hasG_iff.1 (h2 (.inl h')))
  · exact .inr (hasG_iff.1 (h2 (.inr h')))
  · obtain ⟨p, hp⟩ := h1 h'
    obtain ⟨g, hg, hgn, _⟩ := lookP_mem hp
    exact .inl ⟨g, hg, hgn⟩

theorem findI_neg {α : Type} {p : α → Bool} {xs : List α} : findI p xs < 0 ↔ ∀ x ∈ xs, p x = false := by
  have h := findI_ge p xs
  constructor
  · intro hn x hx
    cases hp : p x with
    | false => rfl
    | true =>
      have : xs.any p = true := List.any_eq_true.2 ⟨x, hx, hp⟩
      rw [this] at h
      simp at h
      omega
  · intro hall
    have : xs.any p = false := by
      rw [List.any_eq_false]
      intro x hx
      rw [hall x hx]; simp
    rw [this] at h
    simp at h
    omega
theorem findI_nodup {xs : List Func} (h : (xs.map (·.name)).Nodup) {k : Nat} (hk : k < xs.length) : findI (fun f => decide (f.name = xs[k].name)) xs = k := by
  refine findI_hit hk (fun i hi hik => ?_) (by simp)
  simp only [decide_eq_false_iff_not]
  intro e
  have := List.pairwise_iff_getElem.1 h i k (by simpa using hi) (by simpa using hk) hik
  simp only [List.getElem_map] at this
  exact this e

end Go.Proofs.Ytndpejmebhcaaaa
/- Plain laws of layer 5: a right module with one function more, or less. -/
namespace Go.Proofs.Ytndpejmebhcaaaa
open Go.RowKit

theorem name_uniq {fs : List Func} (hn : (fs.map (·.name)).Nodup) {f g : Func} (hf : f ∈ fs) (hg : g ∈ fs) (h : f.name = g.name) : f = g := by
  obtain ⟨i, hi, rfl⟩ := List.getElem_of_mem hf
  obtain ⟨j, hj, rfl⟩ := List.getElem_of_mem hg
  have h1 := findI_nodup hn hi
  have h2 := findI_nodup hn hj
  rw [h] at h1
  have : i = j := by omega
  subst this
  rfl
theorem lookP_uniq {fs : List Func} (hn : (fs.map (·.name)).Nodup) {f : Func} (hf : f ∈ fs) : lookP fs f.name = some f.params := by
  obtain ⟨p, hp⟩ := lookP_some hf rfl
  obtain ⟨g, hg, h1, h2⟩ := lookP_mem hp
  rw [hp, ← h2, name_uniq hn hg hf h1]

theorem ModOk.call {m : Module} (h : ModOk m) {i : Inst} (hi : i ∈ insM m) (h14 : i.op = 14) : ∃ g ∈ m.funcs, g.name = i.name ∧ g.params = i.args.length := by
  obtain ⟨p, hp⟩ := (missI_false (h.miss i hi)).1 h14
  have ho := h.odd i hi
  obtain ⟨g, hg, h1, h2⟩ := lookP_mem hp
  refine ⟨g, hg, h1, ?_⟩
  unfold oddI at ho
  rw [hp, h14] at ho
  simp at ho
  omega

/-- What is asked of each instruction, function by function. -/
theorem ModOk.mk' {m : Module} (nf : m.funcs.length ≤ 16) (ng : m.globs.length ≤ 16) (funcs : ∀ f ∈ m.funcs, funcOk f = true) (globs : ∀ g ∈ m.globs, globOk g = true) (names : (namesM m).Nodup)
    (hc : ∀ f ∈ m.funcs, ∀ i ∈ allIns f, i.op = 14 → ∃ g ∈ m.funcs, g.name = i.name ∧ g.params = i.args.length) (hg : ∀ f ∈ m.funcs, ∀ i ∈ allIns f, i.op = 12 ∨ i.op = 13 → ∃ g ∈ m.globs, g.name = i.name) : ModOk m := by
  have hn : (m.funcs.map (·.name)).Nodup := (List.nodup_append.1 names).1
  have hcall : ∀ i ∈ insM m, i.op = 14 → lookP m.funcs i.name = some (i.args.length : Int) := by
    intro i hi h14
    obtain ⟨f, hf, hi⟩ := List.mem_flatMap.1 hi
    obtain ⟨g, hg1, hg2, hg3⟩ := hc f hf i hi h14
    rw [← hg2, lookP_uniq hn hg1, hg3]
  refine ⟨nf, ng, funcs, globs, names, fun i hi => missI_mk (fun h => ⟨_, hcall i hi h⟩) (fun h => ?_), fun i hi => ?_⟩
  · obtain ⟨f, hf, hi⟩ := List.mem_flatMap.1 hi
    exact hasG_iff.2 (hg f hf i hi h)
  · unfold oddI
    by_cases h14 : i.op = 14
    · rw [hcall i hi h14]
      simp
    · simp [h14]

/-- A function that names nothing. -/
def newF (s : ByteArray) : Func := ⟨s, 1, 0, [⟨0, [⟨15, 0, 0, 0, ⟨#[]⟩, []⟩], 3, 0, 0, [], 0, []⟩]⟩
theorem newF_ok {s : ByteArray} (h1 : 1 ≤ s.size) (h16 : s.size ≤ 16) : funcOk (newF s) = true := by
  have hn : nameOk s = true := by simp [nameOk, h1, h16]
  have hl : 0 < (newF s).blocks.length := by simp [newF]
  rw [funcOk_cons (f := newF s) hn (by simp [newF]) (by simp [newF]) (by simp [newF]) (by simp [newF]) (by simp [newF]) hl]
  have hb : blockOk (newF s) ⟨0, [⟨15, 0, 0, 0, ⟨#[]⟩, []⟩], 3, 0, 0, [], 0, []⟩ = true := by
    have hi : instOk ⟨15, 0, 0, 0, ⟨#[]⟩, []⟩ 0 = true := by decide
    simp [blockOk, insFrom, hi, endB]
  simp only [newF, List.all_cons, List.all_nil, Bool.and_true, Bool.and_eq_true, List.getElem_cons_zero]
  exact ⟨by simp, hb⟩

theorem more_ok {m : Module} (h : ModOk m) (hl : m.funcs.length ≤ 15) {s : ByteArray} (h1 : 1 ≤ s.size) (h16 : s.size ≤ 16) (hf : ∀ f ∈ m.funcs, f.name ≠ s) (hg : ∀ g ∈ m.globs, g.name ≠ s) : ModOk ⟨m.funcs ++ [newF s], m.globs⟩ := by
  have hnew : ∀ i ∈ allIns (newF s), i.op = 15 := by
    intro i hi
    simp [allIns, newF] at hi
    rw [hi]
  refine .mk' (by simp; omega) h.ng (fun f hfm => ?_) h.globs ?_ (fun f hfm i hi h14 => ?_) (fun f hfm i hi h12 => ?_)
  · rcases List.mem_append.1 hfm with h' | h'
    · exact h.funcs f h'
    · rw [List.mem_singleton.1 h']; exact newF_ok h1 h16
  · have e : namesM ⟨m.funcs ++ [newF s], m.globs⟩ = (fnames m ++ [s]) ++ gnames m := by simp [namesM, fnames, gnames, newF]
    rw [e]
    refine List.nodup_append.2 ⟨List.nodup_append.2 ⟨h.fnodup, by simp, fun a ha b hb => ?_⟩, h.gnodup, fun a ha b hb => ?_⟩
    · obtain ⟨f, hfm, rfl⟩ := List.mem_map.1 ha
      rw [List.mem_singleton.1 hb]
      exact hf f hfm
    · obtain ⟨g, hgm, rfl⟩ := List.mem_map.1 hb
      rcases List.mem_append.1 ha with h' | h'
      · obtain ⟨f, hfm, rfl⟩ := List.mem_map.1 h'
        exact h.apart hfm hgm
      · rw [List.mem_singleton.1 h']
        exact Ne.symm (hg g hgm)
  · rcases List.mem_append.1 hfm with h' | h'
    · obtain ⟨g, hg1, hg2⟩ := h.call (mem_insM h' hi) h14
      exact ⟨g, List.mem_append_left _ hg1, hg2⟩
    · rw [List.mem_singleton.1 h'] at hi
      have := hnew i hi
      omega
  · rcases List.mem_append.1 hfm with h' | h'
    · exact hasG_iff.1 ((missI_false (h.miss i (mem_insM h' hi))).2 h12)
    · rw [List.mem_singleton.1 h'] at hi
      have := hnew i hi
      omega

theorem less_ok {m : Module} (h : ModOk m) {n : Nat} (hn : n < m.funcs.length) (hr : ∀ j (hj : j < m.funcs.length), j ≠ n → ∀ s ∈ namesOf (allIns m.funcs[j]), s ≠ m.funcs[n].name) : ModOk ⟨m.funcs.eraseIdx n, m.globs⟩ := by
  have hsub : (m.funcs.eraseIdx n).Sublist m.funcs := List.eraseIdx_sublist _ _
  have hmem : ∀ f ∈ m.funcs.eraseIdx n, f ∈ m.funcs := fun f hf => hsub.subset hf
  have hne : ∀ f ∈ m.funcs.eraseIdx n, ∀ s ∈ namesOf (allIns f), s ≠ m.funcs[n].name := by
    intro f hf
    obtain ⟨j, hjn, hj⟩ := List.mem_eraseIdx_iff_getElem?.1 hf
    obtain ⟨hj1, rfl⟩ := List.getElem?_eq_some_iff.1 hj
    exact hr j hj1 hjn
  have hin : ∀ g ∈ m.funcs, g.name ≠ m.funcs[n].name → g ∈ m.funcs.eraseIdx n := by
    intro g hg hgn
    obtain ⟨j, hj, rfl⟩ := List.getElem_of_mem hg
    refine List.mem_eraseIdx_iff_getElem?.2 ⟨j, fun e => ?_, List.getElem?_eq_getElem hj⟩
    subst e
    exact hgn rfl
  refine .mk' (Nat.le_trans hsub.length_le h.nf) h.ng (fun f hf => h.funcs f (hmem f hf)) h.globs ?_ (fun f hf i hi h14 => ?_) (fun f hf i hi h12 => ?_)
  · have : (namesM ⟨m.funcs.eraseIdx n, m.globs⟩).Sublist (namesM m) := List.Sublist.append (hsub.map _) (List.Sublist.refl _)
    exact h.names.sublist this
  · obtain ⟨g, hg1, hg2, hg3⟩ := h.call (mem_insM (hmem f hf) hi) h14
    refine ⟨g, hin g hg1 ?_, hg2, hg3⟩
    rw [hg2]
    refine hne f hf _ (List.mem_map.2 ⟨i, List.mem_filter.2 ⟨hi, ?_⟩, rfl⟩)
    simp [isNamed_iff.2 (.inr (.inr h14))]
  · exact hasG_iff.1 ((missI_false (h.miss i (mem_insM (hmem f hf) hi))).2 h12)

end Go.Proofs.Ytndpejmebhcaaaa
/- Plain laws of layer 5: what it means that a function is right. -/
namespace Go.Proofs.Ytndpejmebhcaaaa
open Go.RowKit

theorem funcOk_all {f : Func} (h : funcOk f = true) : f.blocks.all (blockOk f) = true := by
  unfold funcOk at h
  cases hb : f.blocks with
  | nil => rfl
  | cons b r =>
    rw [hb] at h
    simp only [Bool.and_eq_true] at h
    exact h.2.2
theorem funcOk_len {f : Func} (h : funcOk f = true) : f.blocks.length ≤ 16 := by
  unfold funcOk at h
  simp only [Bool.and_eq_true, decide_eq_true_eq] at h
  exact h.1.2
theorem funcOk_first {f : Func} (h : funcOk f = true) (hl : 0 < f.blocks.length) : f.blocks[0].params = f.params := by
  unfold funcOk at h
  obtain ⟨name, bind, params, blocks⟩ := f
  cases blocks with
  | nil => simp at hl
  | cons b r =>
    simp only [Bool.and_eq_true, beq_iff_eq] at h
    exact h.2.1
theorem funcOk_block {f : Func} (h : funcOk f = true) {k : Nat} (hk : k < f.blocks.length) : blockOk f f.blocks[k] = true := List.all_eq_true.1 (funcOk_all h) _ (List.getElem_mem hk)
theorem blockOk_parts {f : Func} {b : Block} (h : blockOk f b = true) : 0 ≤ b.params ∧ b.params ≤ 6 ∧ b.ins.length ≤ 32 ∧ (∀ k (hk : k < b.ins.length), instOk b.ins[k] (b.params + k) = true) ∧ endB f b = true := by
  unfold blockOk at h
  simp only [Bool.and_eq_true, decide_eq_true_eq] at h
  obtain ⟨⟨⟨⟨h1, h2⟩, h3⟩, h4⟩, h5⟩ := h
  exact ⟨h1, h2, h3, (insFrom_iff _ _).1 h4, h5⟩
theorem instOk_below {i : Inst} {n : Int} (h : instOk i n = true) : belowB (uses i) n = true := by
  unfold instOk at h
  simp only [Bool.and_eq_true] at h
  exact h.1.1.1.1.1.1.2
theorem instOk_args {i : Inst} {n : Int} (h : instOk i n = true) : i.args.length ≤ 6 := by
  unfold instOk at h
  simp only [Bool.and_eq_true, decide_eq_true_eq] at h
  exact h.1.2
theorem belowB_at {l : List Int} {n : Int} (h : belowB l n = true) {k : Nat} (hk : k < l.length) : 0 ≤ l[k] ∧ l[k] < n := by
  have := List.all_eq_true.1 h _ (List.getElem_mem hk)
  simpa using this
theorem goesB_parts {f : Func} {to : Int} {l : List Int} {n : Int} (h : goesB f to l n = true) : 0 ≤ to ∧ to < f.blocks.length ∧ (l.length : Int) = (f.blocks[to.toNat]?.getD default).params := by
  by_cases hn : (to < 0 ∨ (f.blocks.length : Int) ≤ to) ∨ ¬ (l.length : Int) = (f.blocks[to.toNat]?.getD default).params
  · rw [goesB_out hn] at h; cases h
  · exact ⟨by omega, by omega, by omega⟩
theorem endB_parts {f : Func} {b : Block} (h : endB f b = true) : (b.kind = 1 ∧ goesB f b.to b.args (b.params + b.ins.length) = true) ∨ (b.kind = 2 ∧ 0 ≤ b.ta ∧ b.ta < b.params + b.ins.length ∧ goesB f b.to b.args (b.params + b.ins.length) = true ∧ goesB f b.els b.elses (b.params + b.ins.length) = true) ∨
    (b.kind = 3 ∧ 0 ≤ b.ta ∧ b.ta < b.params + b.ins.length) := by
  by_cases h1 : b.kind = 1
  · rw [endB_jump h1] at h
    simp only [Bool.and_eq_true] at h
    exact .inl ⟨h1, h.1.1.1⟩
  by_cases h2 : b.kind = 2
  · rw [endB_if h2] at h
    simp only [Bool.and_eq_true, decide_eq_true_eq] at h
    exact .inr (.inl ⟨h2, h.1.1.1, h.1.1.2, h.1.2, h.2⟩)
  · rw [endB_other h1 h2] at h
    simp only [Bool.and_eq_true, decide_eq_true_eq, beq_iff_eq] at h
    exact .inr (.inr ⟨h.1.1.1.1.1, h.1.1.1.1.2⟩)
theorem uses_len {i : Inst} {n : Int} (h : instOk i n = true) : (uses i).length ≤ 6 := by
  have := instOk_args h
  unfold uses
  split
  · simp
  · split
    · simp
    · split
      · exact this
      · simp

theorem allIns_le {f : Func} (h : funcOk f = true) : (allIns f).length ≤ 512 := by
  have hb := funcOk_len h
  have key : ∀ l : List Block, (∀ b ∈ l, b.ins.length ≤ 32) → (l.flatMap (·.ins)).length ≤ l.length * 32 := by
    intro l
    induction l with
    | nil => intro _; simp
    | cons b l ih =>
      intro hl
      have h1 := hl b (by simp)
      have h2 := ih fun c hc => hl c (by simp [hc])
      simp only [List.flatMap_cons, List.length_append, List.length_cons]
      omega
  have := key f.blocks fun b hb => by
    obtain ⟨k, hk, rfl⟩ := List.getElem_of_mem hb
    exact (blockOk_parts (funcOk_block h hk)).2.2.1
  unfold allIns
  omega

end Go.Proofs.Ytndpejmebhcaaaa
/- Contracts by the evaluator: the document's layer 5, names. -/
namespace Go.Proofs.Ytndpejmebhcaaaa
open Go.RowKit

set_option maxRecDepth 10000 in
theorem findFunc_pure (m : Module) (s : ByteArray) : APure Try.prog 44 [.agg (moduleC m), .str s] (.int (findI (fun f => decide (f.name = s)) m.funcs)) := by
  refine apureG _ _ Try.func44 (by kernel_rfl) t_marlineref05_FindFunc u_marlineref05_FindFunc rfl rfl (fun hx => ?_)
  have hl := lenAgg hx 0 rfl
  clear hx
  simp [c_marlineref05_FindFunc, r_marlineref05_FindFunc]
  refine loop_s (κ := Nat) (fun k => k ≤ m.funcs.length ∧ ∀ i (h : i < m.funcs.length), i < k → decide (m.funcs[i].name = s) = false) (fun k => m.funcs.length - k) (fun k => [(sl 5, .int k)]) (fun _ => []) 0 0 (srcs []) (by simp) (by simp) ?_
  rintro k ⟨hk, hb⟩
  simp
  refine ⟨fun hlt => ⟨hlt, ?_⟩, fun hge => DLe_int (findI_miss fun i hi => hb i hi (by omega)).symm⟩
  rw [getD_some hlt]
  refine ⟨fun h => DLe_int (findI_hit hlt hb (by simp [h])).symm, fun h => ⟨k + 1, ⟨hlt, fun i hi h1 => ?_⟩, by omega, srcs [], ?_⟩⟩
  · rcases Nat.lt_or_ge i k with h2 | h2
    · simpa using hb i hi h2
    · obtain rfl : i = k := by omega
      exact h
  · simp [SLeK]
    exact DLe_int (wrap_succ (by omega))

set_option maxRecDepth 10000 in
theorem findGlob_pure (m : Module) (s : ByteArray) : APure Try.prog 45 [.agg (moduleC m), .str s] (.int (findI (fun f => decide (f.name = s)) m.globs)) := by
  refine apureG _ _ Try.func45 (by kernel_rfl) t_marlineref05_FindGlob u_marlineref05_FindGlob rfl rfl (fun hx => ?_)
  have hl := lenAgg hx 1 rfl
  clear hx
  simp [c_marlineref05_FindGlob, r_marlineref05_FindGlob]
  refine loop_s (κ := Nat) (fun k => k ≤ m.globs.length ∧ ∀ i (h : i < m.globs.length), i < k → decide (m.globs[i].name = s) = false) (fun k => m.globs.length - k) (fun k => [(sl 5, .int k)]) (fun _ => []) 0 0 (srcs []) (by simp) (by simp) ?_
  rintro k ⟨hk, hb⟩
  simp
  refine ⟨fun hlt => ⟨hlt, ?_⟩, fun hge => DLe_int (findI_miss fun i hi => hb i hi (by omega)).symm⟩
  rw [getD_some hlt]
  refine ⟨fun h => DLe_int (findI_hit hlt hb (by simp [h])).symm, fun h => ⟨k + 1, ⟨hlt, fun i hi h1 => ?_⟩, by omega, srcs [], ?_⟩⟩
  · rcases Nat.lt_or_ge i k with h2 | h2
    · simpa using hb i hi h2
    · obtain rfl : i = k := by omega
      exact h
  · simp [SLeK]
    exact DLe_int (wrap_succ (by omega))

theorem take_eq_succS {xs ys : List ByteArray} {k : Nat} (h1 : k < xs.length) (h2 : k < ys.length) (h : xs.take k = ys.take k) (he : xs[k] = ys[k]) : xs.take (k + 1) = ys.take (k + 1) := by
  rw [List.take_succ_eq_append_getElem h1, List.take_succ_eq_append_getElem h2, h, he]

theorem namesOf_append (l l' : List Inst) : namesOf (l ++ l') = namesOf l ++ namesOf l' := by simp [namesOf]

set_option maxRecDepth 10000 in
theorem refRefs_pure (f : Func) (hl : (allIns f).length ≤ 8796093022208) : APure Try.prog 54 [.agg (funcC f)] (strsD (namesOf (allIns f))) := by
  refine apureG _ _ Try.func54 (by kernel_rfl) t_marlineref05_Refs u_marlineref05_Refs rfl rfl (fun hx => ?_)
  have hbl := lenAgg hx 3 rfl
  clear hx
  simp [c_marlineref05_Refs, r_marlineref05_Refs]
  refine loop_s (κ := Nat) (fun k => k ≤ f.blocks.length) (fun k => f.blocks.length - k) (fun k => [(sl 4, .int k), (sl 3, .own 0 (namesOf ((f.blocks.take k).flatMap (·.ins))).length)])
    (fun k => [(0, .row 9 1 (namesOf ((f.blocks.take k).flatMap (·.ins))).length fun i => strC ((namesOf ((f.blocks.take k).flatMap (·.ins)))[i]?.getD ⟨#[]⟩))]) 1 0 (srcs [(0, .nil)]) (by simp) (by simp [namesOf]) ?_
  rintro k hk
  simp
  refine ⟨fun hlt => ?_, fun hge => by rw [List.take_of_length_le hge]; exact DLe.refl _⟩
  obtain ⟨b, hb⟩ : ∃ b, b = f.blocks[k] := ⟨_, rfl⟩
  have hbk : f.blocks[k]?.getD default = b := by rw [getD_some hlt, hb]
  have hcnt := cnt_succ hlt
  rw [← hb] at hcnt
  have hcl : cnt f (k + 1) ≤ (allIns f).length := by
    have e : allIns f = (f.blocks.take (k + 1)).flatMap (·.ins) ++ (f.blocks.drop (k + 1)).flatMap (·.ins) := by
      rw [← List.flatMap_append, List.take_append_drop]
      rfl
    rw [e, List.length_append]
    unfold cnt
    omega
  obtain ⟨l, hl0⟩ : ∃ l, l = namesOf ((f.blocks.take k).flatMap (·.ins)) := ⟨_, rfl⟩
  have hll : l.length ≤ cnt f k := by rw [hl0]; exact namesOf_length _
  rw [← hl0]
  refine loop_s (κ := Nat) (fun m => m ≤ b.ins.length) (fun m => b.ins.length - m) (fun m => [(sl 5, .int m), (sl 3, .own 0 (l ++ namesOf (b.ins.take m)).length)])
    (fun m => [(0, .row 9 1 (l ++ namesOf (b.ins.take m)).length fun i => strC ((l ++ namesOf (b.ins.take m))[i]?.getD ⟨#[]⟩))]) 1 0 (srcs [(0, .id 0)]) (by simp) (by simp [namesOf]) ?_
  rintro m hm
  simp [hlt, ← hb]
  refine ⟨fun hml => ⟨hml, ?_⟩, fun hge => ?_⟩
  · refine call_plain (ds := [.agg (instC b.ins[m])]) _ (by simp) (by simp) (fun _ => by simp [hml]; rfl) (fun _ => refNamed_pure b.ins[m]) ?_
    simp [hlt, ← hb, hml]
    have hlm : (namesOf (b.ins.take m)).length ≤ m := Nat.le_trans (namesOf_length _) (by simp; omega)
    refine ⟨fun h => ?_, fun h => ?_⟩
    · refine ⟨by omega, m + 1, by omega, by omega, srcs [(0, .id 34)], ?_⟩
      simp [SLeK, namesOf_yes hml h]
      refine ⟨⟨DLe_int (wrap_succ (by omega)), by omega⟩, by omega, fun i hi => ?_⟩
      have h1 := appRow_str (l := l ++ namesOf (b.ins.take m)) (x := b.ins[m].name) (i := i) (by rw [List.length_append]; exact hi)
      rw [List.length_append, List.append_assoc] at h1
      exact h1
    · refine ⟨m + 1, by omega, by omega, srcs [(0, .id 0)], ?_⟩
      simp [SLeK, namesOf_no hml h]
      exact DLe_int (wrap_succ (by omega))
  · refine ⟨k + 1, by omega, by omega, srcs [(0, .id 0)], ?_⟩
    have e : namesOf ((f.blocks.take (k + 1)).flatMap (·.ins)) = l ++ namesOf b.ins := by
      rw [List.take_succ_eq_append_getElem hlt, List.flatMap_append, namesOf_append, ← hl0, ← hb]
      simp
    rw [List.take_of_length_le hge]
    simp [SLeK, e]
    exact DLe_int (wrap_succ (by omega))

end Go.Proofs.Ytndpejmebhcaaaa
/- Contracts by the evaluator: the document's layer 5, is a module right? -/
namespace Go.Proofs.Ytndpejmebhcaaaa
open Go.RowKit

def fnT (m : Module) (k : Nat) : List ByteArray := (fnames m).take k
def gnT (m : Module) (k : Nat) : List ByteArray := fnames m ++ (gnames m).take k
@[simp] theorem fnT_zero (m : Module) : fnT m 0 = [] := rfl
theorem fnT_succ {m : Module} {k : Nat} (hk : k < m.funcs.length) : fnT m (k + 1) = fnT m k ++ [m.funcs[k].name] := by
  unfold fnT fnames
  rw [List.take_succ_eq_append_getElem (by simpa using hk)]
  simp
theorem fnT_all {m : Module} {k : Nat} (hk : m.funcs.length ≤ k) : fnT m k = gnT m 0 := by
  unfold fnT gnT
  rw [List.take_of_length_le (by simpa [fnames] using hk)]
  simp
theorem fnT_length (m : Module) (k : Nat) : (fnT m k).length ≤ k := by
  unfold fnT
  simp
  omega
theorem gnT_succ {m : Module} {k : Nat} (hk : k < m.globs.length) : gnT m (k + 1) = gnT m k ++ [m.globs[k].name] := by
  unfold gnT gnames
  rw [List.take_succ_eq_append_getElem (by simpa using hk)]
  simp
theorem gnT_all {m : Module} {k : Nat} (hk : m.globs.length ≤ k) : gnT m k = namesM m := by
  unfold gnT namesM
  rw [List.take_of_length_le (by simpa [gnames] using hk)]
theorem gnT_length (m : Module) (k : Nat) : (gnT m k).length ≤ m.funcs.length + k := by
  unfold gnT fnames
  simp
  omega

set_option maxRecDepth 10000 in
theorem refNames_pure (m : Module) (hf : m.funcs.length ≤ 16) (hg : m.globs.length ≤ 16) : APure Try.prog 43 [.agg (moduleC m)] (strsD (namesM m)) := by
  refine apureG _ _ Try.func43 (by kernel_rfl) t_marlineref05_names u_marlineref05_names rfl rfl (fun _ => ?_)
  simp [c_marlineref05_names, r_marlineref05_names]
  refine loop_s (κ := Nat) (fun k => k ≤ m.funcs.length) (fun k => m.funcs.length - k) (fun k => [(sl 4, .int k), (sl 3, .own 0 (fnT m k).length)]) (fun k => [(0, .row 9 1 (fnT m k).length fun i => strC ((fnT m k)[i]?.getD ⟨#[]⟩))]) 1 0 (srcs [(0, .nil)]) (by simp) (by simp) ?_
  rintro k hk
  simp
  refine ⟨fun hlt => ⟨hlt, ?_⟩, fun hge => ?_⟩
  · have hlm := fnT_length m k
    refine ⟨by omega, k + 1, by omega, by omega, srcs [(0, .id 14)], ?_⟩
    simp [SLeK, fnT_succ hlt, getD_some hlt]
    exact ⟨DLe_int (wrap_succ (by omega)), fun i hi => appRow_str hi⟩
  rw [fnT_all hge]
  refine loop_s (κ := Nat) (fun k => k ≤ m.globs.length) (fun k => m.globs.length - k) (fun k => [(sl 5, .int k), (sl 3, .own 0 (gnT m k).length)]) (fun k => [(0, .row 9 1 (gnT m k).length fun i => strC ((gnT m k)[i]?.getD ⟨#[]⟩))]) 1 0 (srcs [(0, .id 0)]) (by simp) (by simp) ?_
  rintro j hj
  simp
  refine ⟨fun hlt => ⟨hlt, ?_⟩, fun hge => ?_⟩
  · have hlm := gnT_length m j
    refine ⟨by omega, j + 1, by omega, by omega, srcs [(0, .id 14)], ?_⟩
    simp [SLeK, gnT_succ hlt, getD_some hlt]
    exact ⟨DLe_int (wrap_succ (by omega)), fun i hi => appRow_str hi⟩
  · rw [gnT_all hge]
    exact DLe.refl _

/-- The instructions seen so far. -/
def InvS (m : Module) (l : List Inst) (o : Bool) : Prop := o = l.any (oddI m) ∧ l.any (missI m) = false
theorem InvS.start (m : Module) : InvS m [] false := ⟨rfl, rfl⟩
theorem InvS.snoc {m : Module} {l : List Inst} {o : Bool} {i : Inst} (h : InvS m l o) (hm : missI m i = false) : InvS m (l ++ [i]) (o || oddI m i) := by
  obtain ⟨h1, h2⟩ := h
  refine ⟨?_, ?_⟩
  · rw [List.any_append, ← h1]; simp
  · rw [List.any_append, h2]; simp [hm]
theorem InvS.all {m : Module} {o : Bool} (h : InvS m (insM m) o) : refsE m = if o = true then 1 else 0 := by
  obtain ⟨h1, h2⟩ := h
  unfold refsE
  rw [h2, ← h1]
  simp
theorem refsE_bad {m : Module} {i : Inst} (hi : i ∈ insM m) (h : missI m i = true) : refsE m = 8 := by
  unfold refsE
  rw [if_pos (List.any_eq_true.2 ⟨i, hi, h⟩)]
theorem findI_at {fs : List Func} {s : ByteArray} (h : 0 ≤ findI (fun f => decide (f.name = s)) fs) : ∃ k, ∃ hk : k < fs.length, findI (fun f => decide (f.name = s)) fs = k ∧ fs[k].name = s := by
  unfold findI at h ⊢
  split at h
  · rename_i i hi
    obtain ⟨hi, hp, _⟩ := List.findIdx?_eq_some_iff_getElem.1 hi
    exact ⟨i, hi, rfl, by simpa using hp⟩
  · omega

theorem miss_call {m : Module} {x : Inst} (h14 : x.op = 14) (h : findI (fun f => decide (f.name = x.name)) m.funcs < 0) : missI m x = true := by
  have : lookP m.funcs x.name = none := lookP_none.2 fun f hf => by simpa using findI_neg.1 h f hf
  unfold missI
  simp [h14, this]
theorem miss_glob {m : Module} {x : Inst} (h12 : x.op = 12 ∨ x.op = 13) (h : findI (fun f => decide (f.name = x.name)) m.globs < 0) : missI m x = true := by
  have : hasG m.globs x.name = false := by
    rw [← Bool.not_eq_true, hasG_iff]
    rintro ⟨g, hg, e⟩
    have := findI_neg.1 h g hg
    simp [e] at this
  unfold missI
  rcases h12 with h | h <;> simp [h, this]
theorem there_call {m : Module} {x : Inst} (h14 : x.op = 14) (h : 0 ≤ findI (fun f => decide (f.name = x.name)) m.funcs) : missI m x = false := by
  obtain ⟨a, ha, hae, hname⟩ := findI_at h
  obtain ⟨p, hp⟩ := lookP_some (List.getElem_mem ha) hname
  exact missI_mk (fun _ => ⟨p, hp⟩) (fun h => by omega)
theorem there_glob {m : Module} {x : Inst} (h12 : x.op = 12 ∨ x.op = 13) (h : 0 ≤ findI (fun f => decide (f.name = x.name)) m.globs) : missI m x = false := by
  refine missI_mk (fun h => by omega) (fun _ => hasG_iff.2 ?_)
  have h' : ¬ findI (fun f : Glob => decide (f.name = x.name)) m.globs < 0 := by omega
  rw [findI_neg] at h'
  simpa using h'
theorem odd_call {m : Module} {x : Inst} (hn : (m.funcs.map (·.name)).Nodup) (h14 : x.op = 14) {a : Nat} (ha : a < m.funcs.length) (hname : m.funcs[a].name = x.name) : oddI m x = !decide (m.funcs[a].params = x.args.length) := by
  have hq : lookP m.funcs x.name = some m.funcs[a].params := by rw [← hname]; exact lookP_uniq hn (List.getElem_mem ha)
  unfold oddI
  rw [hq]
  simp [h14, bne]
  rfl
theorem odd_no {m : Module} {x : Inst} (h14 : x.op ≠ 14) : oddI m x = false := by
  unfold oddI
  simp [h14]

set_option maxRecDepth 10000 in
set_option maxHeartbeats 1000000 in
theorem refCheck_pure (m : Module) (hi : ∀ f ∈ m.funcs, ∀ b ∈ f.blocks, ∀ i ∈ b.ins, i.args.length ≤ 17592186044416) : APure Try.prog 19 [.agg (moduleC m)] (.int (checkE m)) := by
  refine apureG _ _ Try.func19 (by kernel_rfl) t_marlineref05_Check u_marlineref05_Check rfl rfl (fun _ => ?_)
  simp [c_marlineref05_Check, r_marlineref05_Check]
  refine ⟨fun h => DLe_int ?_, fun hf hg => ?_⟩
  · unfold checkE
    rw [if_pos (by omega)]
  refine loop_s (κ := Nat) (fun k => k ≤ m.funcs.length ∧ ∀ j (h : j < m.funcs.length), j < k → funcOk m.funcs[j] = true) (fun k => m.funcs.length - k) (fun k => [(sl 3, .int k)]) (fun _ => []) 0 0 (srcs []) (by simp) (by simp) ?_
  rintro k ⟨hk, hall⟩
  simp
  refine ⟨fun hlt => ⟨hlt, ?_⟩, fun hge => ?_⟩
  · rw [getD_some hlt]
    refine call_plain (ds := [.agg (funcC m.funcs[k])]) _ (by simp) (by simp) (fun _ => rfl) (fun _ => refFunc_pure m.funcs[k] (hi _ (List.getElem_mem hlt))) ?_
    simp
    refine ⟨fun h => DLe_int ?_, fun h => ?_⟩
    · unfold checkE
      rw [if_neg (by omega), if_pos (by rw [all_no hlt h]; rfl)]
    · refine ⟨k + 1, ⟨hlt, fun j hj hj' => ?_⟩, by omega, srcs [], ?_⟩
      · rcases Nat.lt_or_ge j k with h1 | h1
        · exact hall j hj h1
        · obtain rfl : j = k := by omega
          exact h
      · simp [SLeK]
        exact DLe_int (wrap_succ (by omega))
  have hff := all_yes fun j hj => hall j hj (by omega)
  refine loop_s (κ := Nat) (fun k => k ≤ m.globs.length ∧ ∀ j (h : j < m.globs.length), j < k → globOk m.globs[j] = true) (fun k => m.globs.length - k) (fun k => [(sl 5, .int k)]) (fun _ => []) 0 0 (srcs []) (by simp) (by simp) ?_
  rintro k' ⟨hk', hall'⟩
  simp
  refine ⟨fun hlt => ⟨hlt, ?_⟩, fun hge' => ?_⟩
  · rw [getD_some hlt]
    refine call_plain (ds := [.str m.globs[k'].name]) _ (by simp) (by simp) (fun _ => rfl) (fun _ => refName_pure m.globs[k'].name) ?_
    simp
    refine ⟨fun h1 h2 h3 h4 => ⟨⟨⟨⟨h1, h2⟩, h3⟩, h4⟩, fun h5 => ⟨⟨⟨⟨h1, h2⟩, h3⟩, h4⟩, h5⟩⟩, fun h1 h2 h3 => ⟨⟨⟨h1, h2⟩, h3⟩, fun h4 => ⟨⟨⟨h1, h2⟩, h3⟩, h4⟩⟩, fun h => DLe_int ?_, ?_⟩
    · have hno : globOk m.globs[k'] = false := by
        unfold globOk
        rcases h with ((h | h) | h) | ⟨h, h' | h'⟩
        · simp [h]
        · simp; intro _ h2; omega
        · simp; intro _ h2 h3; omega
        · simp [h]; intro _ _ _ h5; exact absurd h5 h'
        · simp [h, h']
      unfold checkE
      rw [if_neg (by omega), if_pos (by rw [all_no hlt hno]; simp)]
    · intro h1 h2 h3 h4
      refine ⟨k' + 1, ⟨hlt, fun j hj hj' => ?_⟩, by omega, srcs [], ?_⟩
      · rcases Nat.lt_or_ge j k' with h5 | h5
        · exact hall' j hj h5
        · obtain rfl : j = k' := by omega
          unfold globOk
          cases hh : m.globs[j].here with
          | true => simp [h1, h2, h3]
          | false =>
            obtain ⟨h6, h7⟩ := h4 hh
            simp [h1, h2, h3, h6, h7]
      · simp [SLeK]
        exact DLe_int (wrap_succ (by omega))
  have hgg := all_yes fun j hj => hall' j hj (by omega)
  have hc : checkE m = if dcountR (namesM m) < m.funcs.length + m.globs.length then 9 else refsE m := by
    unfold checkE
    rw [if_neg (by omega), if_neg (by rw [hff, hgg]; simp)]
  have hnl : (namesM m).length = m.funcs.length + m.globs.length := by simp [namesM, fnames, gnames]
  rw [← hnl] at hc
  refine call_plain (ds := [.agg (moduleC m)]) _ (by simp) (by simp) (fun _ => rfl) (fun _ => refNames_pure m (by omega) (by omega)) ?_
  simp
  obtain ⟨ns, hns⟩ : ∃ ns, namesM m = ns := ⟨_, rfl⟩
  rw [hns] at hc hnl
  simp only [hns]
  refine loop_s (κ := Nat) (fun k => k ≤ ns.length ∧ ∀ a b (ha : a < ns.length) (hb : b < ns.length), b < a → a < k → ns[a] ≠ ns[b]) (fun k => ns.length - k) (fun k => [(sl 9, .int k)]) (fun _ => []) 0 0 (srcs []) (by simp) (by simp) ?_
  rintro i ⟨hil, hnd⟩
  simp
  refine ⟨fun hlt => ?_, fun hge'' => ?_⟩
  · refine loop_s (κ := Nat) (fun k => k ≤ i ∧ ∀ b (hb : b < ns.length), b < k → ns[i] ≠ ns[b]) (fun k => i - k) (fun k => [(sl 10, .int k)]) (fun _ => []) 0 0 (srcs []) (by simp) (by simp) ?_
    rintro p ⟨hpi, hpb⟩
    simp
    refine ⟨fun hpl => ?_, fun hge3 => ?_⟩
    · have hpl' : p < ns.length := by omega
      refine ⟨hlt, hpl', ?_⟩
      refine ⟨fun he => DLe_int ?_, fun hne => ?_⟩
      · have he' : ns[i] = ns[p] := by simpa [hlt, hpl'] using he
        rw [hc, if_pos]
        rw [dcountR_iff]
        intro hnn
        have := List.pairwise_iff_getElem.1 hnn p i hpl' hlt hpl
        exact this he'.symm
      · have hne' : ns[i] ≠ ns[p] := by simpa [hlt, hpl'] using hne
        refine ⟨p + 1, ⟨by omega, fun b hb hbp => ?_⟩, by omega, srcs [], ?_⟩
        · rcases Nat.lt_or_ge b p with h5 | h5
          · exact hpb b hb h5
          · obtain rfl : b = p := by omega
            exact hne'
        · simp [SLeK]
          exact DLe_int (wrap_succ (by omega))
    · refine ⟨i + 1, ⟨by omega, fun a b ha hb hba hai => ?_⟩, by omega, srcs [], ?_⟩
      · rcases Nat.lt_or_ge a i with h5 | h5
        · exact hnd a b ha hb hba h5
        · obtain rfl : a = i := by omega
          exact hpb b hb (by omega)
      · simp [SLeK]
        exact DLe_int (wrap_succ (by omega))
  have hnod : ns.Nodup := by
    refine List.pairwise_iff_getElem.2 fun b a hb ha hba => ?_
    exact Ne.symm (hnd a b ha hb hba (by omega))
  rw [if_neg (by rw [dcountR_iff]; exact fun h => h hnod)] at hc
  rw [← hns] at hnod
  have hfn : (m.funcs.map (·.name)).Nodup := (List.nodup_append.1 hnod).1
  rw [hc]
  refine loop_s (κ := KO) (fun s => s.k ≤ m.funcs.length ∧ InvS m ((m.funcs.take s.k).flatMap allIns) s.o) (fun s => m.funcs.length - s.k) (fun s => [(sl 12, .int s.k), (sl 11, .d (.lit (.bool s.o)))]) (fun _ => []) 0 ⟨0, false⟩ (srcs []) ⟨Nat.zero_le _, InvS.start m⟩ (by simp) ?_
  rintro ⟨fi, o⟩ ⟨hfi, hin⟩
  simp
  refine ⟨fun hflt => ?_, fun hfge => ?_⟩
  · obtain ⟨f, hfe⟩ : ∃ f, m.funcs[fi] = f := ⟨_, rfl⟩
    have hfm : f ∈ m.funcs := by rw [← hfe]; exact List.getElem_mem hflt
    have hfk : m.funcs[fi]?.getD default = f := by rw [getD_some hflt, hfe]
    have hfok := List.all_eq_true.1 hff f hfm
    have hbmax := funcOk_len hfok
    obtain ⟨L, hL⟩ : ∃ L, (m.funcs.take fi).flatMap allIns = L := ⟨_, rfl⟩
    simp only [hL] at hin
    have hsub : ∀ i ∈ allIns f, i ∈ insM m := fun i hi => List.mem_flatMap.2 ⟨f, hfm, hi⟩
    refine loop_s (κ := KO) (fun s => s.k ≤ f.blocks.length ∧ InvS m (L ++ (f.blocks.take s.k).flatMap (·.ins)) s.o) (fun s => f.blocks.length - s.k) (fun s => [(sl 13, .int s.k), (sl 11, .d (.lit (.bool s.o)))]) (fun _ => []) 0 ⟨0, o⟩ (srcs []) ⟨Nat.zero_le _, by simpa using hin⟩ (by simp) ?_
    rintro ⟨bi, o2⟩ ⟨hbi, hin2⟩
    simp [hfk]
    refine ⟨hflt, fun hblt => ?_, fun hbge => ?_⟩
    · obtain ⟨b, hbe⟩ : ∃ b, f.blocks[bi] = b := ⟨_, rfl⟩
      have hbk : f.blocks[bi]?.getD default = b := by rw [getD_some hblt, hbe]
      have himax : b.ins.length ≤ 32 := by rw [← hbe]; exact (blockOk_parts (funcOk_block hfok hblt)).2.2.1
      obtain ⟨L2, hL2⟩ : ∃ L2, L ++ (f.blocks.take bi).flatMap (·.ins) = L2 := ⟨_, rfl⟩
      simp only [hL2] at hin2
      have hsub2 : ∀ i ∈ b.ins, i ∈ insM m := fun i hi => hsub i (List.mem_flatMap.2 ⟨b, by rw [← hbe]; exact List.getElem_mem hblt, hi⟩)
      refine loop_s (κ := KO) (fun s => s.k ≤ b.ins.length ∧ InvS m (L2 ++ b.ins.take s.k) s.o) (fun s => b.ins.length - s.k) (fun s => [(sl 14, .int s.k), (sl 11, .d (.lit (.bool s.o)))]) (fun _ => []) 0 ⟨0, o2⟩ (srcs []) ⟨Nat.zero_le _, by simpa using hin2⟩ (by simp) ?_
      rintro ⟨ii, o3⟩ ⟨hii, hin3⟩
      simp [hfk, hbk]
      refine ⟨hflt, hblt, fun hilt => ⟨hflt, hblt, hilt, ?_⟩, fun hige => ?_⟩
      · obtain ⟨x, hxe⟩ : ∃ x, b.ins[ii] = x := ⟨_, rfl⟩
        have hxk : b.ins[ii]?.getD default = x := by rw [getD_some hilt, hxe]
        have hxm : x ∈ insM m := hsub2 x (by rw [← hxe]; exact List.getElem_mem hilt)
        have htk : L2 ++ b.ins.take (ii + 1) = L2 ++ b.ins.take ii ++ [x] := by
          rw [List.take_succ_eq_append_getElem hilt, hxe, List.append_assoc]
        simp only [hxk]
        simp only at hin3
        refine ⟨fun h14 => ?_, fun hn14 => ?_⟩
        · refine call_plain (ds := [.agg (moduleC m), .str x.name]) _ (by simp) (by simp) (fun _ => by simp; rfl) (fun _ => findFunc_pure m x.name) ?_
          simp
          refine ⟨fun hneg => DLe_int (refsE_bad hxm (miss_call h14 hneg)).symm, fun hpos => ⟨fun h => ⟨h, hpos, ?_⟩, ?_⟩⟩
          · obtain ⟨a, ha, hae, _⟩ := findI_at hpos
            rw [hae]
            exact_mod_cast ha
          refine call_plain (ds := [.agg (moduleC m), .str x.name]) _ (by simp) (by simp) (fun _ => by simp; rfl) (fun _ => findGlob_pure m x.name) ?_
          simp
          refine ⟨fun h12 hneg => DLe_int (refsE_bad hxm (miss_glob h12 hneg)).symm, ?_⟩
          intro hgl
          obtain ⟨a, ha, hae, hname⟩ := findI_at hpos
          refine ⟨⟨ii + 1, o3 || oddI m x⟩, ⟨by simp; omega, ?_⟩, by simp; omega, srcs [], ?_⟩
          · simp only []
            rw [htk]
            exact hin3.snoc (there_call h14 hpos)
          · simp [SLeK, hae]
            rw [getD_some ha, odd_call hfn h14 ha hname]
            exact ⟨DLe_int (wrap_succ (by omega)), DLe.refl _⟩
        · refine call_plain (ds := [.agg (moduleC m), .str x.name]) _ (by simp) (by simp) (fun _ => by simp; rfl) (fun _ => findGlob_pure m x.name) ?_
          simp
          refine ⟨fun h12 hneg => DLe_int (refsE_bad hxm (miss_glob h12 hneg)).symm, ?_⟩
          intro hgl
          have hmx : missI m x = false := by
            by_cases h12 : x.op = 12 ∨ x.op = 13
            · exact there_glob h12 (hgl h12)
            · exact missI_mk (fun h => absurd h hn14) (fun h => absurd h h12)
          refine ⟨⟨ii + 1, o3 || oddI m x⟩, ⟨by simp; omega, ?_⟩, by simp; omega, srcs [], ?_⟩
          · simp only []
            rw [htk]
            exact hin3.snoc hmx
          · rw [odd_no hn14]
            simp [SLeK]
            exact DLe_int (wrap_succ (by omega))
      · refine ⟨⟨bi + 1, o3⟩, ⟨by simp; omega, ?_⟩, by simp; omega, srcs [], ?_⟩
        · simp only at hin3 ⊢
          rw [List.take_of_length_le hige] at hin3
          rw [List.take_succ_eq_append_getElem hblt, List.flatMap_append, ← List.append_assoc, hL2, hbe]
          simpa using hin3
        · simp [SLeK]
          exact DLe_int (wrap_succ (by omega))
    · refine ⟨⟨fi + 1, o2⟩, ⟨by simp; omega, ?_⟩, by simp; omega, srcs [], ?_⟩
      · simp only at hin2 ⊢
        rw [List.take_of_length_le hbge] at hin2
        rw [List.take_succ_eq_append_getElem hflt, List.flatMap_append, hL, hfe]
        simpa [allIns] using hin2
      · simp [SLeK]
        exact DLe_int (wrap_succ (by omega))
  · simp only at hin
    rw [List.take_of_length_le hfge] at hin
    rw [InvS.all hin]
    exact ⟨fun h => DLe_int (by rw [if_pos h]), fun h => DLe_int (by rw [h]; rfl)⟩

end Go.Proofs.Ytndpejmebhcaaaa
