/- Contracts by the evaluator: the program's layer 5, names that are there. -/
import Derived.Test.YtghlfjpmpalpdaaE5
namespace Go.Proofs.Ytghlfjpmpalpdaa
open Go.RowKit

/-- What the last function of a name has: how many values it is handed. -/
def lookP (fs : List Func) (s : ByteArray) : Option Int := (fs.reverse.find? fun f => decide (f.name = s)).map (·.params)
theorem lookP_nil (s : ByteArray) : lookP [] s = none := rfl
theorem lookP_snoc (fs : List Func) (f : Func) (s : ByteArray) : lookP (fs ++ [f]) s = if f.name = s then some f.params else lookP fs s := by
  unfold lookP
  rw [List.reverse_append]
  simp only [List.reverse_cons, List.reverse_nil, List.nil_append, List.singleton_append, List.find?_cons]
  split
  · rename_i h; simp at h; simp [h]
  · rename_i h; simp at h; simp [h]
/-- Is there a global of a name? -/
def hasG (gs : List Glob) (s : ByteArray) : Bool := gs.any fun g => decide (g.name = s)
theorem hasG_snoc (gs : List Glob) (g : Glob) (s : ByteArray) : hasG (gs ++ [g]) s = (hasG gs s || decide (g.name = s)) := by simp [hasG]

def mapP (fs : List Func) : Value → Option Value
  | .string s => (lookP fs s).map (Value.int .i64)
  | _ => none
def mapG (gs : List Glob) : Value → Option Value
  | .string s => if hasG gs s then some (.bool true) else none
  | _ => none
@[simp] theorem mapP_str (fs : List Func) (s : ByteArray) : mapP fs (.string s) = (lookP fs s).map (Value.int .i64) := rfl
@[simp] theorem mapG_str (gs : List Glob) (s : ByteArray) : mapG gs (.string s) = if hasG gs s then some (.bool true) else none := rfl
@[simp] theorem int_getD (o : Option Int) (d : Int) : (o.map (Value.int .i64)).getD (.int .i64 d) = .int .i64 (o.getD d) := by cases o <;> rfl
@[simp] theorem bool_getD (b : Bool) : (if b = true then some (Value.bool true) else none).getD (.bool false) = .bool b := by cases b <;> rfl

theorem keq_str (s t : ByteArray) : keq (.string s) (.string t) = decide (s = t) := by
  rw [Bool.eq_iff_iff]
  simp only [keq, decide_eq_true_eq]
  exact ba_beq s t
theorem mapP_step {fs : List Func} {k : Nat} (hk : k < fs.length) (v : Value) (hv : kdOk .string v = true) : mset (mapP (fs.take k)) (.string fs[k].name) (.int .i64 fs[k].params) v = mapP (fs.take (k + 1)) v := by
  cases v <;> simp [kdOk] at hv
  rename_i s
  rw [List.take_succ_eq_append_getElem hk]
  simp only [mset, keq_str, mapP_str, lookP_snoc]
  by_cases h : fs[k].name = s
  · simp [h]
  · simp [h, Ne.symm h]
theorem mapG_step {gs : List Glob} {k : Nat} (hk : k < gs.length) (v : Value) (hv : kdOk .string v = true) : mset (mapG (gs.take k)) (.string gs[k].name) (.bool true) v = mapG (gs.take (k + 1)) v := by
  cases v <;> simp [kdOk] at hv
  rename_i s
  rw [List.take_succ_eq_append_getElem hk]
  simp only [mset, keq_str, mapG_str, hasG_snoc]
  by_cases h : gs[k].name = s
  · simp [h]
  · simp [h, Ne.symm h]

/-- A module's instructions. -/
def insM (m : Module) : List Inst := m.funcs.flatMap allIns
/-- An instruction names what there isn't. -/
def missI (m : Module) (i : Inst) : Bool := (i.op == 14 && (lookP m.funcs i.name).isNone) || ((i.op == 12 || i.op == 13) && !hasG m.globs i.name)
/-- A call hands over too few, or too many. -/
def oddI (m : Module) (i : Inst) : Bool := i.op == 14 && (lookP m.funcs i.name).getD 0 != i.args.length
def refsE (m : Module) : Int := if (insM m).any (missI m) then 8 else if (insM m).any (oddI m) then 1 else 0

/-- How far the walk over the instructions is. -/
structure KO where
  k : Nat
  o : Bool
/-- The first k functions are seen. -/
def InvF (m : Module) (s : KO) : Prop := s.k ≤ m.funcs.length ∧ s.o = ((m.funcs.take s.k).flatMap allIns).any (oddI m) ∧ ((m.funcs.take s.k).flatMap allIns).any (missI m) = false
/-- The first j instructions of a function are seen. -/
def InvJ (m : Module) (f : Func) (odd : Bool) (j : Nat) (s : KO) : Prop := s.o = (odd || ((allIns f).take j).any (oddI m)) ∧ ((allIns f).take j).any (missI m) = false

theorem InvF.start (m : Module) : InvF m ⟨0, false⟩ := ⟨Nat.zero_le _, rfl, rfl⟩
theorem InvJ.start (m : Module) (f : Func) (odd : Bool) : InvJ m f odd 0 ⟨0, odd⟩ := ⟨by simp, rfl⟩
theorem InvF.next {m : Module} {k : Nat} {odd : Bool} {s : KO} (h : InvF m ⟨k, odd⟩) (hk : k < m.funcs.length) (hj : InvJ m m.funcs[k] odd (allIns m.funcs[k]).length s) : InvF m ⟨k + 1, s.o⟩ := by
  obtain ⟨_, h2, h3⟩ := h
  obtain ⟨g1, g2⟩ := hj
  rw [List.take_of_length_le (Nat.le_refl _)] at g1 g2
  have e : (m.funcs.take (k + 1)).flatMap allIns = (m.funcs.take k).flatMap allIns ++ allIns m.funcs[k] := by
    rw [List.take_succ_eq_append_getElem hk, List.flatMap_append]
    simp
  exact ⟨hk, by simp only at h2 ⊢; rw [e, List.any_append, g1, h2], by simp only at h3 ⊢; rw [e, List.any_append, g2, h3]; rfl⟩
theorem InvJ.next {m : Module} {f : Func} {odd : Bool} {j : Nat} {s : KO} (h : InvJ m f odd j s) (hj : j < (allIns f).length) (hm : missI m (allIns f)[j] = false) : InvJ m f odd (j + 1) ⟨0, s.o || oddI m (allIns f)[j]⟩ := by
  obtain ⟨h1, h2⟩ := h
  unfold InvJ
  rw [List.take_succ_eq_append_getElem hj, List.any_append, List.any_append, h2, h1]
  simp [hm, Bool.or_assoc]
theorem refsE_miss {m : Module} {k j : Nat} (hk : k < m.funcs.length) (hj : j < (allIns m.funcs[k]).length) (hm : missI m (allIns m.funcs[k])[j] = true) : refsE m = 8 := by
  unfold refsE
  rw [if_pos]
  exact List.any_eq_true.2 ⟨_, List.mem_flatMap.2 ⟨_, List.getElem_mem hk, List.getElem_mem hj⟩, hm⟩
theorem refsE_end {m : Module} {odd : Bool} (h : InvF m ⟨m.funcs.length, odd⟩) : refsE m = if odd = true then 1 else 0 := by
  obtain ⟨_, h2, h3⟩ := h
  simp only [List.take_of_length_le (Nat.le_refl _)] at h2 h3
  unfold refsE insM
  rw [h3, ← h2]
  simp

set_option maxRecDepth 10000 in
set_option maxHeartbeats 1000000 in
theorem refsM_pure (m : Module) : APure Try.prog 47 [.agg (moduleC m)] (.int (refsE m)) := by
  refine apureG _ _ Try.func47 (by kernel_rfl) t_ir_refs u_ir_refs rfl rfl (fun hx => ?_)
  have hlf := lenAgg hx 0 rfl
  have hlg := lenAgg hx 1 rfl
  clear hx
  simp [c_ir_refs, r_ir_refs]
  refine loop_s (κ := Nat × Nat) (fun k => k.1 ≤ m.funcs.length) (fun k => m.funcs.length - k.1) (fun k => [(sl 20, .int k.1)]) (fun k => [(1, .box [.int 0]), (2, .map .string k.2 (mapP (m.funcs.take k.1))), (3, .map .string 0 (mapG [])), (4, .box [.mp 2]), (5, .box [.mp 3])]) 12 (0, 0) (srcs [(1, .id 1), (2, .id 2), (3, .id 3), (4, .id 4), (5, .id 5)]) (by simp) ?_ ?_
  · simp
    exact ⟨fun v _ => by cases v <;> rfl, fun v _ => by cases v <;> rfl⟩
  rintro ⟨k, n⟩ hk
  simp at hk
  simp
  refine ⟨fun hlt => ⟨hlt, ?_⟩, fun hge => ?_⟩
  · rw [getD_some hlt]
    refine ⟨k + 1, hlt, by omega, (if (lookP (List.take k m.funcs) m.funcs[k].name).isSome = true then n else n + 1), srcs [(1, .id 1), (2, .id 2), (3, .id 3), (4, .id 4), (5, .id 5)], ?_⟩
    simp [SLeK]
    exact ⟨DLe_int (wrap_succ (by omega)), fun v hv => mapP_step hlt v hv⟩
  obtain rfl : k = m.funcs.length := by omega
  rw [List.take_of_length_le (Nat.le_refl _)]
  refine loop_s (κ := Nat × Nat) (fun k => k.1 ≤ m.globs.length) (fun k => m.globs.length - k.1) (fun k => [(sl 33, .int k.1)]) (fun k => [(1, .box [.int 0]), (2, .map .string n (mapP m.funcs)), (3, .map .string k.2 (mapG (m.globs.take k.1))), (4, .box [.mp 2]), (5, .box [.mp 3])]) 17 (0, 0) (srcs [(1, .id 1), (2, .id 2), (3, .id 3), (4, .id 4), (5, .id 5)]) (by simp) (by simp) ?_
  rintro ⟨k, n'⟩ hk
  simp at hk
  simp
  refine ⟨fun hlt => ⟨hlt, ?_⟩, fun hge => ?_⟩
  · rw [getD_some hlt]
    refine ⟨k + 1, hlt, by omega, (if hasG (List.take k m.globs) m.globs[k].name = true then n' else n' + 1), srcs [(1, .id 1), (2, .id 2), (3, .id 3), (4, .id 4), (5, .id 5)], ?_⟩
    simp [SLeK]
    exact ⟨DLe_int (wrap_succ (by omega)), fun v hv => mapG_step hlt v hv⟩
  obtain rfl : k = m.globs.length := by omega
  rw [List.take_of_length_le (Nat.le_refl _)]
  refine loop_s (κ := KO) (InvF m) (fun k => m.funcs.length - k.k) (fun k => [(sl 44, .int k.k)])
    (fun k => [(18, .box [.d (.lit (.bool k.o))]), (1, .box [.int 0]), (2, .map .string n (mapP m.funcs)), (3, .map .string n' (mapG m.globs)), (4, .box [.mp 2]), (5, .box [.mp 3])]) 24 ⟨0, false⟩ (srcs [(18, .id 18), (1, .id 1), (2, .id 2), (3, .id 3), (4, .id 4), (5, .id 5)]) (InvF.start m) (by simp) ?_
  rintro ⟨k, odd⟩ hinv
  simp
  refine ⟨fun hlt => ⟨hlt, ?_⟩, fun hge => ?_⟩
  · rw [getD_some hlt]
    refine call_plain (ds := [.agg (funcC m.funcs[k])]) _ (by simp) (by simp) (fun _ => rfl) (fun _ => insts_pure m.funcs[k]) ?_
    simp
    refine rng_s (insts1_seq m.funcs[k]) (κ := KO) (InvJ m m.funcs[k] odd) []
      (fun o => [(18, .box [.d (.lit (.bool o.o))]), (1, .box [.int 0]), (2, .map .string n (mapP m.funcs)), (3, .map .string n' (mapG m.globs)), (4, .box [.mp 2]), (5, .box [.mp 3])]) 31 [18, 1, 2, 3, 4, 5] ⟨0, odd⟩ (srcs [(18, .id 18), (1, .id 1), (2, .id 2), (3, .id 3), (4, .id 4), (5, .id 5)]) (by simp) (by simp) (by simp [T.pinned, AV.pinned]) (by simp) (InvJ.start _ _ _) (by simp) ?_ ?_
    · rintro j hj ⟨_, o⟩ hij
      have hj' : j < (allIns m.funcs[k]).length := by simpa using hj
      have hmiss := fun h => refsE_miss (m := m) hlt hj' h
      have hnext := fun h => hij.next (m := m) hj' h
      simp
      generalize (allIns m.funcs[k])[j] = i at *
      refine ⟨fun h => ⟨h, fun h' => ⟨h, h'⟩⟩, fun h => ⟨h, fun h' => ⟨h, h'⟩⟩, fun h => ?_, fun h => DLe_int ?_, fun h1 h2 => ?_⟩
      · by_cases h14 : i.op = 14
        · exact .inr (h h14)
        · exact .inl h14
      · rw [hmiss]
        unfold missI
        rcases h with ⟨h1, h2⟩ | ⟨h1, h2⟩
        · simp [h1, h2]
        · rcases h1 with h1 | h1 <;> simp [h1, h2]
      · refine ⟨fun h => ⟨h, fun h' => ⟨h, h'⟩⟩, _, hnext ?_, srcs [(18, .id 18), (1, .id 1), (2, .id 2), (3, .id 3), (4, .id 4), (5, .id 5)], ?_⟩
        · unfold missI
          rw [Bool.or_eq_false_iff]
          constructor
          · by_cases h14 : i.op = 14
            · have := h1 h14
              simp [h14, Option.isSome_iff_ne_none] at this ⊢
              exact this
            · simp [h14]
          · by_cases h12 : i.op = 12 ∨ i.op = 13
            · simp [h2 h12]
            · simp only [not_or] at h12
              simp [h12.1, h12.2]
        · simp [RngE]
          refine DLe_bool ?_
          congr 1
    · rintro s hs
      rw [List.length_map] at hs
      simp
      refine ⟨⟨k + 1, s.o⟩, hinv.next hlt hs, by simp; omega, srcs [(18, .id 18), (1, .id 1), (2, .id 2), (3, .id 3), (4, .id 4), (5, .id 5)], ?_⟩
      simp [SLeK]
      exact DLe_int (wrap_succ (by omega))
  · obtain rfl : k = m.funcs.length := by have := hinv.1; simp only at this; omega
    rw [refsE_end hinv]
    exact ⟨fun h => by subst h; exact DLe.refl _, fun h => by subst h; exact DLe.refl _⟩

end Go.Proofs.Ytghlfjpmpalpdaa
