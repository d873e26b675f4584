/- Contracts by the evaluator: layer 7, is a module whole. -/
import Derived.Test.YtpfokkfomgmibaaS1
import Derived.Test.YtpfokkfomgmibaaSF
import Derived.Test.YtpfokkfomgmibaaSG
namespace Go.Proofs.Ytpfokkfomgmibaa
open Go.RowKit

abbrev MapW := Nat × (Value → Option Value)
def putB (s : MapW) (x : ByteArray) (b : Bool) : MapW := (if (s.2 (.string x)).isSome then s.1 else s.1 + 1, mset s.2 (.string x) (.bool b))
def putBs (s : MapW) (l : List (ByteArray × Bool)) : MapW := l.foldl (fun s p => putB s p.1 p.2) s
theorem putBs_succ {s : MapW} {l : List (ByteArray × Bool)} {k : Nat} (hk : k < l.length) : putBs s (l.take (k + 1)) = putB (putBs s (l.take k)) l[k].1 l[k].2 := by
  unfold putBs
  rw [List.take_succ_eq_append_getElem hk, List.foldl_append]
  rfl
theorem keq_T (x y : ByteArray) : keq (.string y) (.string x) = decide (x = y) := by
  rw [Bool.eq_iff_iff, keq_iff (kd := .string) rfl rfl]
  simp [eq_comm]
theorem putB_get (s : MapW) (x y : ByteArray) (b : Bool) : (putB s x b).2 (.string y) = if x = y then some (.bool b) else s.2 (.string y) := by
  simp only [putB, mset, keq_T]
  by_cases h : x = y <;> simp [h]
theorem putBs_not : ∀ (l : List (ByteArray × Bool)) (s : MapW) (x : ByteArray), x ∉ l.map (·.1) → (putBs s l).2 (.string x) = s.2 (.string x)
  | [], s, x, _ => rfl
  | p :: l, s, x, h => by
    simp only [List.map_cons, List.mem_cons, not_or] at h
    show (putBs (putB s p.1 p.2) l).2 _ = _
    rw [putBs_not l _ x h.2, putB_get, if_neg (Ne.symm h.1)]
theorem putBs_mem : ∀ (l : List (ByteArray × Bool)) (s : MapW) (x : ByteArray) (b : Bool), (l.map (·.1)).Nodup → (x, b) ∈ l → (putBs s l).2 (.string x) = some (.bool b)
  | [], s, x, b, _, h => by cases h
  | p :: l, s, x, b, hn, h => by
    simp only [List.map_cons, List.nodup_cons] at hn
    show (putBs (putB s p.1 p.2) l).2 _ = _
    rcases List.mem_cons.1 h with h | h
    · subst h
      rw [putBs_not l _ x hn.1, putB_get, if_pos rfl]
    · exact putBs_mem l _ x b hn.2 h
def hereF (m : Module) : List (ByteArray × Bool) := m.funcs.map fun f => (f.name, decide (0 < f.blocks.length))
def hereG (m : Module) : List (ByteArray × Bool) := m.globs.map fun g => (g.name, g.here)
def hereS (m : Module) : MapW := putBs (putBs (0, fun _ => none) (hereF m)) (hereG m)
/-- What the map says at a name: is it there, and true? -/
def isB (f : Value → Option Value) (x : ByteArray) : Bool := match f (.string x) with
  | some (.bool b) => b
  | _ => false
/-- All that it holds are such. -/
def AllB (f : Value → Option Value) : Prop := ∀ v u, f v = some u → ∃ b, u = .bool b
theorem AllB.put {s : MapW} (h : AllB s.2) (x : ByteArray) (b : Bool) : AllB (putB s x b).2 := by
  intro v u hu
  simp only [putB, mset] at hu
  split at hu
  · injection hu with hu
    exact ⟨b, hu.symm⟩
  · exact h v u hu
theorem AllB.puts : ∀ (l : List (ByteArray × Bool)) {s : MapW}, AllB s.2 → AllB (putBs s l).2
  | [], s, h => h
  | p :: l, s, h => AllB.puts l (h.put p.1 p.2)
theorem hereS_all (m : Module) : AllB (hereS m).2 := AllB.puts _ (AllB.puts _ fun v u h => by cases h)

theorem hereS_there {m : Module} (hn : (namesM m).Nodup) (s : ByteArray) : isB (hereS m).2 s = thereB m s := by
  have e : hereS m = putBs (0, fun _ => none) (hereF m ++ hereG m) := by unfold hereS putBs; rw [List.foldl_append]
  have hnn : ((hereF m ++ hereG m).map (·.1)).Nodup := by
    simpa [hereF, hereG, namesM, fnames, gnames, Function.comp_def] using hn
  unfold isB thereB
  rw [e]
  cases hf : findF m s with
  | some f =>
    have h1 := List.mem_of_find?_eq_some hf
    have h2 : f.name = s := by simpa using List.find?_some hf
    rw [putBs_mem _ _ s (decide (0 < f.blocks.length)) hnn (List.mem_append.2 (.inl (List.mem_map.2 ⟨f, h1, by rw [h2]⟩)))]
    simp only
    by_cases h : f.blocks.length = 0
    · simp [h]
    · simp [h]; omega
  | none =>
    have h1 : s ∉ (hereF m).map (·.1) := by
      intro h
      simp only [hereF, List.map_map, List.mem_map, Function.comp] at h
      obtain ⟨f, hm, hs⟩ := h
      have := List.find?_eq_none.1 hf f hm
      simp [hs] at this
    cases hg : findG m s with
    | some g =>
      have h3 := List.mem_of_find?_eq_some hg
      have h2 : g.name = s := by simpa using List.find?_some hg
      rw [putBs_mem _ _ s g.here hnn (List.mem_append.2 (.inr (List.mem_map.2 ⟨g, h3, by rw [h2]⟩)))]
    | none =>
      have h3 : s ∉ (hereG m).map (·.1) := by
        intro h
        simp only [hereG, List.map_map, List.mem_map, Function.comp] at h
        obtain ⟨f, hm, hs⟩ := h
        have := List.find?_eq_none.1 hg f hm
        simp [hs] at this
      rw [putBs_not _ _ s (by rw [List.map_append, List.mem_append, not_or]; exact ⟨h1, h3⟩)]

/-- The objects that the search reads: a box with a map of texts. -/
def LB (s : MapW) : List (Nat × AObj) := [(1000000, .box [.mp 1000001]), (1000001, .map .string s.1 s.2)]
theorem hof_LB (s : MapW) : hof (LB s) = hadd 1000000 (.box [.mp 1000001]) (hadd 1000001 (.map .string s.1 s.2) hnil) := rfl
theorem LB_end (s : MapW) : EffEnd (LB s) (LB s) (hadd 1000000 (.box [.mp 1000001]) (hadd 1000001 (.map .string s.1 s.2) hnil)) := by
  refine ⟨.none, ?_, ?_⟩
  · simp [LB, gE]
  · simp [LB, gE]

set_option maxRecDepth 10000 in
theorem whole1_eff (s : MapW) (hs : AllB s.2) (x : ByteArray) : AEff Try.prog 30 [.d (.str x), .ptr 1000000 0] (LB s) (.bool (!isB s.2 x)) (LB s) := by
  refine aeffG _ _ Try.func30 (by kernel_rfl) t_eval_Whole_1_w u_eval_Whole_1_w rfl rfl (by simp [LB]) (by simp [LB, idsOk]) (fun _ => ?_)
  obtain ⟨b, hb, he⟩ : ∃ b, (s.2 (.string x)).getD (.bool false) = .bool b ∧ isB s.2 x = b := by
    unfold isB
    cases h : s.2 (.string x) with
    | none => exact ⟨false, rfl, rfl⟩
    | some u =>
      obtain ⟨b, rfl⟩ := hs _ _ h
      exact ⟨b, rfl, rfl⟩
  simp [c_eval_Whole_1_w, r_eval_Whole_1_w, LB, hb, he]
  exact LB_end s

def tauB (n : Nat) : Nat → Nat := fun i => if i = 999999 then n else i

set_option maxRecDepth 10000 in
theorem indexB_eff (s : MapW) (hs : AllB s.2) (xs : List ByteArray) : AEff Try.prog 45 [.d (strsD xs), .fn 30 [.ptr 1000000 0]] (LB s) (.int (findI (fun x => !isB s.2 x) xs)) (LB s) := by
  refine aeffG _ _ Try.func45 (by kernel_rfl) t_slices_IndexFunc___string_string__w u_slices_IndexFunc___string_string__w rfl rfl (by simp [LB]) (by simp [LB, idsOk]) (fun hx => ?_)
  have hl : xs.length ≤ 9223372036854775807 := by
    obtain ⟨γ, X, w, us, h⟩ := hx
    obtain ⟨v, vs, _, h1, _⟩ := h.uncons
    have := sl_len h1.dv
    simpa [maxLen] using this
  clear hx
  obtain ⟨p, hp⟩ : ∃ p : ByteArray → Bool, (fun x => !isB s.2 x) = p := ⟨_, rfl⟩
  have hp' : ∀ x, (!isB s.2 x) = p x := fun x => congrFun hp x
  have hw : ∀ x, AEff Try.prog 30 [.d (.str x), .ptr 1000000 0] (LB s) (.bool (p x)) (LB s) := fun x => by rw [← hp' x]; exact whole1_eff s hs x
  rw [hp]
  simp [c_slices_IndexFunc___string_string__w, r_slices_IndexFunc___string_string__w, hof_LB]
  refine loop_s (κ := Nat) (fun k => k ≤ xs.length ∧ ∀ i (h : i < xs.length), i < k → p xs[i] = false) (fun k => xs.length - k) (fun k => [(sl 8, .int k)]) (fun _ => LB s) 0 0 (srcs []) (by simp) (by simp [LB]) ?_
  rintro k ⟨hk, hb⟩
  simp [hof_LB]
  refine ⟨fun hlt => ⟨hlt, ?_⟩, fun hge => ⟨DLe_int (findI_miss fun i hi => hb i hi (by omega)).symm, LB_end s⟩⟩
  rw [getD_some hlt]
  refine calle_k (hw xs[k]) (tauB _) rfl [.d (.str xs[k]), .ptr 1000000 0] (by simp) (by simp) (by simp) (by simp [gOf, LB, tauB]) (by simp [gOf, LB, tauB]) (by simp [gOf, LB, tauB]) (by simp [LB, idsOk]) ?_
  simp [LB, tauB]
  refine ⟨fun h => ⟨DLe_int (findI_hit hlt hb h).symm, LB_end s⟩, fun h => ?_⟩
  refine ⟨k + 1, ⟨by omega, fun i hi h1 => ?_⟩, by omega, srcs [], ?_⟩
  · rcases Nat.lt_or_ge i k with h2 | h2
    · exact hb i hi h2
    · obtain rfl : i = k := by omega
      exact h
  · simp [SLeK]
    exact DLe_int (wrap_succ (by omega))

theorem containsB_eff (s : MapW) (hs : AllB s.2) (xs : List ByteArray) : AEff Try.prog 28 [.d (strsD xs), .fn 30 [.ptr 1000000 0]] (LB s) (.bool (xs.any fun x => !isB s.2 x)) (LB s) := by
  refine aeffG _ _ Try.func28 (by kernel_rfl) t_slices_ContainsFunc___string_string__w u_slices_ContainsFunc___string_string__w rfl rfl (by simp [LB]) (by simp [LB, idsOk]) (fun _ => ?_)
  have h0 := indexB_eff s hs xs
  obtain ⟨p, hp⟩ : ∃ p : ByteArray → Bool, (fun x => !isB s.2 x) = p := ⟨_, rfl⟩
  rw [hp] at h0 ⊢
  simp [c_slices_ContainsFunc___string_string__w, r_slices_ContainsFunc___string_string__w, hof_LB, -List.any_eq_true]
  refine calle_k h0 (tauB _) rfl [.d (strsD xs), .fn 30 [.ptr 1000000 0]] (by simp) (by simp) (by simp) (by simp [gOf, LB, tauB]) (by simp [gOf, LB, tauB]) (by simp [gOf, LB, tauB]) (by simp [LB, idsOk]) ?_
  simp [LB, tauB, -List.any_eq_true]
  exact ⟨DLe_bool (findI_ge _ xs), LB_end s⟩

def tauV : Nat → Nat := fun i => if i = 999999 then 208 else if i = 1000000 then 29 else if i = 1000001 then 28 else i

set_option maxRecDepth 10000 in
set_option maxHeartbeats 1000000 in
theorem ewhole_pure (m : Module) (hm : ArgsOk m) : APure Try.prog 15 [.agg (moduleC m)] (.int (wholeE m)) := by
  refine apureG _ _ Try.func15 (by kernel_rfl) t_eval_Whole u_eval_Whole rfl rfl (fun _ => ?_)
  simp [c_eval_Whole, r_eval_Whole]
  refine call_plain (ds := [.agg (moduleC m)]) _ (by simp) (by simp) (fun _ => by simp; rfl) (fun _ => check_pure m hm) ?_
  simp
  refine ⟨fun hz => ?_, fun hz => ?_⟩
  · unfold wholeE; rw [if_pos hz]; exact DLe.refl _
  have hok := checkE_zero.1 hz
  have hnf := hok.nf
  have hng := hok.ng
  have hsm := small_ok hok
  have hw0 : wholeE m = if mainB m = true then (if (refsA m.funcs).all (thereB m) = true then 0 else 8) else 11 := by
    unfold wholeE
    rw [if_neg (by rw [hz]; simp)]
  have hfind := efind_pure m mainS
  unfold efindR at hfind
  cases hf : findF m mainS with
  | none =>
    have hb : mainB m = false := by unfold mainB; rw [hf]
    rw [hf] at hfind
    refine call_plain (ds := [.agg (moduleC m), .str mainS]) _ (by simp) (by simp) (fun _ => by simp; exact ⟨rfl, rfl⟩) (fun _ => hfind) ?_
    rw [hw0, hb]
    simp
  | some f =>
    rw [hf] at hfind
    refine call_plain (ds := [.agg (moduleC m), .str mainS]) _ (by simp) (by simp) (fun _ => by simp; exact ⟨rfl, rfl⟩) (fun _ => hfind) ?_
    have hmb : mainB m = (decide (f.blocks.length ≠ 0) && decide (f.params = 0)) := by unfold mainB; rw [hf]
    simp
    refine ⟨fun h => DLe_int ?_, fun h1 h2 => ?_⟩
    · rw [hw0, hmb]
      rcases h with h | h <;> simp [h]
    have hmt : mainB m = true := by
      rw [hmb]
      simp [h1, h2]
    rw [hmt, if_pos rfl] at hw0
    have hlF : (hereF m).length = m.funcs.length := by simp [hereF]
    have hlG : (hereG m).length = m.globs.length := by simp [hereG]
    refine loop_s (κ := Nat) (fun k => k ≤ m.funcs.length) (fun k => m.funcs.length - k) (fun k => [(sl 40, .int k)]) (fun k => [(29, .box [.mp 28]), (28, .map .string (putBs (0, fun _ => none) ((hereF m).take k)).1 (putBs (0, fun _ => none) ((hereF m).take k)).2)]) 35 0 (srcs [(29, .id 29), (28, .id 28)]) (by simp) (by simp [putBs]) ?_
    rintro k hk
    simp
    refine ⟨fun hlt => ⟨hlt, ?_⟩, fun hge => ?_⟩
    · rw [getD_some hlt]
      refine ⟨k + 1, by omega, by omega, srcs [(29, .id 29), (28, .id 28)], ?_⟩
      have e : (hereF m)[k]'(by omega) = (m.funcs[k].name, decide (0 < m.funcs[k].blocks.length)) := by simp [hereF]
      simp [SLeK, putBs_succ (show k < (hereF m).length by omega), e, putB]
      exact DLe_int (wrap_succ (by omega))
    rw [List.take_of_length_le (by omega)]
    refine loop_s (κ := Nat) (fun k => k ≤ m.globs.length) (fun k => m.globs.length - k) (fun k => [(sl 55, .int k)]) (fun k => [(29, .box [.mp 28]), (28, .map .string (putBs (putBs (0, fun _ => none) (hereF m)) ((hereG m).take k)).1 (putBs (putBs (0, fun _ => none) (hereF m)) ((hereG m).take k)).2)]) 100 0 (srcs [(29, .id 29), (28, .id 28)]) (by simp) (by simp [putBs]) ?_
    rintro k hk
    simp
    refine ⟨fun hlt => ⟨hlt, ?_⟩, fun hge => ?_⟩
    · rw [getD_some hlt]
      refine ⟨k + 1, by omega, by omega, srcs [(29, .id 29), (28, .id 28)], ?_⟩
      have e : (hereG m)[k]'(by omega) = (m.globs[k].name, m.globs[k].here) := by simp [hereG]
      simp [SLeK, putBs_succ (show k < (hereG m).length by omega), e, putB]
      exact DLe_int (wrap_succ (by omega))
    rw [List.take_of_length_le (by omega)]
    rw [show putBs (putBs (0, fun _ => none) (hereF m)) (hereG m) = hereS m from rfl]
    refine loop_s (κ := Nat) (fun i => i ≤ m.funcs.length ∧ ∀ x ∈ refsA (m.funcs.take i), thereB m x = true) (fun i => m.funcs.length - i) (fun i => [(sl 68, .int i)]) (fun _ => [(29, .box [.mp 28]), (28, .map .string (hereS m).1 (hereS m).2)]) 200 0 (srcs [(29, .id 29), (28, .id 28)]) (by simp [refsA]) (by simp) ?_
    rintro i ⟨hi, hall⟩
    simp
    refine ⟨fun hlt => ⟨hlt, ?_⟩, fun hge => ?_⟩
    · rw [getD_some hlt]
      obtain ⟨f', hf'⟩ : ∃ f', m.funcs[i] = f' := ⟨_, rfl⟩
      have hfm : f' ∈ m.funcs := by rw [← hf']; exact List.getElem_mem hlt
      have hfi := hsm.ins f' hfm
      simp only [hf']
      refine call_plain (ds := [.agg (funcC f')]) _ (by simp) (by simp) (fun _ => by simp; rfl) (fun _ => refs_pure f' (by omega)) ?_
      simp
      refine calle_k (containsB_eff (hereS m) (hereS_all m) (namesOf (allIns f'))) tauV rfl [.d (strsD (namesOf (allIns f'))), .fn 30 [.ptr 29 0]] (by simp) (by simp) (by simp) (by simp [gOf, LB, tauV]) (by simp [gOf, LB, tauV]) (by simp [gOf, LB, tauV]) (by simp [LB, idsOk]) ?_
      have hmem : ∀ s ∈ namesOf (allIns f'), isB (hereS m).2 s = thereB m s := fun s _ => hereS_there hok.names s
      obtain ⟨bb, hbb⟩ : ∃ bb, ((namesOf (allIns f')).any fun x => !isB (hereS m).2 x) = bb := ⟨_, rfl⟩
      rw [hbb]
      simp [LB, tauV]
      refine ⟨fun h => DLe_int ?_, fun h => ?_⟩
      · rw [h] at hbb
        obtain ⟨s, hs, hn⟩ := List.any_eq_true.1 hbb
        have ht : thereB m s = false := by
          rw [← hmem s hs]
          simpa using hn
        rw [hw0, if_neg]
        intro h'
        have := List.all_eq_true.1 h' s (List.mem_flatMap.2 ⟨f', hfm, hs⟩)
        rw [ht] at this
        cases this
      · rw [h] at hbb
        refine ⟨i + 1, ⟨by omega, ?_⟩, by omega, srcs [(29, .id 29), (28, .id 28)], ?_⟩
        · intro x hx
          rw [List.take_succ_eq_append_getElem hlt, refsA_append, hf'] at hx
          rcases List.mem_append.1 hx with hx | hx
          · exact hall x hx
          · have hx' : x ∈ namesOf (allIns f') := by simpa [refsA] using hx
            have := List.any_eq_false.1 hbb x hx'
            rw [← hmem x hx']
            simpa using this
        · simp [SLeK]
          exact DLe_int (wrap_succ (by omega))
    · rw [List.take_of_length_le hge] at hall
      rw [hw0, if_pos (List.all_eq_true.2 hall)]
      exact DLe.refl _

end Go.Proofs.Ytpfokkfomgmibaa
