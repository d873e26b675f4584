/- Plain layer 6: the reader's way is the plain one. -/
import Derived.Test.YtciihchbiifgkaaTY
namespace Go.Proofs.Ytciihchbiifgkaa
open Go.RowKit

def Sim {α : Type} (f : SR α) (p : PR α) : Prop := ∀ st : RS, st.e = 0 →
  (∀ x r, p (bL st.s) = .ok (x, r) → (f st).1 = x ∧ bL (f st).2.s = r ∧ (f st).2.e = 0) ∧ (∀ c, p (bL st.s) = .error c → c ≠ 0 ∧ (f st).2.e = c)
def Dead {α : Type} (f : SR α) : Prop := ∀ st : RS, st.e ≠ 0 → (f st).2.e = st.e

theorem dead_ret {α : Type} (x : α) : Dead (sRet x) := fun _ _ => rfl
theorem dead_bind {α β : Type} {f : SR α} {g : α → SR β} (hf : Dead f) (hg : ∀ x, Dead (g x)) : Dead (sBind f g) := fun st h => by
  have h1 := hf st h
  exact (hg _ _ (by rw [h1]; exact h)).trans h1
theorem oddS_dead {st : RS} (c : Int) (h : st.e ≠ 0) : oddS st c = st := if_neg h
theorem oddS_live {st : RS} (c : Int) (h : st.e = 0) : oddS st c = ⟨st.s, c⟩ := if_pos h
theorem dead_odd {α : Type} (x : α) (c : Int) : Dead (fun st => (x, oddS st c)) := fun st h => by show (oddS st c).e = _; rw [oddS_dead c h]
theorem sim_ret {α : Type} (x : α) : Sim (sRet x) (pRet x) := fun st h => by
  refine ⟨fun y r h' => ?_, fun c h' => by cases h'⟩
  cases h'
  exact ⟨rfl, rfl, h⟩
theorem sim_odd {α : Type} (x : α) {c : Int} (hc : c ≠ 0) : Sim (fun st => (x, oddS st c)) (pErr c) := fun st h => by
  refine ⟨fun y r h' => (by cases h'), fun c' h' => ?_⟩
  cases h'
  exact ⟨hc, by show (oddS st c).e = _; rw [oddS_live c h]⟩
theorem sim_bind {α β : Type} {f : SR α} {p : PR α} {g : α → SR β} {q : α → PR β} (hf : Sim f p) (hg : ∀ x, Sim (g x) (q x)) (hd : ∀ x, Dead (g x)) : Sim (sBind f g) (pBind p q) := fun st h => by
  have h1 := hf st h
  unfold pBind
  cases hp : p (bL st.s) with
  | error c =>
    obtain ⟨hc, he⟩ := h1.2 c hp
    refine ⟨fun x r h' => (by cases h'), fun c' h' => ?_⟩
    cases h'
    exact ⟨hc, (hd _ _ (by rw [he]; exact hc)).trans he⟩
  | ok v =>
    obtain ⟨x, r⟩ := v
    obtain ⟨e1, e2, e3⟩ := h1.1 x r hp
    have h2 := hg x (f st).2 e3
    rw [e2] at h2
    have e : sBind f g st = g x (f st).2 := by show g (f st).1 (f st).2 = _; rw [e1]
    rw [e]
    exact h2
theorem sim_wide : Sim wideS pWide := fun st h => by
  unfold wideS pWide
  rw [if_pos h]
  rcases hq : takeNum (bL st.s) with ⟨x, r, c⟩
  cases c with
  | zero =>
    refine ⟨fun y t h' => ?_, fun c' h' => (by cases h')⟩
    cases h'
    rw [if_pos rfl]
    exact ⟨rfl, by simp [bL], rfl⟩
  | succ c =>
    refine ⟨fun y t h' => (by cases h'), fun c' h' => ?_⟩
    cases h'
    rw [if_neg (by simp)]
    exact ⟨by omega, rfl⟩
theorem dead_wide : Dead wideS := fun st h => by unfold wideS; rw [if_neg h]
theorem sim_most (n : Nat) : Sim (mostS n) (pMost n) := sim_bind sim_wide (fun x => by
  by_cases h : n < x
  · simp only [if_pos h]; exact sim_odd 0 (by decide)
  · simp only [if_neg h]; exact sim_ret _) (fun x => by
  by_cases h : n < x
  · simp only [if_pos h]; exact dead_odd 0 4
  · simp only [if_neg h]; exact dead_ret _)
theorem dead_most (n : Nat) : Dead (mostS n) := dead_bind dead_wide (fun x => by
  by_cases h : n < x
  · simp only [if_pos h]; exact dead_odd 0 4
  · simp only [if_neg h]; exact dead_ret _)
theorem sim_num : Sim numS pNum := sim_most _
theorem dead_num : Dead numS := dead_most _
theorem bL_take (s : ByteArray) (k : Nat) : s.extract 0 k = ⟨((bL s).take k).toArray⟩ := by
  apply bL_inj
  unfold bL
  rw [ByteArray.data_extract, Array.toList_extract]
  simp
theorem bL_drop (s : ByteArray) (k : Nat) : bL (s.extract k s.size) = (bL s).drop k := by
  unfold bL
  rw [ByteArray.data_extract, Array.toList_extract, List.extract_eq_take_drop, List.take_of_length_le]
  simp
def text2 (n : Int) : SR ByteArray := fun st => if (textS.oddIf st n).e = 0 then ((textS.oddIf st n).s.extract 0 n.toNat, ⟨(textS.oddIf st n).s.extract n.toNat (textS.oddIf st n).s.size, 0⟩) else (⟨#[]⟩, textS.oddIf st n)
theorem dead_text2 (n : Int) : Dead (text2 n) := fun st h => by
  have e : textS.oddIf st n = st := by
    unfold textS.oddIf
    split
    · exact oddS_dead 2 h
    · rfl
  unfold text2
  rw [e, if_neg h]
theorem sim_text : Sim textS pText := sim_bind (g := text2) (sim_most 16) (fun n st h => by
  by_cases hn : (st.s.size : Int) < n
  · have e : textS.oddIf st n = ⟨st.s, 2⟩ := by unfold textS.oddIf; rw [if_pos hn, oddS_live 2 h]
    have c1 : ¬ (⟨st.s, 2⟩ : RS).e = 0 := show ¬ (2 : Int) = 0 by decide
    have c2 : (bL st.s).length < n.toNat := by rw [bL_length]; omega
    simp only [text2, e, if_neg c1, if_pos c2]
    refine ⟨fun y t h' => (by cases h'), fun c' h' => ?_⟩
    cases h'
    exact ⟨by decide, rfl⟩
  · have e : textS.oddIf st n = st := by unfold textS.oddIf; rw [if_neg hn]
    have c2 : ¬ (bL st.s).length < n.toNat := by rw [bL_length]; omega
    simp only [text2, e, if_pos h, if_neg c2]
    refine ⟨fun y t h' => ?_, fun c' h' => (by cases h')⟩
    cases h'
    exact ⟨bL_take _ _, bL_drop _ _, trivial⟩) dead_text2
theorem dead_text : Dead textS := dead_bind (g := text2) (dead_most 16) dead_text2
theorem dead_rep {α : Type} {one : SR α} (h : Dead one) : ∀ (n : Nat) (acc : List α), Dead (sRepA one n acc)
  | 0, _ => fun _ _ => rfl
  | n + 1, acc => fun st hs => by
    have h1 := h st hs
    unfold sRepA
    rw [if_neg (by rw [h1]; exact hs)]
    exact h1
theorem sim_rep {α : Type} {one : SR α} {p : PR α} (h : Sim one p) (hd : Dead one) : ∀ (n : Nat) (acc : List α), Sim (sRepA one n acc) (pBind (pRep p n) fun xs => pRet (acc ++ xs))
  | 0, acc => fun st hs => by
    unfold pBind pRep pRet
    refine ⟨fun y t h' => ?_, fun c' h' => (by cases h')⟩
    simp only [List.append_nil] at h'
    cases h'
    exact ⟨rfl, rfl, hs⟩
  | n + 1, acc => fun st hs => by
    have h1 := h st hs
    have e0 : sRepA one (n + 1) acc st = if (one st).2.e = 0 then sRepA one n (acc ++ [(one st).1]) (one st).2 else ([], (one st).2) := rfl
    have e1 : (pBind (pRep p (n + 1)) fun xs => pRet (acc ++ xs)) (bL st.s) = (pBind p fun x => pBind (pRep p n) fun xs => pRet (acc ++ [x] ++ xs)) (bL st.s) := by
      unfold pBind
      rw [pRep]
      unfold pBind pRet
      cases p (bL st.s) with
      | error c => rfl
      | ok v =>
        obtain ⟨x, r⟩ := v
        simp only
        cases pRep p n r with
        | error c => rfl
        | ok v => simp
    rw [e0, e1]
    unfold pBind
    cases hp : p (bL st.s) with
    | error c =>
      obtain ⟨hc, he⟩ := h1.2 c hp
      rw [if_neg (by rw [he]; exact hc)]
      refine ⟨fun y t h' => (by cases h'), fun c' h' => ?_⟩
      cases h'
      exact ⟨hc, he⟩
    | ok v =>
      obtain ⟨x, r⟩ := v
      obtain ⟨q1, q2, q3⟩ := h1.1 x r hp
      rw [if_pos q3, q1]
      have h2 := sim_rep h hd n (acc ++ [x]) (one st).2 q3
      rw [q2] at h2
      exact h2
theorem sim_sev {α : Type} {one : SR α} {p : PR α} (h : Sim one p) (hd : Dead one) (most : Nat) : Sim (sevS most one) (pSev most p) := by
  refine sim_bind (sim_most most) (fun n => ?_) (fun n => dead_rep hd _ _)
  have h1 := sim_rep h hd n.toNat []
  have e : (pBind (pRep p n.toNat) fun xs => pRet ([] ++ xs)) = pRep p n.toNat := by
    funext l
    unfold pBind pRet
    cases pRep p n.toNat l with
    | error c => rfl
    | ok v => rfl
  rw [e] at h1
  exact h1
theorem dead_sev {α : Type} {one : SR α} (hd : Dead one) (most : Nat) : Dead (sevS most one) := dead_bind (dead_most most) fun _ => dead_rep hd _ _
theorem sim_args : Sim argsS pArgs := sim_sev sim_num dead_num 6
theorem dead_args : Dead argsS := dead_sev dead_num 6
theorem dead_inst1 (op : Int) : Dead (instK1 op) := by
  unfold instK1
  split
  · exact dead_odd _ _
  split
  · exact dead_bind dead_wide fun _ => dead_ret _
  split
  · exact dead_bind dead_num fun _ => dead_bind dead_num fun _ => dead_ret _
  split
  · exact dead_bind dead_text fun _ => dead_ret _
  split
  · exact dead_bind dead_num fun _ => dead_bind dead_text fun _ => dead_ret _
  split
  · exact dead_bind dead_text fun _ => dead_bind dead_args fun _ => dead_ret _
  split
  · exact dead_bind dead_num fun _ => dead_ret _
  · exact dead_ret _
theorem dead_inst : Dead instS := dead_bind dead_num dead_inst1
theorem sim_inst : Sim instS pInst := sim_bind sim_num (fun op => by
  unfold instK1
  split
  · exact sim_odd _ (by decide)
  split
  · exact sim_bind sim_wide (fun _ => sim_ret _) (fun _ => dead_ret _)
  split
  · exact sim_bind sim_num (fun _ => sim_bind sim_num (fun _ => sim_ret _) (fun _ => dead_ret _)) (fun _ => dead_bind dead_num fun _ => dead_ret _)
  split
  · exact sim_bind sim_text (fun _ => sim_ret _) (fun _ => dead_ret _)
  split
  · exact sim_bind sim_num (fun _ => sim_bind sim_text (fun _ => sim_ret _) (fun _ => dead_ret _)) (fun _ => dead_bind dead_text fun _ => dead_ret _)
  split
  · exact sim_bind sim_text (fun _ => sim_bind sim_args (fun _ => sim_ret _) (fun _ => dead_ret _)) (fun _ => dead_bind dead_args fun _ => dead_ret _)
  split
  · exact sim_bind sim_num (fun _ => sim_ret _) (fun _ => dead_ret _)
  · exact sim_ret _) dead_inst1
def blockK1 (params : Int) (ins : List Inst) (kind : Int) : SR Block :=
  if kind = 1 then sBind numS fun to => sBind argsS fun args => sRet ⟨params, ins, kind, 0, to, args, 0, []⟩
  else if kind = 2 then sBind numS fun ta => sBind numS fun to => sBind argsS fun args => sBind numS fun els => sBind argsS fun elses => sRet ⟨params, ins, kind, ta, to, args, els, elses⟩
  else if kind = 3 then sBind numS fun ta => sRet ⟨params, ins, kind, ta, 0, [], 0, []⟩
  else fun st => (⟨params, ins, kind, 0, 0, [], 0, []⟩, oddS st 3)
theorem dead_block1 (params : Int) (ins : List Inst) (kind : Int) : Dead (blockK1 params ins kind) := by
  unfold blockK1
  split
  · exact dead_bind dead_num fun _ => dead_bind dead_args fun _ => dead_ret _
  split
  · exact dead_bind dead_num fun _ => dead_bind dead_num fun _ => dead_bind dead_args fun _ => dead_bind dead_num fun _ => dead_bind dead_args fun _ => dead_ret _
  split
  · exact dead_bind dead_num fun _ => dead_ret _
  · exact dead_odd _ _
theorem dead_block : Dead blockS := dead_bind dead_num fun _ => dead_bind (dead_sev dead_inst 32) fun _ => dead_bind dead_num fun _ => dead_block1 _ _ _
theorem sim_block : Sim blockS pBlock := by
  refine sim_bind sim_num (fun params => sim_bind (sim_sev sim_inst dead_inst 32) (fun ins => sim_bind (g := blockK1 params ins) sim_num (fun kind => ?_) fun _ => dead_block1 _ _ _) fun _ => dead_bind dead_num fun _ => dead_block1 _ _ _) fun _ => dead_bind (dead_sev dead_inst 32) fun _ => dead_bind dead_num fun _ => dead_block1 _ _ _
  unfold blockK1
  split
  · exact sim_bind sim_num (fun _ => sim_bind sim_args (fun _ => sim_ret _) (fun _ => dead_ret _)) (fun _ => dead_bind dead_args fun _ => dead_ret _)
  split
  · exact sim_bind sim_num (fun _ => sim_bind sim_num (fun _ => sim_bind sim_args (fun _ => sim_bind sim_num (fun _ => sim_bind sim_args (fun _ => sim_ret _) (fun _ => dead_ret _)) (fun _ => dead_bind dead_args fun _ => dead_ret _)) (fun _ => dead_bind dead_num fun _ => dead_bind dead_args fun _ => dead_ret _)) (fun _ => dead_bind dead_args fun _ => dead_bind dead_num fun _ => dead_bind dead_args fun _ => dead_ret _)) (fun _ => dead_bind dead_num fun _ => dead_bind dead_args fun _ => dead_bind dead_num fun _ => dead_bind dead_args fun _ => dead_ret _)
  split
  · exact sim_bind sim_num (fun _ => sim_ret _) (fun _ => dead_ret _)
  · exact sim_odd _ (by decide)
theorem dead_func : Dead funcS := dead_bind dead_text fun _ => dead_bind dead_num fun _ => dead_bind dead_num fun _ => dead_bind (dead_sev dead_block 16) fun _ => dead_ret _
theorem sim_func : Sim funcS pFunc :=
  sim_bind sim_text (fun _ => sim_bind sim_num (fun _ => sim_bind sim_num (fun _ => sim_bind (sim_sev sim_block dead_block 16) (fun _ => sim_ret _) fun _ => dead_ret _) fun _ => dead_bind (dead_sev dead_block 16) fun _ => dead_ret _) fun _ => dead_bind dead_num fun _ => dead_bind (dead_sev dead_block 16) fun _ => dead_ret _) fun _ => dead_bind dead_num fun _ => dead_bind dead_num fun _ => dead_bind (dead_sev dead_block 16) fun _ => dead_ret _
def globK1 (name : ByteArray) (bind here : Int) : SR Glob := sBind (fun st => ((), if 1 < here then oddS st 3 else st)) fun _ => sBind wideS fun init => sRet ⟨name, bind, decide (here = 1), init⟩
theorem dead_glob1 (name : ByteArray) (bind here : Int) : Dead (globK1 name bind here) := dead_bind (fun st h => by
  show (if 1 < here then oddS st 3 else st).e = _
  split
  · rw [oddS_dead 3 h]
  · rfl) fun _ => dead_bind dead_wide fun _ => dead_ret _
theorem dead_glob : Dead globS := dead_bind dead_text fun _ => dead_bind dead_num fun _ => dead_bind dead_num fun _ => dead_glob1 _ _ _
theorem sim_glob : Sim globS pGlob := by
  refine sim_bind sim_text (fun name => sim_bind sim_num (fun bind => sim_bind (g := globK1 name bind) sim_num (fun here => ?_) fun _ => dead_glob1 _ _ _) fun _ => dead_bind dead_num fun _ => dead_glob1 _ _ _) fun _ => dead_bind dead_num fun _ => dead_bind dead_num fun _ => dead_glob1 _ _ _
  by_cases h : 1 < here
  · rw [if_pos h]
    intro st hs
    refine ⟨fun y t h' => (by cases h'), fun c' h' => ?_⟩
    cases h'
    refine ⟨by decide, ?_⟩
    have e : globK1 name bind here st = (sBind wideS fun init => sRet ⟨name, bind, decide (here = 1), init⟩) ⟨st.s, 3⟩ := by
      unfold globK1 sBind
      simp only
      rw [if_pos h, oddS_live 3 hs]
    rw [e]
    exact (dead_bind dead_wide fun _ => dead_ret _) ⟨st.s, 3⟩ (by simp)
  · rw [if_neg h]
    have e : globK1 name bind here = sBind wideS fun init => sRet ⟨name, bind, decide (here = 1), init⟩ := by
      funext st
      unfold globK1 sBind
      simp only
      rw [if_neg h]
    rw [e]
    exact sim_bind sim_wide (fun _ => sim_ret _) fun _ => dead_ret _
def modsS : SR Module := sBind (sevS 16 funcS) fun fs => sBind (sevS 16 globS) fun gs => sRet ⟨fs, gs⟩
theorem sim_mods : Sim modsS pMods := sim_bind (sim_sev sim_func dead_func 16) (fun _ => sim_bind (sim_sev sim_glob dead_glob 16) (fun _ => sim_ret _) fun _ => dead_ret _) fun _ => dead_bind (dead_sev dead_glob 16) fun _ => dead_ret _

end Go.Proofs.Ytciihchbiifgkaa
