/- Plain layer 6: the document's reader is the plain parse. -/
import Derived.Test.YtciihchbiifgkaaT2
namespace Go.Proofs.Ytciihchbiifgkaa
open Go.RowKit

def badS (c : Int) : RS := ⟨⟨#[]⟩, c⟩
def wideR : SR Nat := fun st => if st.e = 0 then (if (takeNum (bL st.s)).2.2 = 0 then ((takeNum (bL st.s)).1, ⟨⟨(takeNum (bL st.s)).2.1.toArray⟩, 0⟩) else (0, badS (takeNum (bL st.s)).2.2)) else (0, st)
def mostR (n : Nat) : SR Int := sBind wideR fun v st => if st.e = 0 ∧ n < v then (0, badS 4) else ((v : Int), st)
def oneR : SR Int := mostR 4294967295
def word2 (n : Int) : SR ByteArray := fun st => if st.e = 0 then (if (st.s.size : Int) < n then (⟨#[]⟩, badS 2) else (st.s.extract 0 n.toNat, ⟨st.s.extract n.toNat st.s.size, 0⟩)) else (⟨#[]⟩, st)
def wordR : SR ByteArray := sBind (mostR 16) word2
def sRepR {α : Type} (one : SR α) : Nat → List α → SR (List α)
  | 0, acc => sRet acc
  | n + 1, acc => fun st => if st.e = 0 then sRepR one n (acc ++ [(one st).1]) (one st).2 else (acc, st)
def sevR {α : Type} (most : Nat) (one : SR α) : SR (List α) := sBind (mostR most) fun n => sRepR one n.toNat []
def argsR : SR (List Int) := sevR 6 oneR
def inst1R (op : Int) : SR Inst :=
  if op = 1 then sBind wideR fun k => sRet ⟨op, 0, 0, k, ⟨#[]⟩, []⟩
  else if op ≤ 11 then sBind oneR fun a => sBind oneR fun b => sRet ⟨op, a, b, 0, ⟨#[]⟩, []⟩
  else if op = 12 then sBind wordR fun s => sRet ⟨op, 0, 0, 0, s, []⟩
  else if op = 13 then sBind oneR fun a => sBind wordR fun s => sRet ⟨op, a, 0, 0, s, []⟩
  else if op = 14 then sBind wordR fun s => sBind argsR fun l => sRet ⟨op, 0, 0, 0, s, l⟩
  else if op = 16 then sBind oneR fun a => sRet ⟨op, a, 0, 0, ⟨#[]⟩, []⟩
  else sRet ⟨op, 0, 0, 0, ⟨#[]⟩, []⟩
def inst2R (op : Int) : SR Inst := fun st => if st.e = 0 then (if op < 1 ∨ 16 < op then (⟨op, 0, 0, 0, ⟨#[]⟩, []⟩, badS 3) else inst1R op st) else (⟨op, 0, 0, 0, ⟨#[]⟩, []⟩, st)
def instR : SR Inst := sBind oneR inst2R
def end1R (kind : Int) : SR Block :=
  if kind = 1 then sBind oneR fun to => sBind argsR fun args => sRet ⟨0, [], kind, 0, to, args, 0, []⟩
  else if kind = 2 then sBind oneR fun ta => sBind oneR fun to => sBind argsR fun args => sBind oneR fun els => sBind argsR fun elses => sRet ⟨0, [], kind, ta, to, args, els, elses⟩
  else sBind oneR fun ta => sRet ⟨0, [], kind, ta, 0, [], 0, []⟩
def end2R (kind : Int) : SR Block := fun st => if st.e = 0 then (if kind < 1 ∨ 3 < kind then (⟨0, [], kind, 0, 0, [], 0, []⟩, badS 3) else end1R kind st) else (⟨0, [], kind, 0, 0, [], 0, []⟩, st)
def endR : SR Block := sBind oneR end2R
def withT (params : Int) (ins : List Inst) (t : Block) : Block := ⟨params, ins, t.kind, t.ta, t.to, t.args, t.els, t.elses⟩
def blockR : SR Block := sBind oneR fun params => sBind (sevR 32 instR) fun ins => sBind endR fun t => sRet (withT params ins t)
def funcR : SR Func := sBind wordR fun name => sBind oneR fun bind => sBind oneR fun params => sBind (sevR 16 blockR) fun blocks => sRet ⟨name, bind, params, blocks⟩
def hereR (here : Int) : SR Unit := fun st => ((), if st.e = 0 ∧ 1 < here then badS 3 else st)
def globR : SR Glob := sBind wordR fun name => sBind oneR fun bind => sBind oneR fun here => sBind (hereR here) fun _ => sBind wideR fun init => sRet ⟨name, bind, decide (here = 1), init⟩
def modsR : SR Module := sBind (sevR 16 funcR) fun fs => sBind (sevR 16 globR) fun gs => sRet ⟨fs, gs⟩

theorem dead_wideR : Dead wideR := fun st h => by unfold wideR; rw [if_neg h]
theorem sim_wideR : Sim wideR pWide := fun st h => by
  unfold wideR pWide
  rw [if_pos h]
  rcases hq : takeNum (bL st.s) with ⟨x, r, c⟩
  cases c with
  | zero =>
    refine ⟨fun y t h' => ?_, fun c' h' => (by cases h')⟩
    cases h'
    rw [if_pos rfl]
    exact ⟨rfl, by simp [bL], rfl⟩
  | succ c =>
    refine ⟨fun y t h' => (by cases h'), fun c' h' => ?_⟩
    cases h'
    rw [if_neg (by simp)]
    exact ⟨by omega, rfl⟩
def most2R (n v : Nat) : SR Int := fun st => if st.e = 0 ∧ n < v then (0, badS 4) else ((v : Int), st)
theorem dead_most2R (n v : Nat) : Dead (most2R n v) := fun st h => by unfold most2R; rw [if_neg (fun hh => h hh.1)]
theorem dead_mostR (n : Nat) : Dead (mostR n) := dead_bind (g := most2R n) dead_wideR (dead_most2R n)
theorem sim_mostR (n : Nat) : Sim (mostR n) (pMost n) := sim_bind (g := most2R n) sim_wideR (fun v st h => by
  unfold most2R
  by_cases c : n < v
  · rw [if_pos c, if_pos ⟨h, c⟩]
    refine ⟨fun y t h' => (by cases h'), fun c' h' => ?_⟩
    cases h'
    exact ⟨by decide, rfl⟩
  · rw [if_neg c, if_neg (fun hh => c hh.2)]
    exact sim_ret _ st h) (dead_most2R n)
theorem dead_oneR : Dead oneR := dead_mostR _
theorem sim_oneR : Sim oneR pNum := sim_mostR _
theorem dead_word2 (n : Int) : Dead (word2 n) := fun st h => by unfold word2; rw [if_neg h]
theorem dead_wordR : Dead wordR := dead_bind (dead_mostR 16) dead_word2
theorem sim_wordR : Sim wordR pText := sim_bind (sim_mostR 16) (fun n st h => by
  unfold word2
  rw [if_pos h]
  by_cases hn : (st.s.size : Int) < n
  · have c2 : (bL st.s).length < n.toNat := by rw [bL_length]; omega
    simp only [if_pos hn, if_pos c2]
    refine ⟨fun y t h' => (by cases h'), fun c' h' => ?_⟩
    cases h'
    exact ⟨by decide, rfl⟩
  · have c2 : ¬ (bL st.s).length < n.toNat := by rw [bL_length]; omega
    simp only [if_neg hn, if_neg c2]
    refine ⟨fun y t h' => ?_, fun c' h' => (by cases h')⟩
    cases h'
    exact ⟨bL_take _ _, bL_drop _ _, trivial⟩) dead_word2
theorem dead_repR {α : Type} {one : SR α} (h : Dead one) : ∀ (n : Nat) (acc : List α), Dead (sRepR one n acc)
  | 0, _ => fun _ _ => rfl
  | n + 1, acc => fun st hs => by unfold sRepR; rw [if_neg hs]
theorem sim_repR {α : Type} {one : SR α} {p : PR α} (h : Sim one p) (hd : Dead one) : ∀ (n : Nat) (acc : List α), Sim (sRepR one n acc) (pBind (pRep p n) fun xs => pRet (acc ++ xs))
  | 0, acc => fun st hs => by
    unfold pBind pRep pRet
    refine ⟨fun y t h' => ?_, fun c' h' => (by cases h')⟩
    simp only [List.append_nil] at h'
    cases h'
    exact ⟨rfl, rfl, hs⟩
  | n + 1, acc => fun st hs => by
    have h1 := h st hs
    have e0 : sRepR one (n + 1) acc st = if st.e = 0 then sRepR one n (acc ++ [(one st).1]) (one st).2 else (acc, st) := rfl
    have e1 : (pBind (pRep p (n + 1)) fun xs => pRet (acc ++ xs)) (bL st.s) = (pBind p fun x => pBind (pRep p n) fun xs => pRet (acc ++ [x] ++ xs)) (bL st.s) := by
      unfold pBind
      rw [pRep]
      unfold pBind pRet
      cases p (bL st.s) with
      | error c => rfl
      | ok v =>
        obtain ⟨x, r⟩ := v
        simp only
        cases pRep p n r with
        | error c => rfl
        | ok v => simp
    rw [e0, e1, if_pos hs]
    unfold pBind
    cases hp : p (bL st.s) with
    | error c =>
      obtain ⟨hc, he⟩ := h1.2 c hp
      refine ⟨fun y t h' => (by cases h'), fun c' h' => ?_⟩
      cases h'
      exact ⟨hc, (dead_repR hd n _ _ (by rw [he]; exact hc)).trans he⟩
    | ok v =>
      obtain ⟨x, r⟩ := v
      obtain ⟨q1, q2, q3⟩ := h1.1 x r hp
      rw [q1]
      have h2 := sim_repR h hd n (acc ++ [x]) (one st).2 q3
      rw [q2] at h2
      exact h2
theorem sim_sevR {α : Type} {one : SR α} {p : PR α} (h : Sim one p) (hd : Dead one) (most : Nat) : Sim (sevR most one) (pSev most p) := by
  refine sim_bind (sim_mostR most) (fun n => ?_) (fun n => dead_repR hd _ _)
  have h1 := sim_repR h hd n.toNat []
  have e : (pBind (pRep p n.toNat) fun xs => pRet ([] ++ xs)) = pRep p n.toNat := by
    funext l
    unfold pBind pRet
    cases pRep p n.toNat l with
    | error c => rfl
    | ok v => rfl
  rw [e] at h1
  exact h1
theorem dead_sevR {α : Type} {one : SR α} (hd : Dead one) (most : Nat) : Dead (sevR most one) := dead_bind (dead_mostR most) fun _ => dead_repR hd _ _
theorem sim_argsR : Sim argsR pArgs := sim_sevR sim_oneR dead_oneR 6
theorem dead_argsR : Dead argsR := dead_sevR dead_oneR 6
theorem dead_inst2R (op : Int) : Dead (inst2R op) := fun st h => by unfold inst2R; rw [if_neg h]
theorem dead_instR : Dead instR := dead_bind dead_oneR dead_inst2R
theorem sim_instR : Sim instR pInst := sim_bind sim_oneR (fun op => by
  by_cases c0 : op < 1 ∨ 16 < op
  · rw [if_pos c0]
    intro st hs
    unfold inst2R
    rw [if_pos hs, if_pos c0]
    refine ⟨fun y t h' => (by cases h'), fun c' h' => ?_⟩
    cases h'
    exact ⟨by decide, rfl⟩
  · rw [if_neg c0]
    intro st hs
    unfold inst2R
    rw [if_pos hs, if_neg c0]
    revert st
    show Sim (inst1R op) _
    unfold inst1R
    split
    · exact sim_bind sim_wideR (fun _ => sim_ret _) (fun _ => dead_ret _)
    split
    · exact sim_bind sim_oneR (fun _ => sim_bind sim_oneR (fun _ => sim_ret _) (fun _ => dead_ret _)) (fun _ => dead_bind dead_oneR fun _ => dead_ret _)
    split
    · exact sim_bind sim_wordR (fun _ => sim_ret _) (fun _ => dead_ret _)
    split
    · exact sim_bind sim_oneR (fun _ => sim_bind sim_wordR (fun _ => sim_ret _) (fun _ => dead_ret _)) (fun _ => dead_bind dead_wordR fun _ => dead_ret _)
    split
    · exact sim_bind sim_wordR (fun _ => sim_bind sim_argsR (fun _ => sim_ret _) (fun _ => dead_ret _)) (fun _ => dead_bind dead_argsR fun _ => dead_ret _)
    split
    · exact sim_bind sim_oneR (fun _ => sim_ret _) (fun _ => dead_ret _)
    · exact sim_ret _) dead_inst2R

def tail2R (params : Int) (ins : List Inst) (kind : Int) : SR Block := sBind (end2R kind) fun t => sRet (withT params ins t)
theorem dead_end2R (kind : Int) : Dead (end2R kind) := fun st h => by unfold end2R; rw [if_neg h]
theorem dead_endR : Dead endR := dead_bind dead_oneR dead_end2R
theorem dead_tail2R (params : Int) (ins : List Inst) (kind : Int) : Dead (tail2R params ins kind) := dead_bind (dead_end2R kind) fun _ => dead_ret _
theorem dead_blockR : Dead blockR := dead_bind dead_oneR fun _ => dead_bind (dead_sevR dead_instR 32) fun _ => dead_bind dead_endR fun _ => dead_ret _
theorem sim_tailR (params : Int) (ins : List Inst) : Sim (sBind endR fun t => sRet (withT params ins t)) (pBind pNum fun kind =>
  if kind = 1 then pBind pNum fun to => pBind pArgs fun args => pRet ⟨params, ins, kind, 0, to, args, 0, []⟩
  else if kind = 2 then pBind pNum fun ta => pBind pNum fun to => pBind pArgs fun args => pBind pNum fun els => pBind pArgs fun elses => pRet ⟨params, ins, kind, ta, to, args, els, elses⟩
  else if kind = 3 then pBind pNum fun ta => pRet ⟨params, ins, kind, ta, 0, [], 0, []⟩
  else pErr 3) := by
  show Sim (sBind oneR fun kind => tail2R params ins kind) _
  refine sim_bind sim_oneR (fun kind => ?_) (dead_tail2R params ins)
  by_cases c0 : kind < 1 ∨ 3 < kind
  · rw [if_neg (by omega), if_neg (by omega), if_neg (by omega)]
    intro st hs
    refine ⟨fun y t h' => (by cases h'), fun c' h' => ?_⟩
    cases h'
    have e : tail2R params ins kind st = (withT params ins ⟨0, [], kind, 0, 0, [], 0, []⟩, badS 3) := by
      unfold tail2R sBind end2R
      rw [if_pos hs, if_pos c0]
      rfl
    rw [e]
    exact ⟨by decide, rfl⟩
  · have key : ∀ f : SR Block, Sim f (if kind = 1 then pBind pNum fun to => pBind pArgs fun args => pRet ⟨params, ins, kind, 0, to, args, 0, []⟩
        else if kind = 2 then pBind pNum fun ta => pBind pNum fun to => pBind pArgs fun args => pBind pNum fun els => pBind pArgs fun elses => pRet ⟨params, ins, kind, ta, to, args, els, elses⟩
        else if kind = 3 then pBind pNum fun ta => pRet ⟨params, ins, kind, ta, 0, [], 0, []⟩
        else pErr 3) → (∀ st : RS, st.e = 0 → tail2R params ins kind st = f st) → Sim (tail2R params ins kind) (if kind = 1 then pBind pNum fun to => pBind pArgs fun args => pRet ⟨params, ins, kind, 0, to, args, 0, []⟩
        else if kind = 2 then pBind pNum fun ta => pBind pNum fun to => pBind pArgs fun args => pBind pNum fun els => pBind pArgs fun elses => pRet ⟨params, ins, kind, ta, to, args, els, elses⟩
        else if kind = 3 then pBind pNum fun ta => pRet ⟨params, ins, kind, ta, 0, [], 0, []⟩
        else pErr 3) := fun f hf he st hs => by rw [he st hs]; exact hf st hs
    have h2 : ∀ st : RS, st.e = 0 → tail2R params ins kind st = (sBind (end1R kind) fun t => sRet (withT params ins t)) st := fun st hs => by
      unfold tail2R sBind end2R
      rw [if_pos hs, if_neg c0]
    refine key _ ?_ h2
    by_cases c1 : kind = 1
    · rw [if_pos c1]
      have e : (sBind (end1R kind) fun t => sRet (withT params ins t)) = sBind oneR fun to => sBind argsR fun args => sRet ⟨params, ins, kind, 0, to, args, 0, []⟩ := by unfold end1R; rw [if_pos c1]; rfl
      rw [e]
      exact sim_bind sim_oneR (fun _ => sim_bind sim_argsR (fun _ => sim_ret _) (fun _ => dead_ret _)) (fun _ => dead_bind dead_argsR fun _ => dead_ret _)
    rw [if_neg c1]
    by_cases c2 : kind = 2
    · rw [if_pos c2]
      have e : (sBind (end1R kind) fun t => sRet (withT params ins t)) = sBind oneR fun ta => sBind oneR fun to => sBind argsR fun args => sBind oneR fun els => sBind argsR fun elses => sRet ⟨params, ins, kind, ta, to, args, els, elses⟩ := by unfold end1R; rw [if_neg c1, if_pos c2]; rfl
      rw [e]
      exact sim_bind sim_oneR (fun _ => sim_bind sim_oneR (fun _ => sim_bind sim_argsR (fun _ => sim_bind sim_oneR (fun _ => sim_bind sim_argsR (fun _ => sim_ret _) (fun _ => dead_ret _)) (fun _ => dead_bind dead_argsR fun _ => dead_ret _)) (fun _ => dead_bind dead_oneR fun _ => dead_bind dead_argsR fun _ => dead_ret _)) (fun _ => dead_bind dead_argsR fun _ => dead_bind dead_oneR fun _ => dead_bind dead_argsR fun _ => dead_ret _)) (fun _ => dead_bind dead_oneR fun _ => dead_bind dead_argsR fun _ => dead_bind dead_oneR fun _ => dead_bind dead_argsR fun _ => dead_ret _)
    · rw [if_neg c2, if_pos (by omega)]
      have e : (sBind (end1R kind) fun t => sRet (withT params ins t)) = sBind oneR fun ta => sRet ⟨params, ins, kind, ta, 0, [], 0, []⟩ := by unfold end1R; rw [if_neg c1, if_neg c2]; rfl
      rw [e]
      exact sim_bind sim_oneR (fun _ => sim_ret _) (fun _ => dead_ret _)
theorem sim_blockR : Sim blockR pBlock :=
  sim_bind sim_oneR (fun params => sim_bind (sim_sevR sim_instR dead_instR 32) (fun ins => sim_tailR params ins) fun _ => dead_bind dead_endR fun _ => dead_ret _) fun _ => dead_bind (dead_sevR dead_instR 32) fun _ => dead_bind dead_endR fun _ => dead_ret _
theorem dead_funcR : Dead funcR := dead_bind dead_wordR fun _ => dead_bind dead_oneR fun _ => dead_bind dead_oneR fun _ => dead_bind (dead_sevR dead_blockR 16) fun _ => dead_ret _
theorem sim_funcR : Sim funcR pFunc :=
  sim_bind sim_wordR (fun _ => sim_bind sim_oneR (fun _ => sim_bind sim_oneR (fun _ => sim_bind (sim_sevR sim_blockR dead_blockR 16) (fun _ => sim_ret _) fun _ => dead_ret _) fun _ => dead_bind (dead_sevR dead_blockR 16) fun _ => dead_ret _) fun _ => dead_bind dead_oneR fun _ => dead_bind (dead_sevR dead_blockR 16) fun _ => dead_ret _) fun _ => dead_bind dead_oneR fun _ => dead_bind dead_oneR fun _ => dead_bind (dead_sevR dead_blockR 16) fun _ => dead_ret _
def glob1R (name : ByteArray) (bind here : Int) : SR Glob := sBind (hereR here) fun _ => sBind wideR fun init => sRet ⟨name, bind, decide (here = 1), init⟩
theorem dead_hereR (here : Int) : Dead (hereR here) := fun st h => by unfold hereR; rw [if_neg (fun hh => h hh.1)]
theorem dead_glob1R (name : ByteArray) (bind here : Int) : Dead (glob1R name bind here) := dead_bind (dead_hereR here) fun _ => dead_bind dead_wideR fun _ => dead_ret _
theorem dead_globR : Dead globR := dead_bind dead_wordR fun _ => dead_bind dead_oneR fun _ => dead_bind dead_oneR fun _ => dead_glob1R _ _ _
theorem sim_globR : Sim globR pGlob := by
  refine sim_bind sim_wordR (fun name => sim_bind sim_oneR (fun bind => sim_bind (g := glob1R name bind) sim_oneR (fun here => ?_) fun _ => dead_glob1R _ _ _) fun _ => dead_bind dead_oneR fun _ => dead_glob1R _ _ _) fun _ => dead_bind dead_oneR fun _ => dead_bind dead_oneR fun _ => dead_glob1R _ _ _
  intro st hs
  by_cases h : 1 < here
  · rw [if_pos h]
    refine ⟨fun y t h' => (by cases h'), fun c' h' => ?_⟩
    cases h'
    refine ⟨by decide, ?_⟩
    have e : glob1R name bind here st = (sBind wideR fun init => sRet ⟨name, bind, decide (here = 1), init⟩) (badS 3) := by
      unfold glob1R hereR sBind
      simp only
      rw [if_pos ⟨hs, h⟩]
    rw [e]
    exact (dead_bind dead_wideR fun _ => dead_ret _) (badS 3) (show (3 : Int) ≠ 0 by decide)
  · rw [if_neg h]
    have e : glob1R name bind here st = (sBind wideR fun init => sRet ⟨name, bind, decide (here = 1), init⟩) st := by
      unfold glob1R hereR sBind
      simp only
      rw [if_neg (fun hh => h hh.2)]
    rw [e]
    exact sim_bind sim_wideR (fun _ => sim_ret _) (fun _ => dead_ret _) st hs
theorem sim_modsR : Sim modsR pMods := sim_bind (sim_sevR sim_funcR dead_funcR 16) (fun _ => sim_bind (sim_sevR sim_globR dead_globR 16) (fun _ => sim_ret _) fun _ => dead_ret _) fun _ => dead_bind (dead_sevR dead_globR 16) fun _ => dead_ret _

end Go.Proofs.Ytciihchbiifgkaa
