/- Contracts by the evaluator: the reader of layer 6: numbers, texts. -/
import Derived.Test.YtciihchbiifgkaaTN
import Derived.Test.YtciihchbiifgkaaTX
namespace Go.Proofs.Ytciihchbiifgkaa
open Go.RowKit

/-- Where the reader is: the bytes left, what it couldn't. -/
structure RS where
  s : ByteArray
  e : Int
abbrev SR (α : Type) := RS → α × RS
def oddS (st : RS) (c : Int) : RS := if st.e = 0 then ⟨st.s, c⟩ else st
def sBind {α β : Type} (g : SR α) (h : α → SR β) : SR β := fun st => h (g st).1 (g st).2
def sRet {α : Type} (x : α) : SR α := fun st => (x, st)
def wideS : SR Nat := fun st => if st.e = 0 then (if (takeNum (bL st.s)).2.2 = 0 then ((takeNum (bL st.s)).1, ⟨⟨(takeNum (bL st.s)).2.1.toArray⟩, 0⟩) else (0, ⟨st.s, (takeNum (bL st.s)).2.2⟩)) else (0, st)
def mostS (n : Nat) : SR Int := sBind wideS fun v st => if n < v then (0, oddS st 4) else ((v : Int), st)
def numS : SR Int := mostS 4294967295
def textS : SR ByteArray := sBind (mostS 16) fun n st =>
  if (oddIf st n).e = 0 then ((oddIf st n).s.extract 0 n.toNat, ⟨(oddIf st n).s.extract n.toNat (oddIf st n).s.size, 0⟩) else (⟨#[]⟩, oddIf st n)
where oddIf (st : RS) (n : Int) : RS := if (st.s.size : Int) < n then oddS st 2 else st

def LR (st : RS) : List (Nat × AObj) := [(1000000, .box [.d (.str st.s), .d (.int st.e)])]
theorem hof_LR (st : RS) : hof (LR st) = hadd 1000000 (.box [.d (.str st.s), .d (.int st.e)]) hnil := rfl
theorem takeNum_pure (s : ByteArray) (hs : s.size ≤ 140737488355328) : APure Try.prog 15 [.str s] (.tup [.lit (.int .u64 (takeNum (bL s)).1), .str ⟨(takeNum (bL s)).2.1.toArray⟩, .int (takeNum (bL s)).2.2]) := by
  refine ⟨⟨_, _, Try.func15, by kernel_rfl, rfl⟩, fun X w vs _ hvs => ?_⟩
  obtain ⟨a0, r0, e0, h0, k0⟩ := hvs.uncons
  obtain rfl := k0.unnil
  cases h0
  obtain rfl : vs = #[.string s] := Array.toList_inj.1 e0
  refine (takeNum_as s w (by unfold maxLen; omega) (x := (takeNum (bL s)).1) (r := (takeNum (bL s)).2.1) (c := (takeNum (bL s)).2.2) rfl).mono ?_
  rintro e w' ⟨rfl, hw⟩
  exact ⟨hw, _, rfl, .tup [_, _, _] [_, _, _] rfl (fun i h h' => by
    have h : i < 3 := h
    rcases i with _ | _ | _ | i
    · exact .lit _
    · exact .lit _
    · exact .lit _
    · omega)⟩

set_option maxRecDepth 10000 in
theorem odd_eff (st : RS) (c : Int) : AEff Try.prog 40 [.ptr 1000000 0, .d (.int c)] (LR st) (.tup []) (LR (oddS st c)) := by
  refine aeffG _ _ Try.func40 (by kernel_rfl) t___bit_reader__odd u___bit_reader__odd rfl rfl (by simp [LR]) (by simp [LR, idsOk]) (fun hx => ?_)
  clear hx
  simp [c___bit_reader__odd, r___bit_reader__odd, hof_LR]
  refine ⟨fun h => ?_, fun h => ?_⟩
  · exact ⟨.none, by simp [LR, gE, oddS, h], by simp [LR, gE]⟩
  · exact ⟨.none, by simp [LR, gE, oddS, h], by simp [LR, gE]⟩

set_option maxRecDepth 10000 in
theorem wide_eff (st : RS) (hs : st.s.size ≤ 140737488355328) : AEff Try.prog 66 [.ptr 1000000 0] (LR st) (.lit (.int .u64 (wideS st).1)) (LR (wideS st).2) := by
  refine aeffG _ _ Try.func66 (by kernel_rfl) t___bit_reader__wide u___bit_reader__wide rfl rfl (by simp [LR]) (by simp [LR, idsOk]) (fun hx => ?_)
  clear hx
  simp [c___bit_reader__wide, r___bit_reader__wide, hof_LR]
  refine ⟨fun h => ?_, fun h => ?_⟩
  · have e : wideS st = (0, st) := by simp [wideS, h]
    rw [e]
    exact ⟨DLe.refl _, .none, by simp [LR, gE], by simp [LR, gE]⟩
  refine call_plain (ds := [.str st.s]) _ (by simp) (by simp) (fun _ => by simp) (fun _ => takeNum_pure _ hs) ?_
  simp
  refine ⟨fun hc => ?_, fun hc => ?_⟩
  · have hc' : ¬ (takeNum (bL st.s)).2.2 = 0 := by simpa using hc
    have e : wideS st = (0, oddS st (takeNum (bL st.s)).2.2) := by simp [wideS, h, hc', oddS]
    refine calle_k (odd_eff st (takeNum (bL st.s)).2.2) (tauW _) rfl [.ptr 1000000 0, .d (.int (takeNum (bL st.s)).2.2)] (by simp) (by simp) (by simp) (by simp [gOf, LR, tauW]) (by simp [gOf, LR, tauW]) (by simp [gOf, LR, tauW]) (by simp [LR, idsOk]) ?_
    rw [e]
    simp [LR, tauW]
    exact ⟨.none, by simp [gE], by simp [gE]⟩
  · have hc' : (takeNum (bL st.s)).2.2 = 0 := by simpa using hc
    have e : wideS st = ((takeNum (bL st.s)).1, ⟨⟨(takeNum (bL st.s)).2.1.toArray⟩, st.e⟩) := by simp [wideS, h, hc']
    rw [e]
    exact ⟨DLe.refl _, .none, by simp [LR, gE], by simp [LR, gE]⟩

theorem takeAt_len : ∀ (l : List UInt8) (i v : Nat), (takeAt i v l).2.1.length ≤ l.length := by
  intro l
  induction l with
  | nil => intro i v; unfold takeAt; simp
  | cons c l ih =>
    intro i v
    unfold takeAt
    split
    · simp
    split
    · simp
    split
    · split <;> simp
    · have := ih (i + 1) (v + c.toNat % 128 * 128 ^ i)
      simp only [List.length_cons]
      omega
theorem wideS_le (st : RS) : (wideS st).2.s.size ≤ st.s.size := by
  have h := takeAt_len (bL st.s) 0 0
  unfold wideS
  split
  · split
    · show (_ : List UInt8).toArray.size ≤ _
      rw [bL_length] at h
      simpa [takeNum] using h
    · exact Nat.le_refl _
  · exact Nat.le_refl _

set_option maxRecDepth 10000 in
theorem most_eff (st : RS) (n : Nat) (hn : n < 9223372036854775808) (hs : st.s.size ≤ 140737488355328) : AEff Try.prog 61 [.ptr 1000000 0, .d (.lit (.int .u64 n))] (LR st) (.int (mostS n st).1) (LR (mostS n st).2) := by
  refine aeffG _ _ Try.func61 (by kernel_rfl) t___bit_reader__most u___bit_reader__most rfl rfl (by simp [LR]) (by simp [LR, idsOk]) (fun hx => ?_)
  clear hx
  simp [c___bit_reader__most, r___bit_reader__most, hof_LR]
  refine calle_k (wide_eff st hs) (tauW _) rfl [.ptr 1000000 0] (by simp) (by simp) (by simp) (by simp [gOf, LR, tauW]) (by simp [gOf, LR, tauW]) (by simp [gOf, LR, tauW]) (by simp [LR, idsOk]) ?_
  simp [LR, tauW]
  have hle := wideS_le st
  refine ⟨fun h => ?_, fun h => ?_⟩
  · have e : mostS n st = (0, oddS (wideS st).2 4) := by simp [mostS, sBind, h]
    refine calle_k (odd_eff (wideS st).2 4) (tauW _) rfl [.ptr 1000000 0, .d (.int 4)] (by simp) (by simp) (by simp) (by simp [gOf, LR, tauW]) (by simp [gOf, LR, tauW]) (by simp [gOf, LR, tauW]) (by simp [LR, idsOk]) ?_
    rw [e]
    simp [LR, tauW]
    exact ⟨.none, by simp [gE], by simp [gE]⟩
  · have e : mostS n st = (((wideS st).1 : Int), (wideS st).2) := by simp [mostS, sBind, show ¬ n < (wideS st).1 by omega]
    rw [e, wrap_nat (by omega)]
    exact ⟨DLe.refl _, .none, by simp [gE], by simp [gE]⟩
theorem oddS_s (st : RS) (c : Int) : (oddS st c).s = st.s := by unfold oddS; split <;> rfl
theorem mostS_eq (n : Nat) (st : RS) : mostS n st = if n < (wideS st).1 then (0, oddS (wideS st).2 4) else (((wideS st).1 : Int), (wideS st).2) := rfl
theorem mostS_le (n : Nat) (st : RS) : (mostS n st).2.s.size ≤ st.s.size := by
  have := wideS_le st
  rw [mostS_eq]
  split
  · show (oddS _ _).s.size ≤ _; rw [oddS_s]; exact this
  · exact this
theorem mostS_rng (n : Nat) (st : RS) : 0 ≤ (mostS n st).1 ∧ (mostS n st).1 ≤ n := by
  rw [mostS_eq]
  split
  · exact ⟨Int.le_refl _, by show (0 : Int) ≤ n; omega⟩
  · rename_i h
    exact ⟨by show (0 : Int) ≤ ((wideS st).1 : Int); omega, by show ((wideS st).1 : Int) ≤ n; omega⟩

set_option maxRecDepth 10000 in
theorem num_eff (st : RS) (hs : st.s.size ≤ 140737488355328) : AEff Try.prog 63 [.ptr 1000000 0] (LR st) (.int (numS st).1) (LR (numS st).2) := by
  refine aeffG _ _ Try.func63 (by kernel_rfl) t___bit_reader__num u___bit_reader__num rfl rfl (by simp [LR]) (by simp [LR, idsOk]) (fun hx => ?_)
  clear hx
  simp [c___bit_reader__num, r___bit_reader__num, hof_LR]
  refine calle_k (most_eff st 4294967295 (by omega) hs) (tauW _) rfl [.ptr 1000000 0, .d (.lit (.int .u64 4294967295))] (by simp) (by simp) (by simp) (by simp [gOf, LR, tauW]) (by simp [gOf, LR, tauW]) (by simp [gOf, LR, tauW]) (by simp [LR, idsOk]) ?_
  simp [LR, tauW]
  exact ⟨DLe.refl _, .none, by simp [gE, numS], by simp [gE]⟩

set_option maxRecDepth 10000 in
theorem rtext_eff (st : RS) (hs : st.s.size ≤ 140737488355328) : AEff Try.prog 62 [.ptr 1000000 0] (LR st) (.str (textS st).1) (LR (textS st).2) := by
  refine aeffG _ _ Try.func62 (by kernel_rfl) t___bit_reader__text u___bit_reader__text rfl rfl (by simp [LR]) (by simp [LR, idsOk]) (fun hx => ?_)
  clear hx
  simp [c___bit_reader__text, r___bit_reader__text, hof_LR]
  refine calle_k (most_eff st 16 (by omega) hs) (tauW _) rfl [.ptr 1000000 0, .d (.lit (.int .u64 16))] (by simp) (by simp) (by simp) (by simp [gOf, LR, tauW]) (by simp [gOf, LR, tauW]) (by simp [gOf, LR, tauW]) (by simp [LR, idsOk]) ?_
  simp [LR, tauW]
  have hle := mostS_le 16 st
  obtain ⟨hr0, hr1⟩ := mostS_rng 16 st
  have e0 : textS st = if (textS.oddIf (mostS 16 st).2 (mostS 16 st).1).e = 0 then ((textS.oddIf (mostS 16 st).2 (mostS 16 st).1).s.extract 0 (mostS 16 st).1.toNat, ⟨(textS.oddIf (mostS 16 st).2 (mostS 16 st).1).s.extract (mostS 16 st).1.toNat (textS.oddIf (mostS 16 st).2 (mostS 16 st).1).s.size, 0⟩) else (⟨#[]⟩, textS.oddIf (mostS 16 st).2 (mostS 16 st).1) := rfl
  generalize hq : mostS 16 st = q at e0 hle hr0 hr1 ⊢
  obtain ⟨n, s1⟩ := q
  simp only at e0 hle hr0 hr1 ⊢
  refine ⟨fun h => ?_, fun h => ⟨fun he => ?_, fun he => ?_⟩⟩
  · have e1 : textS.oddIf s1 n = oddS s1 2 := by simp [textS.oddIf, h]
    have e2 : ¬ (oddS s1 2).e = 0 := by
      unfold oddS
      split
      · show ¬ (2 : Int) = 0; omega
      · rename_i h1; exact h1
    rw [e1, if_neg e2] at e0
    refine calle_k (odd_eff s1 2) (tauW _) rfl [.ptr 1000000 0, .d (.int 2)] (by simp) (by simp) (by simp) (by simp [gOf, LR, tauW]) (by simp [gOf, LR, tauW]) (by simp [gOf, LR, tauW]) (by simp [LR, idsOk]) ?_
    rw [e0]
    simp [LR, tauW]
    exact ⟨fun _ => ⟨.none, by simp [gE], by simp [gE]⟩, fun h => absurd h e2⟩
  · have e1 : textS.oddIf s1 n = s1 := by simp [textS.oddIf, show ¬ (s1.s.size : Int) < n by omega]
    rw [e1, if_neg he] at e0
    rw [e0]
    exact ⟨DLe.refl _, .none, by simp [gE], by simp [gE]⟩
  · have e1 : textS.oddIf s1 n = s1 := by simp [textS.oddIf, show ¬ (s1.s.size : Int) < n by omega]
    rw [e1, if_pos he] at e0
    rw [e0]
    exact ⟨⟨hr0, h⟩, DLe.refl _, .none, by simp [gE, he], by simp [gE]⟩

theorem oddIf_s (st : RS) (n : Int) : (textS.oddIf st n).s = st.s := by
  unfold textS.oddIf
  split
  · exact oddS_s _ _
  · rfl
theorem textS_le (st : RS) : (textS st).2.s.size ≤ st.s.size := by
  have h := mostS_le 16 st
  have h2 := oddIf_s (mostS 16 st).2 (mostS 16 st).1
  show (if (textS.oddIf (mostS 16 st).2 (mostS 16 st).1).e = 0 then _ else _ : ByteArray × RS).2.s.size ≤ _
  split
  · simp only [ByteArray.size_extract, h2]
    omega
  · show (textS.oddIf (mostS 16 st).2 (mostS 16 st).1).s.size ≤ _
    rw [h2]; exact h

/-- A row: so many, one by one; none, if one couldn't be taken. -/
def sRepA {α : Type} (one : SR α) : Nat → List α → SR (List α)
  | 0, acc => sRet acc
  | n + 1, acc => fun st => if (one st).2.e = 0 then sRepA one n (acc ++ [(one st).1]) (one st).2 else ([], (one st).2)
def sevS {α : Type} (most : Nat) (one : SR α) : SR (List α) := sBind (mostS most) fun n => sRepA one n.toNat []
def Le {α : Type} (one : SR α) : Prop := ∀ st, (one st).2.s.size ≤ st.s.size
theorem sRepA_le {α : Type} {one : SR α} (h : Le one) : ∀ (n : Nat) (acc : List α), Le (sRepA one n acc)
  | 0, _, st => Nat.le_refl _
  | n + 1, acc, st => by
    have h1 := h st
    have h2 := sRepA_le h n (acc ++ [(one st).1]) (one st).2
    show (if (one st).2.e = 0 then _ else _ : List α × RS).2.s.size ≤ _
    split
    · omega
    · exact h1
theorem sevS_le {α : Type} {one : SR α} (h : Le one) (most : Nat) : Le (sevS most one) := fun st => Nat.le_trans (sRepA_le h _ _ _) (mostS_le most st)
structure KR (α : Type) where
  k : Nat
  acc : List α
  st : RS

end Go.Proofs.Ytciihchbiifgkaa
