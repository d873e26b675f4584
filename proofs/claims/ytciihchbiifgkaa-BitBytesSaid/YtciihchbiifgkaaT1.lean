/- Plain layer 6: what a reader gives fits; contracts by the evaluator: the beginning. -/
import Derived.Test.YtciihchbiifgkaaTZ
import Derived.Test.YtciihchbiifgkaaLD
namespace Go.Proofs.Ytciihchbiifgkaa
open Go.RowKit

/-- Whatever it reads is so. -/
def Gv {α : Type} (f : SR α) (P : α → Prop) : Prop := ∀ st, P (f st).1
theorem res_bind {α β : Type} {f : SR α} {g : α → SR β} {P : α → Prop} {Q : β → Prop} (hf : Gv f P) (hg : ∀ x, P x → Gv (g x) Q) : Gv (sBind f g) Q := fun st => hg _ (hf st) _
theorem res_ret {α : Type} {x : α} {P : α → Prop} (h : P x) : Gv (sRet x) P := fun _ => h
theorem res_any {α : Type} (f : SR α) : Gv f (fun _ => True) := fun _ => trivial
theorem res_rep {α : Type} {one : SR α} {P : α → Prop} (h : Gv one P) : ∀ (n : Nat) (acc : List α), (∀ x ∈ acc, P x) → Gv (sRepA one n acc) (fun l => l.length ≤ acc.length + n ∧ ∀ x ∈ l, P x)
  | 0, acc, ha => fun _ => ⟨Nat.le_refl _, ha⟩
  | n + 1, acc, ha => fun st => by
    have e0 : sRepA one (n + 1) acc st = if (one st).2.e = 0 then sRepA one n (acc ++ [(one st).1]) (one st).2 else ([], (one st).2) := rfl
    rw [e0]
    split
    · have h1 := res_rep h n (acc ++ [(one st).1]) (fun x hx => by
        rcases List.mem_append.1 hx with hx | hx
        · exact ha x hx
        · rw [List.mem_singleton.1 hx]; exact h st) (one st).2
      simp only [List.length_append, List.length_singleton] at h1
      exact ⟨by omega, h1.2⟩
    · exact ⟨by simp, fun x hx => by cases hx⟩
theorem res_most (n : Nat) : Gv (mostS n) (fun x => 0 ≤ x ∧ x ≤ n) := fun st => mostS_rng n st
theorem res_sev {α : Type} {one : SR α} {P : α → Prop} (h : Gv one P) (most : Nat) : Gv (sevS most one) (fun l => l.length ≤ most ∧ ∀ x ∈ l, P x) := res_bind (res_most most) fun n hn st => by
  have h1 := res_rep h n.toNat [] (fun x hx => by cases hx) st
  simp only [List.length_nil] at h1
  exact ⟨by omega, h1.2⟩
theorem res_args : Gv argsS (fun l => l.length ≤ 6) := fun st => (res_sev (res_any numS) 6 st).1
theorem res_wide : Gv wideS (· < 18446744073709551616) := fun st => by
  unfold wideS
  split
  · split
    · exact takeNum_lt (l := bL st.s) (x := (takeNum (bL st.s)).1) (r := (takeNum (bL st.s)).2.1) (c := (takeNum (bL st.s)).2.2) rfl
    · show 0 < _; omega
  · show 0 < _; omega
def instF (i : Inst) : Prop := i.args.length ≤ 6 ∧ instK i
theorem res_inst : Gv instS instF := res_bind (res_any numS) fun op _ => by
  have h0 : (0 : Nat) < 18446744073709551616 := by omega
  unfold instK1
  split
  · exact fun st => ⟨by show 0 ≤ 6; omega, h0⟩
  split
  · exact res_bind res_wide fun k hk => res_ret ⟨by show 0 ≤ 6; omega, hk⟩
  split
  · exact res_bind (res_any _) fun _ _ => res_bind (res_any _) fun _ _ => res_ret ⟨by show 0 ≤ 6; omega, h0⟩
  split
  · exact res_bind (res_any _) fun _ _ => res_ret ⟨by show 0 ≤ 6; omega, h0⟩
  split
  · exact res_bind (res_any _) fun _ _ => res_bind (res_any _) fun _ _ => res_ret ⟨by show 0 ≤ 6; omega, h0⟩
  split
  · exact res_bind (res_any _) fun _ _ => res_bind res_args fun _ hl => res_ret ⟨hl, h0⟩
  split
  · exact res_bind (res_any _) fun _ _ => res_ret ⟨by show 0 ≤ 6; omega, h0⟩
  · exact res_ret ⟨by show 0 ≤ 6; omega, h0⟩
def blockF (b : Block) : Prop := ∀ i ∈ b.ins, instF i
theorem res_block : Gv blockS blockF := res_bind (res_any numS) fun _ _ => res_bind (res_sev res_inst 32) fun ins hi => res_bind (res_any _) fun kind _ => by
  split
  · exact res_bind (res_any _) fun _ _ => res_bind (res_any _) fun _ _ => res_ret hi.2
  split
  · exact res_bind (res_any _) fun _ _ => res_bind (res_any _) fun _ _ => res_bind (res_any _) fun _ _ => res_bind (res_any _) fun _ _ => res_bind (res_any _) fun _ _ => res_ret hi.2
  split
  · exact res_bind (res_any _) fun _ _ => res_ret hi.2
  · exact fun _ => hi.2
theorem res_func : Gv funcS (fun f => ∀ b ∈ f.blocks, blockF b) := res_bind (res_any _) fun _ _ => res_bind (res_any _) fun _ _ => res_bind (res_any _) fun _ _ => res_bind (res_sev res_block 16) fun _ hb => res_ret hb.2
theorem res_glob : Gv globS globK := res_bind (res_any _) fun _ _ => res_bind (res_any _) fun _ _ => res_bind (res_any _) fun _ _ => res_bind (res_any _) fun _ _ => res_bind res_wide fun _ h => res_ret h
theorem res_mods : Gv modsS BitFit := res_bind (res_sev res_func 16) fun fs hf => res_bind (res_sev res_glob 16) fun gs hg => res_ret ⟨fun f h1 b h2 i h3 => by
  have := (hf.2 f h1 b h2 i h3).1
  omega, fun f h1 b h2 i h3 => (hf.2 f h1 b h2 i h3).2, fun g h => hg.2 g h⟩

def cutB (s p : ByteArray) : Bool := decide (p.size ≤ s.size) && decide (s.extract 0 p.size = p)
set_option maxRecDepth 10000 in
theorem hasPrefix_pure (s p : ByteArray) (hs : s.size ≤ 140737488355328) (hp : p.size ≤ 140737488355328) : APure Try.prog 81 [.str s, .str p] (.bool (cutB s p)) := by
  refine apureG _ _ Try.func81 (by kernel_rfl) t_internal_stringslite_HasPrefix u_internal_stringslite_HasPrefix rfl rfl (fun hx => ?_)
  clear hx
  simp [c_internal_stringslite_HasPrefix, r_internal_stringslite_HasPrefix]
  exact DLe.refl _
def cutD (s p : ByteArray) : ByteArray := if cutB s p = true then s.extract p.size s.size else s
set_option maxRecDepth 10000 in
theorem cutPrefix0_pure (s p : ByteArray) (hs : s.size ≤ 140737488355328) (hp : p.size ≤ 140737488355328) : APure Try.prog 60 [.str s, .str p] (.tup [.str (cutD s p), .bool (cutB s p)]) := by
  refine apureG _ _ Try.func60 (by kernel_rfl) t_internal_stringslite_CutPrefix u_internal_stringslite_CutPrefix rfl rfl (fun hx => ?_)
  clear hx
  simp [c_internal_stringslite_CutPrefix, r_internal_stringslite_CutPrefix]
  refine call_plain (ds := [.str s, .str p]) _ (by simp) (by simp) (fun _ => by simp) (fun _ => hasPrefix_pure s p hs hp) ?_
  simp
  refine ⟨fun h => ?_, fun h => ⟨?_, ?_⟩⟩
  · rw [show cutD s p = s by simp [cutD, h], h]; exact DLe.refl _
  · have h' := h
    unfold cutB at h'
    simp only [Bool.and_eq_true, decide_eq_true_eq] at h'
    exact h'.1
  · rw [show cutD s p = s.extract p.size s.size by simp [cutD, h], h]; exact DLe.refl _
set_option maxRecDepth 10000 in
theorem cutPrefix_pure (s p : ByteArray) (hs : s.size ≤ 140737488355328) (hp : p.size ≤ 140737488355328) : APure Try.prog 35 [.str s, .str p] (.tup [.str (cutD s p), .bool (cutB s p)]) := by
  refine apureG _ _ Try.func35 (by kernel_rfl) t_strings_CutPrefix u_strings_CutPrefix rfl rfl (fun hx => ?_)
  clear hx
  simp [c_strings_CutPrefix, r_strings_CutPrefix]
  refine call_plain (ds := [.str s, .str p]) _ (by simp) (by simp) (fun _ => by simp) (fun _ => cutPrefix0_pure s p hs hp) ?_
  simp

/-- What is taken of so many bytes: the state at the end. -/
def takeQ (s : ByteArray) : Module × RS := modsS ⟨cutD s magicB, 0⟩
def takeA (s : ByteArray) : RS := if (takeQ s).2.s = ⟨#[]⟩ then (takeQ s).2 else oddS (takeQ s).2 3
def takeB (s : ByteArray) : RS := if (takeA s).e = 0 then oddS (takeA s) (checkE (takeQ s).1) else takeA s
def takeC (s : ByteArray) : RS := if 65535 < s.size then oddS (takeB s) 4 else takeB s
def takeE (s : ByteArray) : Int := if cutB s magicB = true then (takeC s).e else 3
def takeM (s : ByteArray) : Module := if cutB s magicB = true ∧ (takeC s).e = 0 then (takeQ s).1 else ⟨[], []⟩

def tauT (n : Nat) : Nat → Nat := fun i => if i = 999999 then n else if i = 1000000 then 13 else i
theorem cutD_le (s p : ByteArray) : (cutD s p).size ≤ s.size := by
  unfold cutD
  split
  · rw [ByteArray.size_extract]; omega
  · exact Nat.le_refl _
set_option maxRecDepth 10000 in
theorem take_pure (s : ByteArray) (hs : s.size ≤ 140737488355328) : APure Try.prog 12 [.str s] (.tup [.agg (moduleC (takeM s)), .int (takeE s)]) := by
  refine apureG _ _ Try.func12 (by kernel_rfl) t_bit_Take u_bit_Take rfl rfl (fun hx => ?_)
  clear hx
  simp [c_bit_Take, r_bit_Take]
  refine call_plain (ds := [.str s, .str magicB]) _ (by simp) (by simp) (fun _ => by simp; rfl) (fun _ => cutPrefix_pure s magicB hs (by decide)) ?_
  simp
  refine ⟨fun h => ?_, fun h => ?_⟩
  · rw [show takeM s = ⟨[], []⟩ by simp [takeM, h], show takeE s = 3 by simp [takeE, h]]
    exact DLe_tup ⟨DLe_agg ⟨funcsD_nil, globsD_nil, trivial⟩, DLe.refl _, trivial⟩
  have hcut := cutD_le s magicB
  have hF := sevS_le funcS_le 16 ⟨cutD s magicB, 0⟩
  simp only at hF
  refine calle_k (sevFunc_eff ⟨cutD s magicB, 0⟩ 16 (by omega) 37 funcS funcS_le rfun_eff (by show (cutD s magicB).size ≤ _; omega)) (tauT _) rfl [.ptr 13 0, .d (.lit (.int .u64 16)), .bm 37 (.ptr 13 0)] (by simp) (by simp) (by simp) (by simp [gOf, LR, tauT]) (by simp [gOf, LR, tauT]) (by simp [gOf, LR, tauT]) (by simp [LR, idsOk]) ?_
  simp [LR, tauT]
  have hQ : takeQ s = (⟨(sevS 16 funcS ⟨cutD s magicB, 0⟩).1, (sevS 16 globS (sevS 16 funcS ⟨cutD s magicB, 0⟩).2).1⟩, (sevS 16 globS (sevS 16 funcS ⟨cutD s magicB, 0⟩).2).2) := rfl
  have hfit : BitFit (takeQ s).1 := res_mods _
  generalize sevS 16 funcS ⟨cutD s magicB, 0⟩ = q1 at hQ hF ⊢
  obtain ⟨fs, s1⟩ := q1
  simp only at hQ hF ⊢
  refine calle_k (sevGlob_eff s1 16 (by omega) 39 globS globS_le rglob_eff (by omega)) (tauT _) rfl [.ptr 13 0, .d (.lit (.int .u64 16)), .bm 39 (.ptr 13 0)] (by simp) (by simp) (by simp) (by simp [gOf, LR, tauT]) (by simp [gOf, LR, tauT]) (by simp [gOf, LR, tauT]) (by simp [LR, idsOk]) ?_
  simp [LR, tauT]
  generalize sevS 16 globS s1 = q2 at hQ ⊢
  obtain ⟨gs, q⟩ := q2
  simp only at hQ ⊢
  rw [hQ] at hfit
  simp only at hfit
  refine ⟨fun hA => ?_, fun hA => ?_⟩
  · have hA' : takeA s = oddS q 3 := by unfold takeA; rw [hQ]; exact if_neg hA
    refine calle_k (odd_eff q 3) (tauT _) rfl [.ptr 13 0, .d (.int 3)] (by simp) (by simp) (by simp) (by simp [gOf, LR, tauT]) (by simp [gOf, LR, tauT]) (by simp [gOf, LR, tauT]) (by simp [LR, idsOk]) ?_
    simp [LR, tauT]
    generalize oddS q 3 = a at hA' ⊢
    refine ⟨fun hB => ?_, fun hB => ?_⟩
    · have hB' : takeB s = oddS a (checkE ⟨fs, gs⟩) := by unfold takeB; rw [hA', if_pos hB, hQ]
      refine call_plain (ds := [.agg (moduleC ⟨fs, gs⟩)]) _ (by simp) (by simp) (fun _ => by simp; rfl) (fun _ => check_pure ⟨fs, gs⟩ hfit.args) ?_
      simp
      refine calle_k (odd_eff a (checkE ⟨fs, gs⟩)) (tauT _) rfl [.ptr 13 0, .d (.int (checkE ⟨fs, gs⟩))] (by simp) (by simp) (by simp) (by simp [gOf, LR, tauT]) (by simp [gOf, LR, tauT]) (by simp [gOf, LR, tauT]) (by simp [LR, idsOk]) ?_
      simp [LR, tauT]
      generalize oddS a (checkE ⟨fs, gs⟩) = b at hB' ⊢
      refine ⟨fun hC => ?_, fun hC => ?_⟩
      · have hC' : takeC s = oddS b 4 := by unfold takeC; rw [hB', if_pos (by omega)]
        refine calle_k (odd_eff b 4) (tauT _) rfl [.ptr 13 0, .d (.int 4)] (by simp) (by simp) (by simp) (by simp [gOf, LR, tauT]) (by simp [gOf, LR, tauT]) (by simp [gOf, LR, tauT]) (by simp [LR, idsOk]) ?_
        simp [LR, tauT]
        generalize oddS b 4 = c at hC' ⊢
        refine ⟨fun hD => ?_, fun hD => ?_⟩
        · rw [show takeM s = ⟨[], []⟩ by unfold takeM; rw [if_neg (by rw [hC']; intro hh; exact hD hh.2)], show takeE s = c.e by unfold takeE; rw [if_pos h, hC']]
          exact DLe_tup ⟨DLe_agg ⟨funcsD_nil, globsD_nil, trivial⟩, DLe.refl _, trivial⟩
        · rw [show takeM s = ⟨fs, gs⟩ by unfold takeM; rw [if_pos ⟨h, by rw [hC']; exact hD⟩, hQ], show takeE s = 0 by unfold takeE; rw [if_pos h, hC', hD]]
          exact DLe_tup ⟨DLe.refl _, DLe.refl _, trivial⟩
      · have hC' : takeC s = b := by unfold takeC; rw [hB', if_neg (by omega)]
        refine ⟨fun hD => ?_, fun hD => ?_⟩
        · rw [show takeM s = ⟨[], []⟩ by unfold takeM; rw [if_neg (by rw [hC']; intro hh; exact hD hh.2)], show takeE s = b.e by unfold takeE; rw [if_pos h, hC']]
          exact DLe_tup ⟨DLe_agg ⟨funcsD_nil, globsD_nil, trivial⟩, DLe.refl _, trivial⟩
        · rw [show takeM s = ⟨fs, gs⟩ by unfold takeM; rw [if_pos ⟨h, by rw [hC']; exact hD⟩, hQ], show takeE s = 0 by unfold takeE; rw [if_pos h, hC', hD]]
          exact DLe_tup ⟨DLe.refl _, DLe.refl _, trivial⟩
    · have hB' : takeB s = a := by unfold takeB; rw [hA', if_neg hB]
      refine ⟨fun hC => ?_, fun hC => ?_⟩
      · have hC' : takeC s = oddS a 4 := by unfold takeC; rw [hB', if_pos (by omega)]
        refine calle_k (odd_eff a 4) (tauT _) rfl [.ptr 13 0, .d (.int 4)] (by simp) (by simp) (by simp) (by simp [gOf, LR, tauT]) (by simp [gOf, LR, tauT]) (by simp [gOf, LR, tauT]) (by simp [LR, idsOk]) ?_
        simp [LR, tauT]
        generalize oddS a 4 = c at hC' ⊢
        refine ⟨fun hD => ?_, fun hD => ?_⟩
        · rw [show takeM s = ⟨[], []⟩ by unfold takeM; rw [if_neg (by rw [hC']; intro hh; exact hD hh.2)], show takeE s = c.e by unfold takeE; rw [if_pos h, hC']]
          exact DLe_tup ⟨DLe_agg ⟨funcsD_nil, globsD_nil, trivial⟩, DLe.refl _, trivial⟩
        · rw [show takeM s = ⟨fs, gs⟩ by unfold takeM; rw [if_pos ⟨h, by rw [hC']; exact hD⟩, hQ], show takeE s = 0 by unfold takeE; rw [if_pos h, hC', hD]]
          exact DLe_tup ⟨DLe.refl _, DLe.refl _, trivial⟩
      · have hC' : takeC s = a := by unfold takeC; rw [hB', if_neg (by omega)]
        refine ⟨fun hD => ?_, fun hD => ?_⟩
        · rw [show takeM s = ⟨[], []⟩ by unfold takeM; rw [if_neg (by rw [hC']; intro hh; exact hD hh.2)], show takeE s = a.e by unfold takeE; rw [if_pos h, hC']]
          exact DLe_tup ⟨DLe_agg ⟨funcsD_nil, globsD_nil, trivial⟩, DLe.refl _, trivial⟩
        · rw [show takeM s = ⟨fs, gs⟩ by unfold takeM; rw [if_pos ⟨h, by rw [hC']; exact hD⟩, hQ], show takeE s = 0 by unfold takeE; rw [if_pos h, hC', hD]]
          exact DLe_tup ⟨DLe.refl _, DLe.refl _, trivial⟩
  · have hA' : takeA s = q := by unfold takeA; rw [hQ]; exact if_pos hA
    refine ⟨fun hB => ?_, fun hB => ?_⟩
    · have hB' : takeB s = oddS q (checkE ⟨fs, gs⟩) := by unfold takeB; rw [hA', if_pos hB, hQ]
      refine call_plain (ds := [.agg (moduleC ⟨fs, gs⟩)]) _ (by simp) (by simp) (fun _ => by simp; rfl) (fun _ => check_pure ⟨fs, gs⟩ hfit.args) ?_
      simp
      refine calle_k (odd_eff q (checkE ⟨fs, gs⟩)) (tauT _) rfl [.ptr 13 0, .d (.int (checkE ⟨fs, gs⟩))] (by simp) (by simp) (by simp) (by simp [gOf, LR, tauT]) (by simp [gOf, LR, tauT]) (by simp [gOf, LR, tauT]) (by simp [LR, idsOk]) ?_
      simp [LR, tauT]
      generalize oddS q (checkE ⟨fs, gs⟩) = b at hB' ⊢
      refine ⟨fun hC => ?_, fun hC => ?_⟩
      · have hC' : takeC s = oddS b 4 := by unfold takeC; rw [hB', if_pos (by omega)]
        refine calle_k (odd_eff b 4) (tauT _) rfl [.ptr 13 0, .d (.int 4)] (by simp) (by simp) (by simp) (by simp [gOf, LR, tauT]) (by simp [gOf, LR, tauT]) (by simp [gOf, LR, tauT]) (by simp [LR, idsOk]) ?_
        simp [LR, tauT]
        generalize oddS b 4 = c at hC' ⊢
        refine ⟨fun hD => ?_, fun hD => ?_⟩
        · rw [show takeM s = ⟨[], []⟩ by unfold takeM; rw [if_neg (by rw [hC']; intro hh; exact hD hh.2)], show takeE s = c.e by unfold takeE; rw [if_pos h, hC']]
          exact DLe_tup ⟨DLe_agg ⟨funcsD_nil, globsD_nil, trivial⟩, DLe.refl _, trivial⟩
        · rw [show takeM s = ⟨fs, gs⟩ by unfold takeM; rw [if_pos ⟨h, by rw [hC']; exact hD⟩, hQ], show takeE s = 0 by unfold takeE; rw [if_pos h, hC', hD]]
          exact DLe_tup ⟨DLe.refl _, DLe.refl _, trivial⟩
      · have hC' : takeC s = b := by unfold takeC; rw [hB', if_neg (by omega)]
        refine ⟨fun hD => ?_, fun hD => ?_⟩
        · rw [show takeM s = ⟨[], []⟩ by unfold takeM; rw [if_neg (by rw [hC']; intro hh; exact hD hh.2)], show takeE s = b.e by unfold takeE; rw [if_pos h, hC']]
          exact DLe_tup ⟨DLe_agg ⟨funcsD_nil, globsD_nil, trivial⟩, DLe.refl _, trivial⟩
        · rw [show takeM s = ⟨fs, gs⟩ by unfold takeM; rw [if_pos ⟨h, by rw [hC']; exact hD⟩, hQ], show takeE s = 0 by unfold takeE; rw [if_pos h, hC', hD]]
          exact DLe_tup ⟨DLe.refl _, DLe.refl _, trivial⟩
    · have hB' : takeB s = q := by unfold takeB; rw [hA', if_neg hB]
      refine ⟨fun hC => ?_, fun hC => ?_⟩
      · have hC' : takeC s = oddS q 4 := by unfold takeC; rw [hB', if_pos (by omega)]
        refine calle_k (odd_eff q 4) (tauT _) rfl [.ptr 13 0, .d (.int 4)] (by simp) (by simp) (by simp) (by simp [gOf, LR, tauT]) (by simp [gOf, LR, tauT]) (by simp [gOf, LR, tauT]) (by simp [LR, idsOk]) ?_
        simp [LR, tauT]
        generalize oddS q 4 = c at hC' ⊢
        refine ⟨fun hD => ?_, fun hD => ?_⟩
        · rw [show takeM s = ⟨[], []⟩ by unfold takeM; rw [if_neg (by rw [hC']; intro hh; exact hD hh.2)], show takeE s = c.e by unfold takeE; rw [if_pos h, hC']]
          exact DLe_tup ⟨DLe_agg ⟨funcsD_nil, globsD_nil, trivial⟩, DLe.refl _, trivial⟩
        · rw [show takeM s = ⟨fs, gs⟩ by unfold takeM; rw [if_pos ⟨h, by rw [hC']; exact hD⟩, hQ], show takeE s = 0 by unfold takeE; rw [if_pos h, hC', hD]]
          exact DLe_tup ⟨DLe.refl _, DLe.refl _, trivial⟩
      · have hC' : takeC s = q := by unfold takeC; rw [hB', if_neg (by omega)]
        refine ⟨fun hD => ?_, fun hD => ?_⟩
        · rw [show takeM s = ⟨[], []⟩ by unfold takeM; rw [if_neg (by rw [hC']; intro hh; exact hD hh.2)], show takeE s = q.e by unfold takeE; rw [if_pos h, hC']]
          exact DLe_tup ⟨DLe_agg ⟨funcsD_nil, globsD_nil, trivial⟩, DLe.refl _, trivial⟩
        · rw [show takeM s = ⟨fs, gs⟩ by unfold takeM; rw [if_pos ⟨h, by rw [hC']; exact hD⟩, hQ], show takeE s = 0 by unfold takeE; rw [if_pos h, hC', hD]]
          exact DLe_tup ⟨DLe.refl _, DLe.refl _, trivial⟩

end Go.Proofs.Ytciihchbiifgkaa
