/- Contracts by the evaluator: the document's reader: a module (layer 6). -/
import Derived.Test.YtciihchbiifgkaaVF
import Derived.Test.YtciihchbiifgkaaT1
namespace Go.Proofs.Ytciihchbiifgkaa
open Go.RowKit

theorem resR_rep {α : Type} {one : SR α} {P : α → Prop} (h : Gv one P) : ∀ (n : Nat) (acc : List α), (∀ x ∈ acc, P x) → Gv (sRepR one n acc) (fun l => l.length ≤ acc.length + n ∧ ∀ x ∈ l, P x)
  | 0, acc, ha => fun _ => ⟨Nat.le_refl _, ha⟩
  | n + 1, acc, ha => fun st => by
    have e0 : sRepR one (n + 1) acc st = if st.e = 0 then sRepR one n (acc ++ [(one st).1]) (one st).2 else (acc, st) := rfl
    rw [e0]
    split
    · have h1 := resR_rep h n (acc ++ [(one st).1]) (fun x hx => by
        rcases List.mem_append.1 hx with hx | hx
        · exact ha x hx
        · rw [List.mem_singleton.1 hx]; exact h st) (one st).2
      simp only [List.length_append, List.length_singleton] at h1
      exact ⟨by omega, h1.2⟩
    · exact ⟨by show acc.length ≤ _; omega, ha⟩
theorem resR_most (n : Nat) : Gv (mostR n) (fun x => 0 ≤ x ∧ x ≤ n) := fun st => mostR_rng n st
theorem resR_sev {α : Type} {one : SR α} {P : α → Prop} (h : Gv one P) (most : Nat) : Gv (sevR most one) (fun l => l.length ≤ most ∧ ∀ x ∈ l, P x) := res_bind (resR_most most) fun n hn st => by
  have h1 := resR_rep h n.toNat [] (fun x hx => by cases hx) st
  simp only [List.length_nil] at h1
  exact ⟨by omega, h1.2⟩
theorem resR_args : Gv argsR (fun l => l.length ≤ 6) := fun st => (resR_sev (res_any oneR) 6 st).1
theorem resR_wide : Gv wideR (· < 18446744073709551616) := fun st => by
  unfold wideR
  split
  · split
    · exact takeNum_lt (l := bL st.s) (x := (takeNum (bL st.s)).1) (r := (takeNum (bL st.s)).2.1) (c := (takeNum (bL st.s)).2.2) rfl
    · show 0 < _; omega
  · show 0 < _; omega
theorem resR_inst : Gv instR instF := res_bind (res_any oneR) fun op _ => fun st => by
  have h0 : (0 : Nat) < 18446744073709551616 := by omega
  unfold inst2R
  split
  · split
    · exact ⟨by show 0 ≤ 6; omega, h0⟩
    · refine (?_ : Gv (inst1R op) instF) st
      unfold inst1R
      split
      · exact res_bind resR_wide fun k hk => res_ret ⟨by show 0 ≤ 6; omega, hk⟩
      split
      · exact res_bind (res_any _) fun _ _ => res_bind (res_any _) fun _ _ => res_ret ⟨by show 0 ≤ 6; omega, h0⟩
      split
      · exact res_bind (res_any _) fun _ _ => res_ret ⟨by show 0 ≤ 6; omega, h0⟩
      split
      · exact res_bind (res_any _) fun _ _ => res_bind (res_any _) fun _ _ => res_ret ⟨by show 0 ≤ 6; omega, h0⟩
      split
      · exact res_bind (res_any _) fun _ _ => res_bind resR_args fun _ hl => res_ret ⟨hl, h0⟩
      split
      · exact res_bind (res_any _) fun _ _ => res_ret ⟨by show 0 ≤ 6; omega, h0⟩
      · exact res_ret ⟨by show 0 ≤ 6; omega, h0⟩
  · exact ⟨by show 0 ≤ 6; omega, h0⟩
theorem resR_block : Gv blockR blockF := res_bind (res_any oneR) fun _ _ => res_bind (resR_sev resR_inst 32) fun ins hi => res_bind (res_any endR) fun t _ => res_ret hi.2
theorem resR_func : Gv funcR (fun f => ∀ b ∈ f.blocks, blockF b) := res_bind (res_any _) fun _ _ => res_bind (res_any _) fun _ _ => res_bind (res_any _) fun _ _ => res_bind (resR_sev resR_block 16) fun _ hb => res_ret hb.2
theorem resR_glob : Gv globR globK := res_bind (res_any _) fun _ _ => res_bind (res_any _) fun _ _ => res_bind (res_any _) fun _ _ => res_bind (res_any _) fun _ _ => res_bind resR_wide fun _ h => res_ret h
theorem resR_mods : Gv modsR BitFit := res_bind (resR_sev resR_func 16) fun fs hf => res_bind (resR_sev resR_glob 16) fun gs hg => res_ret ⟨fun f h1 b h2 i h3 => by
  have := (hf.2 f h1 b h2 i h3).1
  omega, fun f h1 b h2 i h3 => (hf.2 f h1 b h2 i h3).2, fun g h => hg.2 g h⟩
/-- What the document's reader comes to. -/
def take6Q (s : ByteArray) : Module × RS := modsR ⟨s.extract 4 s.size, 0⟩
def take6E (s : ByteArray) : Int := if cutB s magicB = true then (if (take6Q s).2.e = 0 then (if 0 < (take6Q s).2.s.size then 3 else if checkE (take6Q s).1 = 0 then (if 65535 < s.size then 4 else 0) else checkE (take6Q s).1) else (take6Q s).2.e) else 3
def take6M (s : ByteArray) : Module := if take6E s = 0 then (take6Q s).1 else ⟨[], []⟩
set_option maxRecDepth 10000 in
theorem r6take_pure (s : ByteArray) (hs : s.size ≤ 140737488355328) : APure Try.prog 13 [.str s] (.tup [.agg (moduleC (take6M s)), .int (take6E s)]) := by
  refine apureG _ _ Try.func13 (by kernel_rfl) t_marlineref06_Take u_marlineref06_Take rfl rfl (fun hx => ?_)
  clear hx
  simp [c_marlineref06_Take, r_marlineref06_Take]
  have hm4 : magicB.size = 4 := rfl
  have hcut : cutB s magicB = true ↔ (4 ≤ s.size ∧ s.extract 0 4 = ⟨#[77, 73, 82, 49]⟩) := by
    unfold cutB
    rw [Bool.and_eq_true, decide_eq_true_eq, decide_eq_true_eq, hm4]
    rfl
  refine ⟨fun h => ?_, fun h1 h2 => ⟨h1, ?_⟩⟩
  · have hc : ¬ cutB s magicB = true := fun hc => by
      obtain ⟨q1, q2⟩ := hcut.1 hc
      rcases h with h | h
      · omega
      · exact h q2
    have hE : take6E s = 3 := by unfold take6E; rw [if_neg hc]
    have hM : take6M s = ⟨[], []⟩ := by unfold take6M; rw [hE]; rfl
    rw [hE, hM]
    exact DLe_tup ⟨DLe_agg ⟨funcsD_nil, globsD_nil, trivial⟩, DLe.refl _, trivial⟩
  have hc : cutB s magicB = true := hcut.2 ⟨by omega, h2⟩
  have hsz : (s.extract 4 s.size).size ≤ 140737488355328 := by rw [ByteArray.size_extract]; omega
  have e0 : take6Q s = modsR ⟨s.extract 4 s.size, 0⟩ := rfl
  have hfit : BitFit (take6Q s).1 := resR_mods _
  generalize s.extract 4 s.size = body at hsz e0 ⊢
  refine call_plain (ds := [.agg [.str body, .int 0], .lit (.int .u64 16)]) _ (by simp) (by simp) (fun _ => by simp) (fun _ => r6most_pure ⟨body, 0⟩ 16 (by omega) hsz) ?_
  simp
  have hr := mostR_rng 16 ⟨body, 0⟩
  have hle := mostR_le 16 ⟨body, 0⟩
  have e1 : modsR ⟨body, 0⟩ = (sBind (sevR 16 globR) fun gs => sRet ⟨(sRepR funcR (mostR 16 ⟨body, 0⟩).1.toNat [] (mostR 16 ⟨body, 0⟩).2).1, gs⟩) (sRepR funcR (mostR 16 ⟨body, 0⟩).1.toNat [] (mostR 16 ⟨body, 0⟩).2).2 := rfl
  rw [e1] at e0
  clear e1
  generalize mostR 16 ⟨body, 0⟩ = q at e0 hr hle ⊢
  obtain ⟨n, s1⟩ := q
  simp only at e0 hr hle ⊢
  have hs1 : s1.s.size ≤ 140737488355328 := by omega
  clear hle
  obtain ⟨n, rfl⟩ := Int.eq_ofNat_of_zero_le hr.1
  rw [Int.toNat_natCast] at e0
  generalize hq : sRepR funcR n [] s1 = q at e0
  refine loop_s (κ := KR Func) (fun w => w.k ≤ n ∧ w.acc.length = w.k ∧ q = sRepR funcR (n - w.k) w.acc w.st ∧ w.st.s.size ≤ 140737488355328) (fun w => n - w.k) (fun w => [(sl 7, .int w.k)]) (fun w => [(20, .box [.d (.str w.st.s), .d (.int w.st.e)]), (11, .box [.own 1 w.k, .d (.lit (.slice none 0 0))]), (0, .box [.d (.lit (.slice none 0 0)), .d (.lit (.slice none 0 0))]), (1, .row 59 4 w.k fun i => funcC (w.acc[i]?.getD default))]) 24 ⟨0, [], s1⟩ (srcs [(0, .id 0), (11, .id 11), (20, .id 20), (1, .nil)]) ⟨by simp, by simp, by simpa using hq.symm, by simpa using hs1⟩ (by simp) ?_
  rintro ⟨k, acc, s2⟩ ⟨hk, hacc, hrel, hs2⟩
  simp only at hk hacc hrel hs2
  simp
  have z0 := funcR_le s2
  have z1 := wordR_le s2
  have z2 := oneR_le (wordR s2).2
  have z3 := oneR_le (oneR (wordR s2).2).2
  have z4 := mostR_le 16 (oneR (oneR (wordR s2).2).2).2
  refine ⟨fun hlt he => ?_, fun hend => ?_⟩
  · refine call_plain (ds := [.agg [.str (s2).s, .int (s2).e]]) _ (by simp) (by simp) (fun _ => by simp) (fun _ => r6word_pure s2 hs2) ?_
    simp
    refine call_plain (ds := [.agg [.str ((wordR s2).2).s, .int ((wordR s2).2).e]]) _ (by simp) (by simp) (fun _ => by simp) (fun _ => r6one_pure (wordR s2).2 (by omega)) ?_
    simp
    refine call_plain (ds := [.agg [.str ((oneR (wordR s2).2).2).s, .int ((oneR (wordR s2).2).2).e]]) _ (by simp) (by simp) (fun _ => by simp) (fun _ => r6one_pure (oneR (wordR s2).2).2 (by omega)) ?_
    simp
    refine call_plain (ds := [.agg [.str ((oneR (oneR (wordR s2).2).2).2).s, .int ((oneR (oneR (wordR s2).2).2).2).e], .lit (.int .u64 16)]) _ (by simp) (by simp) (fun _ => by simp) (fun _ => r6most_pure (oneR (oneR (wordR s2).2).2).2 16 (by omega) (by omega)) ?_
    simp
    have eF : funcR s2 = (⟨(wordR s2).1, (oneR (wordR s2).2).1, (oneR (oneR (wordR s2).2).2).1, (sRepR blockR (mostR 16 (oneR (oneR (wordR s2).2).2).2).1.toNat [] (mostR 16 (oneR (oneR (wordR s2).2).2).2).2).1⟩, (sRepR blockR (mostR 16 (oneR (oneR (wordR s2).2).2).2).1.toNat [] (mostR 16 (oneR (oneR (wordR s2).2).2).2).2).2) := rfl
    have hr2 := mostR_rng 16 (oneR (oneR (wordR s2).2).2).2
    have hs3 : (mostR 16 (oneR (oneR (wordR s2).2).2).2).2.s.size ≤ 140737488355328 := by omega
    clear z1 z2 z3 z4
    generalize mostR 16 (oneR (oneR (wordR s2).2).2).2 = q2 at eF hr2 hs3 ⊢
    obtain ⟨n2, s3⟩ := q2
    simp only at eF hr2 hs3 ⊢
    generalize (oneR (oneR (wordR s2).2).2).1 = params at eF ⊢
    generalize (oneR (wordR s2).2).1 = bind at eF ⊢
    generalize (wordR s2).1 = name at eF ⊢
    obtain ⟨n2, rfl⟩ := Int.eq_ofNat_of_zero_le hr2.1
    rw [Int.toNat_natCast] at eF
    generalize hq3 : sRepR blockR n2 [] s3 = q3 at eF
    refine loop_s (κ := KR Block) (fun w => w.k ≤ n2 ∧ w.acc.length = w.k ∧ q3 = sRepR blockR (n2 - w.k) w.acc w.st ∧ w.st.s.size ≤ 140737488355328) (fun w => n2 - w.k) (fun w => [(sl 11, .int w.k)]) (fun w => [(33, .box [.d (.str name), .d (.int bind), .d (.int params), .own 2 w.k]), (20, .box [.d (.str w.st.s), .d (.int w.st.e)]), (11, .box [.own 1 k, .d (.lit (.slice none 0 0))]), (0, .box [.d (.lit (.slice none 0 0)), .d (.lit (.slice none 0 0))]), (1, .row 59 4 k fun i => funcC (acc[i]?.getD default)), (2, .row 68 8 w.k fun i => blockC (w.acc[i]?.getD default))]) 70 ⟨0, [], s3⟩ (srcs [(33, .id 33), (20, .id 20), (11, .id 11), (0, .id 0), (1, .id 1), (2, .nil)]) ⟨by simp, by simp, by simpa using hq3.symm, by simpa using hs3⟩ (by simp) ?_
    rintro ⟨j, bcc, s4⟩ ⟨hj, hbcc, hrel2, hs4⟩
    simp only at hj hbcc hrel2 hs4
    simp
    have hlo := blockR_le s4
    refine ⟨fun hlt2 he2 => ?_, fun hend2 => ?_⟩
    · refine call_plain (ds := [.agg [.str (s4).s, .int (s4).e]]) _ (by simp) (by simp) (fun _ => by simp) (fun _ => r6block_pure s4 hs4) ?_
      simp
      obtain ⟨i0, hi0⟩ : ∃ i, n2 - j = i + 1 := ⟨n2 - j - 1, by omega⟩
      rw [hi0] at hrel2
      have e : q3 = sRepR blockR i0 (bcc ++ [(blockR s4).1]) (blockR s4).2 := by rw [hrel2]; simp [sRepR, he2]
      refine ⟨by omega, ⟨j + 1, bcc ++ [(blockR s4).1], (blockR s4).2⟩, ⟨by simp; omega, by simp [hbcc], ?_, by simp; omega⟩, by simp; omega, srcs [(33, .id 33), (20, .id 20), (11, .id 11), (0, .id 0), (1, .id 1), (2, .id 93)], ?_⟩
      · show q3 = sRepR blockR (n2 - (j + 1)) _ _
        rw [e, show n2 - (j + 1) = i0 by omega]
      · simp [SLeK]
        refine ⟨DLe_int (wrap_succ (by omega)), fun i hi => ?_⟩
        subst hbcc
        exact appRow_snoc blockC default (by rfl) hi
    · have e : q3 = (bcc, s4) := by rw [hrel2]; exact sRepR_stop (by omega)
      rw [e] at eF
      simp only at eF
      obtain ⟨i1, hi1⟩ : ∃ i, n - k = i + 1 := ⟨n - k - 1, by omega⟩
      rw [hi1] at hrel
      have e' : q = sRepR funcR i1 (acc ++ [⟨name, bind, params, bcc⟩]) s4 := by
        rw [hrel]
        show (if s2.e = 0 then sRepR funcR i1 (acc ++ [(funcR s2).1]) (funcR s2).2 else (acc, s2)) = _
        rw [if_pos he, eF]
      refine ⟨by omega, ⟨k + 1, acc ++ [⟨name, bind, params, bcc⟩], s4⟩, ⟨by simp; omega, by simp [hacc], ?_, by simp; omega⟩, by simp; omega, srcs [(20, .id 20), (11, .id 11), (0, .id 0), (1, .id 82)], ?_⟩
      · show q = sRepR funcR (n - (k + 1)) _ _
        rw [e', show n - (k + 1) = i1 by omega]
      · simp [SLeK]
        refine ⟨DLe_int (wrap_succ (by omega)), fun i hi => ?_⟩
        subst hacc
        subst hbcc
        exact appRow_snoc funcC default (by rfl) hi
  · have e : q = (acc, s2) := by rw [hrel]; exact sRepR_stop (by omega)
    rw [e] at e0
    simp only at e0
    refine call_plain (ds := [.agg [.str (s2).s, .int (s2).e], .lit (.int .u64 16)]) _ (by simp) (by simp) (fun _ => by simp) (fun _ => r6most_pure s2 16 (by omega) hs2) ?_
    simp
    have eG : take6Q s = (⟨acc, (sRepR globR (mostR 16 s2).1.toNat [] (mostR 16 s2).2).1⟩, (sRepR globR (mostR 16 s2).1.toNat [] (mostR 16 s2).2).2) := e0
    have hr2 := mostR_rng 16 s2
    have hle2 := mostR_le 16 s2
    clear e0 e hrel z0 z1 z2 z3 z4
    generalize mostR 16 s2 = q2 at eG hr2 hle2 ⊢
    obtain ⟨n2, s3⟩ := q2
    simp only at eG hr2 hle2 ⊢
    have hs3 : s3.s.size ≤ 140737488355328 := by omega
    obtain ⟨n2, rfl⟩ := Int.eq_ofNat_of_zero_le hr2.1
    rw [Int.toNat_natCast] at eG
    generalize hq3 : sRepR globR n2 [] s3 = q3 at eG
    refine loop_s (κ := KR Glob) (fun w => w.k ≤ n2 ∧ w.acc.length = w.k ∧ q3 = sRepR globR (n2 - w.k) w.acc w.st ∧ w.st.s.size ≤ 140737488355328) (fun w => n2 - w.k) (fun w => [(sl 15, .int w.k)]) (fun w => [(20, .box [.d (.str w.st.s), .d (.int w.st.e)]), (11, .box [.own 1 k, .own 3 w.k]), (0, .box [.d (.lit (.slice none 0 0)), .d (.lit (.slice none 0 0))]), (1, .row 59 4 k fun i => funcC (acc[i]?.getD default)), (3, .row 73 4 w.k fun i => globC (w.acc[i]?.getD default))]) 40 ⟨0, [], s3⟩ (srcs [(20, .id 20), (11, .id 11), (0, .id 0), (1, .id 1), (3, .nil)]) ⟨by simp, by simp, by simpa using hq3.symm, by simpa using hs3⟩ (by simp) ?_
    rintro ⟨j, bcc, s4⟩ ⟨hj, hbcc, hrel2, hs4⟩
    simp only at hj hbcc hrel2 hs4
    simp
    have hlo := globR_le s4
    have z1 := wordR_le s4
    have z2 := oneR_le (wordR s4).2
    have z3 := oneR_le (oneR (wordR s4).2).2
    refine ⟨fun hlt2 he2 => ?_, fun hend2 => ?_⟩
    · refine call_plain (ds := [.agg [.str (s4).s, .int (s4).e]]) _ (by simp) (by simp) (fun _ => by simp) (fun _ => r6word_pure s4 hs4) ?_
      simp
      refine call_plain (ds := [.agg [.str ((wordR s4).2).s, .int ((wordR s4).2).e]]) _ (by simp) (by simp) (fun _ => by simp) (fun _ => r6one_pure (wordR s4).2 (by omega)) ?_
      simp
      refine call_plain (ds := [.agg [.str ((oneR (wordR s4).2).2).s, .int ((oneR (wordR s4).2).2).e]]) _ (by simp) (by simp) (fun _ => by simp) (fun _ => r6one_pure (oneR (wordR s4).2).2 (by omega)) ?_
      simp
      have eF : globR s4 = (⟨(wordR s4).1, (oneR (wordR s4).2).1, decide ((oneR (oneR (wordR s4).2).2).1 = 1), (wideR (hereR (oneR (oneR (wordR s4).2).2).1 (oneR (oneR (wordR s4).2).2).2).2).1⟩, (wideR (hereR (oneR (oneR (wordR s4).2).2).1 (oneR (oneR (wordR s4).2).2).2).2).2) := rfl
      have hs5 : (oneR (oneR (wordR s4).2).2).2.s.size ≤ 140737488355328 := by omega
      clear z1 z2 z3
      generalize oneR (oneR (wordR s4).2).2 = q5 at eF hs5 ⊢
      obtain ⟨here, s5⟩ := q5
      simp only at eF hs5 ⊢
      generalize (oneR (wordR s4).2).1 = bind at eF ⊢
      generalize (wordR s4).1 = name at eF ⊢
      refine ⟨fun q1 q2 => ?_, fun q1 => ?_⟩
      · have eh : hereR here s5 = ((), badS 3) := by unfold hereR; rw [if_pos ⟨q1, q2⟩]
        rw [eh] at eF
        refine call_plain (ds := [.agg [.str (badS 3).s, .int (badS 3).e]]) _ (by simp) (by simp) (fun _ => by simp [badS]) (fun _ => r6wide_pure (badS 3) (by show 0 ≤ _; omega)) ?_
        simp
        obtain ⟨i0, hi0⟩ : ∃ i, n2 - j = i + 1 := ⟨n2 - j - 1, by omega⟩
        rw [hi0] at hrel2
        have e : q3 = sRepR globR i0 (bcc ++ [(globR s4).1]) (globR s4).2 := by
          rw [hrel2]
          show (if s4.e = 0 then sRepR globR i0 (bcc ++ [(globR s4).1]) (globR s4).2 else (bcc, s4)) = _
          rw [if_pos he2]
        rw [eF] at e hlo
        simp only at e hlo
        refine ⟨by omega, ⟨j + 1, bcc ++ [⟨name, bind, decide (here = 1), (wideR (badS 3)).1⟩], (wideR (badS 3)).2⟩, ⟨by simp; omega, by simp [hbcc], ?_, by simp; omega⟩, by simp; omega, srcs [(20, .id 20), (11, .id 11), (0, .id 0), (1, .id 1), (3, .id 102)], ?_⟩
        · show q3 = sRepR globR (n2 - (j + 1)) _ _
          rw [e, show n2 - (j + 1) = i0 by omega]
        · simp [SLeK]
          refine ⟨DLe_int (wrap_succ (by omega)), fun i hi => ?_⟩
          subst hbcc
          exact appRow_snoc globC default (by rfl) hi
      · have eh : hereR here s5 = ((), s5) := by unfold hereR; rw [if_neg (fun hh => by have := q1 hh.1; omega)]
        rw [eh] at eF
        refine call_plain (ds := [.agg [.str (s5).s, .int (s5).e]]) _ (by simp) (by simp) (fun _ => by simp) (fun _ => r6wide_pure s5 hs5) ?_
        simp
        obtain ⟨i0, hi0⟩ : ∃ i, n2 - j = i + 1 := ⟨n2 - j - 1, by omega⟩
        rw [hi0] at hrel2
        have e : q3 = sRepR globR i0 (bcc ++ [(globR s4).1]) (globR s4).2 := by
          rw [hrel2]
          show (if s4.e = 0 then sRepR globR i0 (bcc ++ [(globR s4).1]) (globR s4).2 else (bcc, s4)) = _
          rw [if_pos he2]
        rw [eF] at e hlo
        simp only at e hlo
        refine ⟨by omega, ⟨j + 1, bcc ++ [⟨name, bind, decide (here = 1), (wideR s5).1⟩], (wideR s5).2⟩, ⟨by simp; omega, by simp [hbcc], ?_, by simp; omega⟩, by simp; omega, srcs [(20, .id 20), (11, .id 11), (0, .id 0), (1, .id 1), (3, .id 100)], ?_⟩
        · show q3 = sRepR globR (n2 - (j + 1)) _ _
          rw [e, show n2 - (j + 1) = i0 by omega]
        · simp [SLeK]
          refine ⟨DLe_int (wrap_succ (by omega)), fun i hi => ?_⟩
          subst hbcc
          exact appRow_snoc globC default (by rfl) hi
    · have e : q3 = (bcc, s4) := by rw [hrel2]; exact sRepR_stop (by omega)
      rw [e] at eG
      simp only at eG
      rw [eG] at hfit
      simp only at hfit
      refine ⟨fun hD => ?_, fun hD => ⟨fun hz => ?_, fun hz => ?_⟩⟩
      · have hE : take6E s = s4.e := by unfold take6E; rw [if_pos hc, eG, if_neg hD]
        have hM : take6M s = ⟨[], []⟩ := by unfold take6M; rw [hE, if_neg hD]
        rw [hE, hM]
        exact DLe_tup ⟨DLe_agg ⟨funcsD_nil, globsD_nil, trivial⟩, DLe.refl _, trivial⟩
      · have hE : take6E s = 3 := by unfold take6E; rw [if_pos hc, eG, if_pos hD, if_pos (by omega)]
        have hM : take6M s = ⟨[], []⟩ := by unfold take6M; rw [hE]; rfl
        rw [hE, hM]
        exact DLe_tup ⟨DLe_agg ⟨funcsD_nil, globsD_nil, trivial⟩, DLe.refl _, trivial⟩
      subst hacc
      subst hbcc
      refine call_plain (ds := [.agg (moduleC ⟨acc, bcc⟩)]) _ (by simp) (by simp) (fun _ => by simp; rfl) (fun _ => refCheck_pure ⟨acc, bcc⟩ hfit.args) ?_
      simp
      have hz0 : ¬ 0 < s4.s.size := by rw [hz]; exact Nat.lt_irrefl 0
      refine ⟨fun hk => ?_, fun hk => ⟨fun hb => ?_, fun hb => ?_⟩⟩
      · have hE : take6E s = checkE ⟨acc, bcc⟩ := by unfold take6E; rw [if_pos hc, eG, if_pos hD, if_neg hz0, if_neg hk]
        have hM : take6M s = ⟨[], []⟩ := by unfold take6M; rw [hE, if_neg hk]
        rw [hE, hM]
        exact DLe_tup ⟨DLe_agg ⟨funcsD_nil, globsD_nil, trivial⟩, DLe.refl _, trivial⟩
      · have hE : take6E s = 4 := by unfold take6E; rw [if_pos hc, eG, if_pos hD, if_neg hz0, if_pos hk, if_pos (by omega)]
        have hM : take6M s = ⟨[], []⟩ := by unfold take6M; rw [hE]; rfl
        rw [hE, hM]
        exact DLe_tup ⟨DLe_agg ⟨funcsD_nil, globsD_nil, trivial⟩, DLe.refl _, trivial⟩
      · have hE : take6E s = 0 := by unfold take6E; rw [if_pos hc, eG, if_pos hD, if_neg hz0, if_pos hk, if_neg (by omega)]
        have hM : take6M s = ⟨acc, bcc⟩ := by unfold take6M; rw [hE, if_pos rfl, eG]
        rw [hE, hM]
        exact DLe_tup ⟨DLe.refl _, DLe.refl _, trivial⟩

end Go.Proofs.Ytciihchbiifgkaa
