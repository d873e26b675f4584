/- Contracts by the evaluator: the document's reader (layer 6). -/
import Derived.Test.YtciihchbiifgkaaVD
import Derived.Test.YtciihchbiifgkaaVX
namespace Go.Proofs.Ytciihchbiifgkaa
open Go.RowKit

theorem ref6TakeNum_pure (s : ByteArray) (hs : s.size ≤ 140737488355328) : APure Try.prog 69 [.str s] (.tup [.lit (.int .u64 (takeNum (bL s)).1), .str ⟨(takeNum (bL s)).2.1.toArray⟩, .int (takeNum (bL s)).2.2]) := by
  refine ⟨⟨_, _, Try.func69, by kernel_rfl, rfl⟩, fun X w vs _ hvs => ?_⟩
  obtain ⟨a0, r0, e0, h0, k0⟩ := hvs.uncons
  obtain rfl := k0.unnil
  cases h0
  obtain rfl : vs = #[.string s] := Array.toList_inj.1 e0
  refine (refTakeNum_as s w (by unfold maxLen; omega) (x := (takeNum (bL s)).1) (r := (takeNum (bL s)).2.1) (c := (takeNum (bL s)).2.2) rfl).mono ?_
  rintro e w' ⟨rfl, hw⟩
  exact ⟨hw, _, rfl, .tup [_, _, _] [_, _, _] rfl (fun i h h' => by
    have h : i < 3 := h
    rcases i with _ | _ | _ | i
    · exact .lit _
    · exact .lit _
    · exact .lit _
    · omega)⟩
theorem bad_le (c : Int) (st : RS) : (badS c).s.size ≤ st.s.size := Nat.zero_le _
theorem wideR_le : Le wideR := fun st => by
  have h := takeAt_len (bL st.s) 0 0
  unfold wideR
  split
  · split
    · show (_ : List UInt8).toArray.size ≤ _
      rw [bL_length] at h
      simpa [takeNum] using h
    · exact bad_le _ _
  · exact Nat.le_refl _
theorem mostR_le (n : Nat) : Le (mostR n) := sBind_le wideR_le fun v st => by
  split
  · exact bad_le _ _
  · exact Nat.le_refl _
theorem oneR_le : Le oneR := mostR_le _
theorem word2_le (n : Int) : Le (word2 n) := fun st => by
  unfold word2
  split
  · split
    · exact bad_le _ _
    · simp only [ByteArray.size_extract]; omega
  · exact Nat.le_refl _
theorem wordR_le : Le wordR := sBind_le (mostR_le 16) word2_le
theorem sRepR_le {α : Type} {one : SR α} (h : Le one) : ∀ (n : Nat) (acc : List α), Le (sRepR one n acc)
  | 0, _, st => Nat.le_refl _
  | n + 1, acc, st => by
    have h1 := h st
    have h2 := sRepR_le h n (acc ++ [(one st).1]) (one st).2
    show (if st.e = 0 then _ else _ : List α × RS).2.s.size ≤ _
    split
    · omega
    · exact Nat.le_refl _
theorem sevR_le {α : Type} {one : SR α} (h : Le one) (most : Nat) : Le (sevR most one) := fun st => Nat.le_trans (sRepR_le h _ _ _) (mostR_le most st)
theorem sRepR_stop {α : Type} {one : SR α} {n : Nat} {acc : List α} {st : RS} (h : 0 < n → ¬ st.e = 0) : sRepR one n acc st = (acc, st) := by
  cases n with
  | zero => rfl
  | succ n => unfold sRepR; rw [if_neg (h (by omega))]
theorem argsR_le : Le argsR := sevR_le oneR_le 6
theorem mostR_rng (n : Nat) (st : RS) : 0 ≤ (mostR n st).1 ∧ (mostR n st).1 ≤ n := by
  have e : mostR n st = if (wideR st).2.e = 0 ∧ n < (wideR st).1 then (0, badS 4) else (((wideR st).1 : Int), (wideR st).2) := rfl
  rw [e]
  split
  · exact ⟨Int.le_refl _, by show (0 : Int) ≤ n; omega⟩
  · rename_i h
    refine ⟨by show (0 : Int) ≤ ((wideR st).1 : Int); omega, ?_⟩
    show ((wideR st).1 : Int) ≤ n
    by_cases h1 : (wideR st).2.e = 0
    · omega
    · have h2 : (wideR st).1 = 0 := by
        unfold wideR at h1 ⊢
        split
        · split
          · rename_i h3 h4; rw [if_pos h3, if_pos h4] at h1; exact absurd rfl h1
          · rfl
        · rfl
      omega
set_option maxRecDepth 10000 in
theorem r6wide_pure (st : RS) (hs : st.s.size ≤ 140737488355328) : APure Try.prog 45 [.agg [.str (st).s, .int (st).e]] (.tup [.agg [.str ((wideR st).2).s, .int ((wideR st).2).e], .lit (.int .u64 (wideR st).1)]) := by
  refine apureG _ _ Try.func45 (by kernel_rfl) t_marlineref06_wide u_marlineref06_wide rfl rfl (fun hx => ?_)
  clear hx
  simp [c_marlineref06_wide, r_marlineref06_wide]
  refine ⟨fun h => ?_, fun h => ?_⟩
  · rw [show wideR st = (0, st) by unfold wideR; rw [if_neg h]]
    exact DLe.refl _
  refine call_plain (ds := [.str st.s]) _ (by simp) (by simp) (fun _ => by simp) (fun _ => ref6TakeNum_pure _ hs) ?_
  simp
  refine ⟨fun hc => ?_, fun hc => ?_⟩
  · rw [show wideR st = (0, badS (takeNum (bL st.s)).2.2) by unfold wideR; rw [if_pos h, if_neg (by simpa using hc)]]
    exact DLe.refl _
  · rw [show wideR st = ((takeNum (bL st.s)).1, ⟨⟨(takeNum (bL st.s)).2.1.toArray⟩, 0⟩) by unfold wideR; rw [if_pos h, if_pos (by simpa using hc)]]
    exact DLe.refl _
set_option maxRecDepth 10000 in
theorem r6most_pure (st : RS) (n : Nat) (hn : n < 9223372036854775808) (hs : st.s.size ≤ 140737488355328) : APure Try.prog 41 [.agg [.str (st).s, .int (st).e], .lit (.int .u64 n)] (.tup [.agg [.str ((mostR n st).2).s, .int ((mostR n st).2).e], .int (mostR n st).1]) := by
  refine apureG _ _ Try.func41 (by kernel_rfl) t_marlineref06_most u_marlineref06_most rfl rfl (fun hx => ?_)
  clear hx
  simp [c_marlineref06_most, r_marlineref06_most]
  refine call_plain (ds := [.agg [.str (st).s, .int (st).e]]) _ (by simp) (by simp) (fun _ => by simp) (fun _ => r6wide_pure st hs) ?_
  simp
  have e0 : mostR n st = if (wideR st).2.e = 0 ∧ n < (wideR st).1 then (0, badS 4) else (((wideR st).1 : Int), (wideR st).2) := rfl
  have hr := mostR_rng n st
  refine ⟨fun h1 h2 => ?_, fun h1 => ?_⟩
  · rw [e0, if_pos ⟨h1, h2⟩]; exact DLe.refl _
  · have e1 : mostR n st = (((wideR st).1 : Int), (wideR st).2) := by rw [e0, if_neg (by rintro ⟨a, b⟩; have := h1 a; omega)]
    rw [e1] at hr ⊢
    simp only at hr
    rw [wrap_nat (by omega)]
    exact DLe.refl _
set_option maxRecDepth 10000 in
theorem r6one_pure (st : RS) (hs : st.s.size ≤ 140737488355328) : APure Try.prog 43 [.agg [.str (st).s, .int (st).e]] (.tup [.agg [.str ((oneR st).2).s, .int ((oneR st).2).e], .int (oneR st).1]) := by
  refine apureG _ _ Try.func43 (by kernel_rfl) t_marlineref06_one u_marlineref06_one rfl rfl (fun hx => ?_)
  clear hx
  simp [c_marlineref06_one, r_marlineref06_one]
  refine call_plain (ds := [.agg [.str (st).s, .int (st).e], .lit (.int .u64 4294967295)]) _ (by simp) (by simp) (fun _ => by simp) (fun _ => r6most_pure st 4294967295 (by omega) hs) ?_
  simp
  exact DLe.refl _
set_option maxRecDepth 10000 in
theorem r6word_pure (st : RS) (hs : st.s.size ≤ 140737488355328) : APure Try.prog 42 [.agg [.str (st).s, .int (st).e]] (.tup [.agg [.str ((wordR st).2).s, .int ((wordR st).2).e], .str (wordR st).1]) := by
  refine apureG _ _ Try.func42 (by kernel_rfl) t_marlineref06_word u_marlineref06_word rfl rfl (fun hx => ?_)
  clear hx
  simp [c_marlineref06_word, r_marlineref06_word]
  refine call_plain (ds := [.agg [.str (st).s, .int (st).e], .lit (.int .u64 16)]) _ (by simp) (by simp) (fun _ => by simp) (fun _ => r6most_pure st 16 (by omega) hs) ?_
  simp
  have e0 : wordR st = word2 (mostR 16 st).1 (mostR 16 st).2 := rfl
  have hr := mostR_rng 16 st
  have hle := mostR_le 16 st
  generalize mostR 16 st = q at e0 hr hle ⊢
  obtain ⟨n, s1⟩ := q
  simp only at e0 hr hle ⊢
  refine ⟨fun h => ?_, fun h => ⟨fun h2 => ?_, fun h2 => ⟨⟨hr.1, h2⟩, ?_⟩⟩⟩
  · rw [show wordR st = (⟨#[]⟩, s1) by rw [e0]; unfold word2; rw [if_neg h]]
    exact DLe.refl _
  · rw [show wordR st = (⟨#[]⟩, badS 2) by rw [e0]; unfold word2; rw [if_pos h, if_pos h2]]
    exact DLe.refl _
  · rw [show wordR st = (s1.s.extract 0 n.toNat, ⟨s1.s.extract n.toNat s1.s.size, 0⟩) by rw [e0]; unfold word2; rw [if_pos h, if_neg (by omega)]]
    exact DLe.refl _
set_option maxRecDepth 10000 in
theorem r6args_pure (st : RS) (hs : st.s.size ≤ 140737488355328) : APure Try.prog 85 [.agg [.str (st).s, .int (st).e]] (.tup [.agg [.str ((argsR st).2).s, .int ((argsR st).2).e], intsD (argsR st).1]) := by
  refine apureG _ _ Try.func85 (by kernel_rfl) t_marlineref06_args u_marlineref06_args rfl rfl (fun hx => ?_)
  clear hx
  simp [c_marlineref06_args, r_marlineref06_args]
  refine call_plain (ds := [.agg [.str (st).s, .int (st).e], .lit (.int .u64 6)]) _ (by simp) (by simp) (fun _ => by simp) (fun _ => r6most_pure st 6 (by omega) hs) ?_
  simp
  have e0 : argsR st = sRepR oneR (mostR 6 st).1.toNat [] (mostR 6 st).2 := rfl
  have hr := mostR_rng 6 st
  have hle := mostR_le 6 st
  generalize mostR 6 st = q at e0 hr hle ⊢
  obtain ⟨n, s1⟩ := q
  simp only at e0 hr hle ⊢
  obtain ⟨n, rfl⟩ := Int.eq_ofNat_of_zero_le hr.1
  rw [Int.toNat_natCast] at e0
  refine loop_s (κ := KR Int) (fun q => q.k ≤ n ∧ q.acc.length = q.k ∧ argsR st = sRepR oneR (n - q.k) q.acc q.st ∧ q.st.s.size ≤ 140737488355328) (fun q => n - q.k) (fun q => [(sl 6, .int q.k), (sl 5, .own 2 q.k)]) (fun q => [(0, .box [.d (.str q.st.s), .d (.int q.st.e)]), (1, .box [.d (.lit (.string ⟨#[]⟩)), .d (.lit (.int .i64 0))]), (2, .row 3 1 q.k fun i => intC (q.acc[i]?.getD 0))]) 12 ⟨0, [], s1⟩ (srcs [(0, .id 0), (1, .id 1), (2, .nil)]) ⟨by simp, by simp, by simpa using e0, by simp; omega⟩ (by simp) ?_
  rintro ⟨k, acc, s2⟩ ⟨hk, hacc, hrel, hs2⟩
  simp only at hk hacc hrel hs2
  simp
  have hlo := oneR_le s2
  refine ⟨fun hlt he => ?_, fun hend => ?_⟩
  · refine call_plain (ds := [.agg [.str (s2).s, .int (s2).e]]) _ (by simp) (by simp) (fun _ => by simp) (fun _ => r6one_pure s2 hs2) ?_
    simp
    obtain ⟨j, hj⟩ : ∃ j, n - k = j + 1 := ⟨n - k - 1, by omega⟩
    rw [hj] at hrel
    have e : argsR st = sRepR oneR j (acc ++ [(oneR s2).1]) (oneR s2).2 := by rw [hrel]; simp [sRepR, he]
    refine ⟨by omega, ⟨k + 1, acc ++ [(oneR s2).1], (oneR s2).2⟩, ⟨by simp; omega, by simp [hacc], ?_, by simp; omega⟩, by simp; omega, srcs [(0, .id 0), (1, .id 1), (2, .id 33)], ?_⟩
    · show argsR st = sRepR oneR (n - (k + 1)) _ _
      rw [e, show n - (k + 1) = j by omega]
    · simp [SLeK]
      refine ⟨DLe_int (wrap_succ (by omega)), fun i hi => ?_⟩
      subst hacc
      exact appRow_snoc intC 0 (by rfl) hi
  · have e : argsR st = (acc, s2) := by rw [hrel]; exact sRepR_stop (by omega)
    rw [e]
    subst hacc
    exact DLe.refl _
set_option maxRecDepth 10000 in
theorem r6inst_pure (st : RS) (hs : st.s.size ≤ 140737488355328) : APure Try.prog 67 [.agg [.str (st).s, .int (st).e]] (.tup [.agg [.str ((instR st).2).s, .int ((instR st).2).e], .agg (instC (instR st).1)]) := by
  refine apureG _ _ Try.func67 (by kernel_rfl) t_marlineref06_takeInst u_marlineref06_takeInst rfl rfl (fun hx => ?_)
  clear hx
  simp [c_marlineref06_takeInst, r_marlineref06_takeInst]
  refine call_plain (ds := [.agg [.str (st).s, .int (st).e]]) _ (by simp) (by simp) (fun _ => by simp) (fun _ => r6one_pure st hs) ?_
  simp
  have e0 : instR st = inst2R (oneR st).1 (oneR st).2 := rfl
  have hle := oneR_le st
  generalize oneR st = q at e0 hle ⊢
  obtain ⟨op, s1⟩ := q
  simp only at e0 hle ⊢
  have hi : s1.e = 0 → ¬ (op < 1 ∨ 16 < op) → instR st = inst1R op s1 := fun h h' => by rw [e0]; unfold inst2R; rw [if_pos h, if_neg h']
  refine ⟨fun h => ?_, fun h => ⟨fun c0 => ?_, fun g1 g2 => ?_⟩⟩
  · rw [show instR st = (⟨op, 0, 0, 0, ⟨#[]⟩, []⟩, s1) by rw [e0]; unfold inst2R; rw [if_neg h]]
    exact DLe_tup ⟨DLe.refl _, DLe_agg ⟨DLe.refl _, DLe.refl _, DLe.refl _, DLe.refl _, DLe.refl _, intsD_nil, trivial⟩, trivial⟩
  · rw [show instR st = (⟨op, 0, 0, 0, ⟨#[]⟩, []⟩, badS 3) by rw [e0]; unfold inst2R; rw [if_pos h, if_pos c0]]
    exact DLe_tup ⟨DLe.refl _, DLe_agg ⟨DLe.refl _, DLe.refl _, DLe.refl _, DLe.refl _, DLe.refl _, intsD_nil, trivial⟩, trivial⟩
  rw [hi h (by omega)]
  have hop : op = 1 ∨ (2 ≤ op ∧ op ≤ 11) ∨ op = 12 ∨ op = 13 ∨ op = 14 ∨ op = 15 ∨ op = 16 := by omega
  clear hi e0 g1 g2
  rcases hop with rfl | ⟨h2, h11⟩ | rfl | rfl | rfl | rfl | rfl
  · simp
    have hz0 := wideR_le s1
    refine call_plain (ds := [.agg [.str (s1).s, .int (s1).e]]) _ (by simp) (by simp) (fun _ => by simp) (fun _ => r6wide_pure s1 (by omega)) ?_
    simp
    rw [show inst1R 1 s1 = (⟨1, 0, 0, (wideR s1).1, ⟨#[]⟩, []⟩, (wideR s1).2) by unfold inst1R; simp [sBind, sRet]]
    exact DLe_tup ⟨DLe.refl _, DLe_agg ⟨DLe.refl _, DLe.refl _, DLe.refl _, DLe.refl _, DLe.refl _, intsD_nil, trivial⟩, trivial⟩
  · simp [h2, h11, show ¬ op = 1 by omega, show ¬ op = 12 by omega, show ¬ op = 13 by omega, show ¬ op = 14 by omega, show ¬ op = 16 by omega, show ¬ op < 2 by omega, show ¬ 11 < op by omega, show ¬ 12 ≤ op by omega, show op < 12 by omega]
    have hz0 := oneR_le s1
    refine call_plain (ds := [.agg [.str (s1).s, .int (s1).e]]) _ (by simp) (by simp) (fun _ => by simp) (fun _ => r6one_pure s1 (by omega)) ?_
    simp [h2, h11, show ¬ op = 1 by omega, show ¬ op = 12 by omega, show ¬ op = 13 by omega, show ¬ op = 14 by omega, show ¬ op = 16 by omega, show ¬ op < 2 by omega, show ¬ 11 < op by omega, show ¬ 12 ≤ op by omega, show op < 12 by omega]
    have hz1 := oneR_le (oneR s1).2
    refine call_plain (ds := [.agg [.str ((oneR s1).2).s, .int ((oneR s1).2).e]]) _ (by simp) (by simp) (fun _ => by simp) (fun _ => r6one_pure (oneR s1).2 (by omega)) ?_
    simp [h2, h11, show ¬ op = 1 by omega, show ¬ op = 12 by omega, show ¬ op = 13 by omega, show ¬ op = 14 by omega, show ¬ op = 16 by omega, show ¬ op < 2 by omega, show ¬ 11 < op by omega, show ¬ 12 ≤ op by omega, show op < 12 by omega]
    rw [show inst1R op s1 = (⟨op, (oneR s1).1, (oneR (oneR s1).2).1, 0, ⟨#[]⟩, []⟩, (oneR (oneR s1).2).2) by unfold inst1R; simp [sBind, sRet, h2, h11, show ¬ op = 1 by omega, show ¬ op = 12 by omega, show ¬ op = 13 by omega, show ¬ op = 14 by omega, show ¬ op = 16 by omega, show ¬ op < 2 by omega, show ¬ 11 < op by omega, show ¬ 12 ≤ op by omega, show op < 12 by omega]]
    exact DLe_tup ⟨DLe.refl _, DLe_agg ⟨DLe.refl _, DLe.refl _, DLe.refl _, DLe.refl _, DLe.refl _, intsD_nil, trivial⟩, trivial⟩
  · simp
    have hz0 := wordR_le s1
    refine call_plain (ds := [.agg [.str (s1).s, .int (s1).e]]) _ (by simp) (by simp) (fun _ => by simp) (fun _ => r6word_pure s1 (by omega)) ?_
    simp
    rw [show inst1R 12 s1 = (⟨12, 0, 0, 0, (wordR s1).1, []⟩, (wordR s1).2) by unfold inst1R; simp [sBind, sRet]]
    exact DLe_tup ⟨DLe.refl _, DLe_agg ⟨DLe.refl _, DLe.refl _, DLe.refl _, DLe.refl _, DLe.refl _, intsD_nil, trivial⟩, trivial⟩
  · simp
    have hz0 := oneR_le s1
    refine call_plain (ds := [.agg [.str (s1).s, .int (s1).e]]) _ (by simp) (by simp) (fun _ => by simp) (fun _ => r6one_pure s1 (by omega)) ?_
    simp
    have hz1 := wordR_le (oneR s1).2
    refine call_plain (ds := [.agg [.str ((oneR s1).2).s, .int ((oneR s1).2).e]]) _ (by simp) (by simp) (fun _ => by simp) (fun _ => r6word_pure (oneR s1).2 (by omega)) ?_
    simp
    rw [show inst1R 13 s1 = (⟨13, (oneR s1).1, 0, 0, (wordR (oneR s1).2).1, []⟩, (wordR (oneR s1).2).2) by unfold inst1R; simp [sBind, sRet]]
    exact DLe_tup ⟨DLe.refl _, DLe_agg ⟨DLe.refl _, DLe.refl _, DLe.refl _, DLe.refl _, DLe.refl _, intsD_nil, trivial⟩, trivial⟩
  · simp
    have hz0 := wordR_le s1
    refine call_plain (ds := [.agg [.str (s1).s, .int (s1).e]]) _ (by simp) (by simp) (fun _ => by simp) (fun _ => r6word_pure s1 (by omega)) ?_
    simp
    have hz1 := argsR_le (wordR s1).2
    refine call_plain (ds := [.agg [.str ((wordR s1).2).s, .int ((wordR s1).2).e]]) _ (by simp) (by simp) (fun _ => by simp) (fun _ => r6args_pure (wordR s1).2 (by omega)) ?_
    simp
    rw [show inst1R 14 s1 = (⟨14, 0, 0, 0, (wordR s1).1, (argsR (wordR s1).2).1⟩, (argsR (wordR s1).2).2) by unfold inst1R; simp [sBind, sRet]]
    exact DLe_tup ⟨DLe.refl _, DLe_agg ⟨DLe.refl _, DLe.refl _, DLe.refl _, DLe.refl _, DLe.refl _, DLe.refl _, trivial⟩, trivial⟩
  · try simp
    rw [show inst1R 15 s1 = (⟨15, 0, 0, 0, ⟨#[]⟩, []⟩, s1) by unfold inst1R; simp [sBind, sRet]]
    exact DLe_tup ⟨DLe.refl _, DLe_agg ⟨DLe.refl _, DLe.refl _, DLe.refl _, DLe.refl _, DLe.refl _, intsD_nil, trivial⟩, trivial⟩
  · simp
    have hz0 := oneR_le s1
    refine call_plain (ds := [.agg [.str (s1).s, .int (s1).e]]) _ (by simp) (by simp) (fun _ => by simp) (fun _ => r6one_pure s1 (by omega)) ?_
    simp
    rw [show inst1R 16 s1 = (⟨16, (oneR s1).1, 0, 0, ⟨#[]⟩, []⟩, (oneR s1).2) by unfold inst1R; simp [sBind, sRet]]
    exact DLe_tup ⟨DLe.refl _, DLe_agg ⟨DLe.refl _, DLe.refl _, DLe.refl _, DLe.refl _, DLe.refl _, intsD_nil, trivial⟩, trivial⟩

set_option maxRecDepth 10000 in
theorem r6end_pure (st : RS) (hs : st.s.size ≤ 140737488355328) : APure Try.prog 68 [.agg [.str (st).s, .int (st).e]] (.tup [.agg [.str ((endR st).2).s, .int ((endR st).2).e], .agg (termC (endR st).1)]) := by
  refine apureG _ _ Try.func68 (by kernel_rfl) t_marlineref06_takeEnd u_marlineref06_takeEnd rfl rfl (fun hx => ?_)
  clear hx
  simp [c_marlineref06_takeEnd, r_marlineref06_takeEnd]
  refine call_plain (ds := [.agg [.str (st).s, .int (st).e]]) _ (by simp) (by simp) (fun _ => by simp) (fun _ => r6one_pure st hs) ?_
  simp
  have e0 : endR st = end2R (oneR st).1 (oneR st).2 := rfl
  have hle := oneR_le st
  generalize oneR st = q at e0 hle ⊢
  obtain ⟨kind, s1⟩ := q
  simp only at e0 hle ⊢
  have hi : s1.e = 0 → ¬ (kind < 1 ∨ 3 < kind) → endR st = end1R kind s1 := fun h h' => by rw [e0]; unfold end2R; rw [if_pos h, if_neg h']
  refine ⟨fun h => ?_, fun h => ⟨fun c0 => ?_, fun g1 g2 => ?_⟩⟩
  · rw [show endR st = (⟨0, [], kind, 0, 0, [], 0, []⟩, s1) by rw [e0]; unfold end2R; rw [if_neg h]]
    exact DLe_tup ⟨DLe.refl _, DLe_agg ⟨DLe.refl _, DLe.refl _, DLe.refl _, intsD_nil, DLe.refl _, intsD_nil, trivial⟩, trivial⟩
  · rw [show endR st = (⟨0, [], kind, 0, 0, [], 0, []⟩, badS 3) by rw [e0]; unfold end2R; rw [if_pos h, if_pos c0]]
    exact DLe_tup ⟨DLe.refl _, DLe_agg ⟨DLe.refl _, DLe.refl _, DLe.refl _, intsD_nil, DLe.refl _, intsD_nil, trivial⟩, trivial⟩
  rw [hi h (by omega)]
  have hop : kind = 1 ∨ kind = 2 ∨ kind = 3 := by omega
  clear hi e0 g1 g2
  rcases hop with rfl | rfl | rfl
  · simp
    have hz0 := oneR_le s1
    refine call_plain (ds := [.agg [.str (s1).s, .int (s1).e]]) _ (by simp) (by simp) (fun _ => by simp) (fun _ => r6one_pure s1 (by omega)) ?_
    simp
    have hz1 := argsR_le (oneR s1).2
    refine call_plain (ds := [.agg [.str ((oneR s1).2).s, .int ((oneR s1).2).e]]) _ (by simp) (by simp) (fun _ => by simp) (fun _ => r6args_pure (oneR s1).2 (by omega)) ?_
    simp
    rw [show end1R 1 s1 = (⟨0, [], 1, 0, (oneR s1).1, (argsR (oneR s1).2).1, 0, []⟩, (argsR (oneR s1).2).2) by unfold end1R; simp [sBind, sRet]]
    exact DLe_tup ⟨DLe.refl _, DLe_agg ⟨DLe.refl _, DLe.refl _, DLe.refl _, DLe.refl _, DLe.refl _, intsD_nil, trivial⟩, trivial⟩
  · simp
    have hz0 := oneR_le s1
    refine call_plain (ds := [.agg [.str (s1).s, .int (s1).e]]) _ (by simp) (by simp) (fun _ => by simp) (fun _ => r6one_pure s1 (by omega)) ?_
    simp
    have hz1 := oneR_le (oneR s1).2
    refine call_plain (ds := [.agg [.str ((oneR s1).2).s, .int ((oneR s1).2).e]]) _ (by simp) (by simp) (fun _ => by simp) (fun _ => r6one_pure (oneR s1).2 (by omega)) ?_
    simp
    have hz2 := argsR_le (oneR (oneR s1).2).2
    refine call_plain (ds := [.agg [.str ((oneR (oneR s1).2).2).s, .int ((oneR (oneR s1).2).2).e]]) _ (by simp) (by simp) (fun _ => by simp) (fun _ => r6args_pure (oneR (oneR s1).2).2 (by omega)) ?_
    simp
    have hz3 := oneR_le (argsR (oneR (oneR s1).2).2).2
    refine call_plain (ds := [.agg [.str ((argsR (oneR (oneR s1).2).2).2).s, .int ((argsR (oneR (oneR s1).2).2).2).e]]) _ (by simp) (by simp) (fun _ => by simp) (fun _ => r6one_pure (argsR (oneR (oneR s1).2).2).2 (by omega)) ?_
    simp
    have hz4 := argsR_le (oneR (argsR (oneR (oneR s1).2).2).2).2
    refine call_plain (ds := [.agg [.str ((oneR (argsR (oneR (oneR s1).2).2).2).2).s, .int ((oneR (argsR (oneR (oneR s1).2).2).2).2).e]]) _ (by simp) (by simp) (fun _ => by simp) (fun _ => r6args_pure (oneR (argsR (oneR (oneR s1).2).2).2).2 (by omega)) ?_
    simp
    rw [show end1R 2 s1 = (⟨0, [], 2, (oneR s1).1, (oneR (oneR s1).2).1, (argsR (oneR (oneR s1).2).2).1, (oneR (argsR (oneR (oneR s1).2).2).2).1, (argsR (oneR (argsR (oneR (oneR s1).2).2).2).2).1⟩, (argsR (oneR (argsR (oneR (oneR s1).2).2).2).2).2) by unfold end1R; simp [sBind, sRet]]
    exact DLe_tup ⟨DLe.refl _, DLe_agg ⟨DLe.refl _, DLe.refl _, DLe.refl _, DLe.refl _, DLe.refl _, DLe.refl _, trivial⟩, trivial⟩
  · simp
    have hz0 := oneR_le s1
    refine call_plain (ds := [.agg [.str (s1).s, .int (s1).e]]) _ (by simp) (by simp) (fun _ => by simp) (fun _ => r6one_pure s1 (by omega)) ?_
    simp
    rw [show end1R 3 s1 = (⟨0, [], 3, (oneR s1).1, 0, [], 0, []⟩, (oneR s1).2) by unfold end1R; simp [sBind, sRet]]
    exact DLe_tup ⟨DLe.refl _, DLe_agg ⟨DLe.refl _, DLe.refl _, DLe.refl _, intsD_nil, DLe.refl _, intsD_nil, trivial⟩, trivial⟩
theorem inst2R_le (op : Int) : Le (inst2R op) := fun st => by
  unfold inst2R
  split
  · split
    · exact bad_le _ _
    · refine (?_ : Le (inst1R op)) st
      unfold inst1R
      split
      · exact sBind_le wideR_le fun _ => sRet_le _
      split
      · exact sBind_le oneR_le fun _ => sBind_le oneR_le fun _ => sRet_le _
      split
      · exact sBind_le wordR_le fun _ => sRet_le _
      split
      · exact sBind_le oneR_le fun _ => sBind_le wordR_le fun _ => sRet_le _
      split
      · exact sBind_le wordR_le fun _ => sBind_le argsR_le fun _ => sRet_le _
      split
      · exact sBind_le oneR_le fun _ => sRet_le _
      · exact sRet_le _
  · exact Nat.le_refl _
theorem instR_le : Le instR := sBind_le oneR_le inst2R_le
theorem end2R_le (kind : Int) : Le (end2R kind) := fun st => by
  unfold end2R
  split
  · split
    · exact bad_le _ _
    · refine (?_ : Le (end1R kind)) st
      unfold end1R
      split
      · exact sBind_le oneR_le fun _ => sBind_le argsR_le fun _ => sRet_le _
      split
      · exact sBind_le oneR_le fun _ => sBind_le oneR_le fun _ => sBind_le argsR_le fun _ => sBind_le oneR_le fun _ => sBind_le argsR_le fun _ => sRet_le _
      · exact sBind_le oneR_le fun _ => sRet_le _
  · exact Nat.le_refl _
theorem endR_le : Le endR := sBind_le oneR_le end2R_le
theorem blockR_le : Le blockR := sBind_le oneR_le fun _ => sBind_le (sevR_le instR_le 32) fun _ => sBind_le endR_le fun _ => sRet_le _
theorem funcR_le : Le funcR := sBind_le wordR_le fun _ => sBind_le oneR_le fun _ => sBind_le oneR_le fun _ => sBind_le (sevR_le blockR_le 16) fun _ => sRet_le _
theorem hereR_le (here : Int) : Le (hereR here) := fun st => by
  unfold hereR
  simp only
  split
  · exact bad_le _ _
  · exact Nat.le_refl _
theorem globR_le : Le globR := sBind_le wordR_le fun _ => sBind_le oneR_le fun _ => sBind_le oneR_le fun _ => sBind_le (hereR_le _) fun _ => sBind_le wideR_le fun _ => sRet_le _

end Go.Proofs.Ytciihchbiifgkaa
