/- Contracts by the evaluator: the document's reader: a block (layer 6). -/
import Derived.Test.YtciihchbiifgkaaVE
namespace Go.Proofs.Ytciihchbiifgkaa
open Go.RowKit

set_option maxRecDepth 10000 in
theorem r6block_pure (st : RS) (hs : st.s.size ≤ 140737488355328) : APure Try.prog 44 [.agg [.str (st).s, .int (st).e]] (.tup [.agg [.str ((blockR st).2).s, .int ((blockR st).2).e], .agg (blockC (blockR st).1)]) := by
  refine apureG _ _ Try.func44 (by kernel_rfl) t_marlineref06_takeBlock u_marlineref06_takeBlock rfl rfl (fun hx => ?_)
  clear hx
  simp [c_marlineref06_takeBlock, r_marlineref06_takeBlock]
  refine call_plain (ds := [.agg [.str (st).s, .int (st).e]]) _ (by simp) (by simp) (fun _ => by simp) (fun _ => r6one_pure st hs) ?_
  simp
  have hle := oneR_le st
  refine call_plain (ds := [.agg [.str ((oneR st).2).s, .int ((oneR st).2).e], .lit (.int .u64 32)]) _ (by simp) (by simp) (fun _ => by simp) (fun _ => r6most_pure (oneR st).2 32 (by omega) (by omega)) ?_
  simp
  have e0 : blockR st = (withT (oneR st).1 (sRepR instR (mostR 32 (oneR st).2).1.toNat [] (mostR 32 (oneR st).2).2).1 (endR (sRepR instR (mostR 32 (oneR st).2).1.toNat [] (mostR 32 (oneR st).2).2).2).1, (endR (sRepR instR (mostR 32 (oneR st).2).1.toNat [] (mostR 32 (oneR st).2).2).2).2) := rfl
  have hr := mostR_rng 32 (oneR st).2
  have hle2 := mostR_le 32 (oneR st).2
  generalize mostR 32 (oneR st).2 = q at e0 hr hle2 ⊢
  obtain ⟨n, s1⟩ := q
  simp only at e0 hr hle2 ⊢
  have hs1 : s1.s.size ≤ 140737488355328 := by omega
  clear hle hle2
  generalize (oneR st).1 = params at e0 ⊢
  obtain ⟨n, rfl⟩ := Int.eq_ofNat_of_zero_le hr.1
  rw [Int.toNat_natCast] at e0
  generalize hq : sRepR instR n [] s1 = q at e0
  refine loop_s (κ := KR Inst) (fun w => w.k ≤ n ∧ w.acc.length = w.k ∧ q = sRepR instR (n - w.k) w.acc w.st ∧ w.st.s.size ≤ 140737488355328) (fun w => n - w.k) (fun w => [(sl 7, .int w.k)]) (fun w => [(0, .box [.d (.str w.st.s), .d (.int w.st.e)]), (1, .box [.d (.lit (.string ⟨#[]⟩)), .d (.lit (.int .i64 0))]), (2, .box [.d (.lit (.int .i64 0)), .d (.lit (.slice none 0 0)), .d (.lit (.int .i64 0)), .d (.lit (.int .i64 0)), .d (.lit (.int .i64 0)), .d (.lit (.slice none 0 0)), .d (.lit (.int .i64 0)), .d (.lit (.slice none 0 0))]), (12, .box [.d (.int params), .own 3 w.k, .d (.lit (.int .i64 0)), .d (.lit (.int .i64 0)), .d (.lit (.int .i64 0)), .d (.lit (.slice none 0 0)), .d (.lit (.int .i64 0)), .d (.lit (.slice none 0 0))]), (3, .row 82 6 w.k fun i => instC (w.acc[i]?.getD default))]) 22 ⟨0, [], s1⟩ (srcs [(0, .id 0), (1, .id 1), (2, .id 2), (12, .id 12), (3, .nil)]) ⟨by simp, by simp, by simpa using hq.symm, by simpa using hs1⟩ (by simp) ?_
  rintro ⟨k, acc, s2⟩ ⟨hk, hacc, hrel, hs2⟩
  simp only at hk hacc hrel hs2
  simp
  have hlo := instR_le s2
  refine ⟨fun hlt he => ?_, fun hend => ?_⟩
  · refine call_plain (ds := [.agg [.str (s2).s, .int (s2).e]]) _ (by simp) (by simp) (fun _ => by simp) (fun _ => r6inst_pure s2 hs2) ?_
    simp
    obtain ⟨j, hj⟩ : ∃ j, n - k = j + 1 := ⟨n - k - 1, by omega⟩
    rw [hj] at hrel
    have e : q = sRepR instR j (acc ++ [(instR s2).1]) (instR s2).2 := by rw [hrel]; simp [sRepR, he]

    refine ⟨by omega, ⟨k + 1, acc ++ [(instR s2).1], (instR s2).2⟩, ⟨by simp; omega, by simp [hacc], ?_, by simp; omega⟩, by simp; omega, srcs [(0, .id 0), (1, .id 1), (2, .id 2), (12, .id 12), (3, .id 45)], ?_⟩
    · show q = sRepR instR (n - (k + 1)) _ _
      rw [e, show n - (k + 1) = j by omega]
    · simp [SLeK]
      refine ⟨DLe_int (wrap_succ (by omega)), fun i hi => ?_⟩
      subst hacc
      exact appRow_snoc instC default (by rfl) hi
  · have e : q = (acc, s2) := by rw [hrel]; exact sRepR_stop (by omega)
    rw [e] at e0
    simp only at e0
    refine call_plain (ds := [.agg [.str (s2).s, .int (s2).e]]) _ (by simp) (by simp) (fun _ => by simp) (fun _ => r6end_pure s2 hs2) ?_
    simp
    rw [e0]
    subst hacc

    exact DLe_tup ⟨DLe.refl _, DLe.refl _, trivial⟩

end Go.Proofs.Ytciihchbiifgkaa
