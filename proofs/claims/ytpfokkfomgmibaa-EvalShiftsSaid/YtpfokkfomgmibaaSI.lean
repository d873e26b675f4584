/- Contracts by the evaluator: layer 7's statement EvalShifts. -/
import Derived.Test.YtpfokkfomgmibaaSH
namespace Go.Proofs.Ytpfokkfomgmibaa
open Go.RowKit

theorem reckI_u64 (op a b : Int) : 0 ≤ reckI op a b ∧ reckI op a b < 18446744073709551616 := reckI_in op a b
theorem reckI_less (a b : Int) : (reckI 10 a b = 1) = (a < b) ∧ reckI 10 a b ≤ 1 := by
  unfold reckI
  by_cases h : a < b <;> simp [h]
theorem reckI_same (a b : Int) : (reckI 11 a b = 1) = (a = b) ∧ reckI 11 a b ≤ 1 := by
  unfold reckI
  by_cases h : a = b <;> simp [h]
theorem reckI_back (a b : Int) (ha : 0 ≤ a ∧ a < 18446744073709551616) : reckI 3 (reckI 2 a b) b = a := by
  show wrapU (wrapU (a + b) - b) = a
  unfold wrapU
  rw [wrap_u64, wrap_u64]
  omega
theorem reckI_shifts (a n : Int) (hn : 0 ≤ n) : reckI 9 (reckI 8 a n) n = (IntKind.u64.wrap (a * 2 ^ min (n.tmod 64).toNat IntKind.u64.bits)).fdiv (2 ^ min (n.tmod 64).toNat IntKind.u64.bits) := by
  have hm : 0 ≤ n.tmod 64 ∧ n.tmod 64 < 64 := ⟨Int.tmod_nonneg _ hn, Int.tmod_lt_of_pos _ (by decide)⟩
  obtain ⟨q, hq⟩ := Int.eq_ofNat_of_zero_le hm.1
  show wrapU ((wrapU (a * powI (n.tmod 64).toNat)).tdiv (powI (n.tmod 64).toNat)) = _
  rw [hq, Int.toNat_natCast, powI_eq q (by omega), show min q IntKind.u64.bits = q from Nat.min_eq_left (by show q ≤ 64; omega)]
  have h0 := wrapU_in (a * 2 ^ q)
  show wrapU ((wrapU (a * 2 ^ q)).tdiv (2 ^ q)) = (wrapU (a * 2 ^ q)).fdiv (2 ^ q)
  have hp : (0 : Int) < 2 ^ q := Int.pow_pos (by decide)
  have h1 := h0.2
  rw [Int.fdiv_eq_ediv_of_nonneg _ (Int.le_of_lt hp), Int.tdiv_eq_ediv_of_nonneg h0.1]
  have h2 := Int.ediv_le_self (2 ^ q) h0.1
  have h3 := Int.ediv_nonneg h0.1 (Int.le_of_lt hp)
  exact wrapU_id (by omega) (by omega)

set_option maxRecDepth 10000 in
theorem evalShifts_pure (a n b : Int) (ha : 0 ≤ a ∧ a < 18446744073709551616) (hn : 0 ≤ n ∧ n < 18446744073709551616) (hb : 0 ≤ b ∧ b < 18446744073709551616) : APure Try.prog 10 [.u64 a, .u64 n, .u64 b] (.bool true) := by
  refine apureG _ _ Try.func10 (by kernel_rfl) t_marlinelaw07_EvalShifts u_marlinelaw07_EvalShifts rfl rfl (fun _ => ?_)
  simp [c_marlinelaw07_EvalShifts, r_marlinelaw07_EvalShifts]
  refine call_plain (ds := []) _ (by simp) (by simp) (fun _ => rfl) (fun _ => shown07_pure) ?_
  simp
  refine call_plain (ds := [.int 8, .u64 a, .u64 n]) _ (by simp) (by simp) (fun _ => by simp) (fun _ => ereckon_pure 8 a n ha hn.1) ?_
  simp
  refine call_plain (ds := [.int 9, .u64 (reckI 8 a n), .u64 n]) _ (by simp) (by simp) (fun _ => by simp) (fun _ => ereckon_pure 9 _ n (reckI_u64 _ _ _) hn.1) ?_
  simp
  refine call_plain (ds := [.int 10, .u64 a, .u64 b]) _ (by simp) (by simp) (fun _ => by simp) (fun _ => ereckon_pure 10 a b ha hb.1) ?_
  simp
  refine call_plain (ds := [.int 11, .u64 a, .u64 b]) _ (by simp) (by simp) (fun _ => by simp) (fun _ => ereckon_pure 11 a b ha hb.1) ?_
  have h1 := reckI_shifts a n hn.1
  have h2 := reckI_less a b
  have h3 := reckI_same a b
  simp [h1, h2.1, h2.2, h3.1, h3.2]
  refine ⟨Int.tmod_nonneg _ hn.1, ?_⟩
  refine call_plain (ds := [.int 2, .u64 a, .u64 b]) _ (by simp) (by simp) (fun _ => by simp) (fun _ => ereckon_pure 2 a b ha hb.1) ?_
  simp
  refine call_plain (ds := [.int 3, .u64 (reckI 2 a b), .u64 b]) _ (by simp) (by simp) (fun _ => by simp) (fun _ => ereckon_pure 3 _ b (reckI_u64 _ _ _) hb.1) ?_
  rw [reckI_back a b ha]
  simp
  refine call_plain (ds := [.int 1, .u64 a, .u64 b]) _ (by simp) (by simp) (fun _ => by simp) (fun _ => reckon_pure 1 a b ha.1 hb.1) ?_
  simp
  refine call_plain (ds := [.int 1, .u64 a, .u64 b]) _ (by simp) (by simp) (fun _ => by simp) (fun _ => ereckon_pure 1 a b ha hb.1) ?_
  simp

end Go.Proofs.Ytpfokkfomgmibaa
