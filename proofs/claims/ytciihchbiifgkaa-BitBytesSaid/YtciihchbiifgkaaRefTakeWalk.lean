/- The document's TakeNum gives what the plain 'takeNum' gives. -/
import Derived.Test.YtciihchbiifgkaaTakeWalk
namespace Go.Proofs.Ytciihchbiifgkaa
open Go.RowKit

theorem ref_acc {k x p c : Nat} (hp : p = 128 ^ k) (hx : x < p) (hk : k ≤ 9) (h9 : k = 9 → c % 128 ≤ 1) :
    IntKind.u64.wrap ((x : Int) + IntKind.u64.wrap ((c : Int) % 128 * (p : Int))) = ((x + (c % 128) * 128 ^ k : Nat) : Int) := by
  have h0 : 0 < 128 ^ k := Nat.pow_pos (by omega)
  have h1 := acc_lt64 (k := k) (v := 0) (c := c % 128) h0 hk (by omega) h9
  have h2 := acc_lt64 (k := k) (v := x) (c := c % 128) (hp ▸ hx) hk (by omega) h9
  rw [← hp] at h1 h2 ⊢
  have e : (c : Int) % 128 * (p : Int) = (((c % 128) * p : Nat) : Int) := by rw [Int.natCast_mul, Int.natCast_emod]; rfl
  rw [e, show IntKind.u64.wrap (((c % 128) * p : Nat) : Int) = (((c % 128) * p : Nat) : Int) from u64_wrap_id _ (by omega) (by omega), u64_wrap_id _ (by omega) (by omega)]
  omega

theorem ref_acc_small {k x p c : Nat} (hp : p = 128 ^ k) (hx : x < p) (hk : k ≤ 9) (hc : c < 128) (h9 : k = 9 → c ≤ 1) :
    IntKind.u64.wrap ((x : Int) + IntKind.u64.wrap ((c : Int) % 128 * (p : Int))) = ((x + c * 128 ^ k : Nat) : Int) := by
  have h := ref_acc (c := c) hp hx hk (fun e => by have := h9 e; omega)
  rw [Nat.mod_eq_of_lt hc] at h
  exact h

theorem ref_pow {k p : Nat} (hp : p = 128 ^ k) (hk : k < 9) : p * 128 ≤ 9223372036854775808 ∧ p * 128 = 128 ^ (k + 1) ∧ IntKind.u64.wrap ((p : Int) * 128) = ((p * 128 : Nat) : Int) := by
  have h := pow128_le (k := k + 1) (by omega)
  have e : p * 128 = 128 ^ (k + 1) := by rw [hp, Nat.pow_succ]
  refine ⟨by omega, e, ?_⟩
  rw [u64_wrap_id _ (by omega) (by omega)]
  omega

set_option maxHeartbeats 1000000 in
set_option maxRecDepth 100000 in
theorem refTakeNum_any (s : ByteArray) (w : World) (hs : s.size ≤ maxLen) :
    Calls Try.prog 69 #[.string s] w fun e w' => e = .returned (numVal (takeNum s.data.toList)) ∧ ∃ n, w' = w.drewN n := by
  unfold maxLen at hs
  go_enter Try.func69, Try.ntmps69
  go_wp2
  go_loop [5, 6, 7] (fun v f i => ∃ k x p : Nat, k ≤ s.size ∧ k ≤ 9 ∧ i = .int .i64 k ∧ v = .int .u64 x ∧ f = .int .u64 p ∧ x < p ∧ p ≤ 9223372036854775808 ∧ Hid (p = 128 ^ k) ∧ Hid (takeNum s.data.toList = takeAt k x (s.data.toList.drop k))) (fun _ _ i => 10 - (intOf i).toNat)
  case atStart => exact ⟨0, 0, 1, by omega, by omega, rfl, rfl, rfl, by omega, by omega, rfl, rfl⟩
  case round =>
    obtain ⟨k, x, p, hks, hk9, rfl, rfl, rfl, hxp, hp64, HP, HT⟩ := hrel
    by_cases hl1 : k < s.size
    · have hc256 := s[k].toNat_lt
      by_cases h9 : k = 9
      · have e9 : ((k : Int) == 9) = true := by simp [h9]
        have h0k : 0 < k := by omega
        have H9 : Hid (k = 9) := h9
        clear h9
        by_cases hc1 : 1 < s[k].toNat
        · go_wp2
          go_ret3
          exact ⟨numVal_mk (HT.out.trans (takeAt_great hl1 H9.out hc1)) rfl rfl rfl, 0, rfl⟩
        · by_cases hc0 : 0 < s[k].toNat
          · have HS := Lib.hid (ref_acc_small (c := s[k].toNat) HP.out hxp hk9 (by omega) (by omega))
            go_wp2
            go_quiet (fail)
            go_wp2
            go_ret3
            exact ⟨numVal_mk (HT.out.trans (takeAt_last hl1 (by omega) (by omega) (by omega) (by omega))) (congrArg (Value.int .u64) HS.out) (congrArg Value.string (extract_drop s (k + 1))) rfl, _, rfl⟩
          · go_wp2
            go_ret3
            exact ⟨numVal_mk (HT.out.trans (takeAt_zero hl1 (by omega) h0k (by omega))) rfl rfl rfl, 0, rfl⟩
      · have e9 : ((k : Int) == 9) = false := by simp; omega
        have hk9' : k < 9 := by omega
        clear h9
        have HA := Lib.hid (ref_acc (c := s[k].toNat) HP.out hxp (by omega) (by omega))
        have HP2 := Lib.hid (ref_pow HP.out hk9')
        have HL := Lib.hid (acc_lt (c := s[k].toNat % 128) (HP.out ▸ hxp) (by omega))
        by_cases hc1 : s[k].toNat < 128
        · have HS := Lib.hid (ref_acc_small (c := s[k].toNat) HP.out hxp hk9 (by omega) (by omega))
          by_cases h0k : 0 < k
          · by_cases hc0 : 0 < s[k].toNat
            · go_wp2
              go_quiet (fail)
              go_wp2
              go_ret3
              exact ⟨numVal_mk (HT.out.trans (takeAt_last hl1 (by omega) (by omega) (by omega) (by omega))) (congrArg (Value.int .u64) HS.out) (congrArg Value.string (extract_drop s (k + 1))) rfl, _, rfl⟩
            · go_wp2
              go_ret3
              exact ⟨numVal_mk (HT.out.trans (takeAt_zero hl1 (by omega) h0k (by omega))) rfl rfl rfl, 0, rfl⟩
          · go_wp2
            go_quiet (fail)
            go_wp2
            go_ret3
            exact ⟨numVal_mk (HT.out.trans (takeAt_last hl1 (by omega) (by omega) (by omega) (by omega))) (congrArg (Value.int .u64) HS.out) (congrArg Value.string (extract_drop s (k + 1))) rfl, _, rfl⟩
        · go_wp2
          go_round
          case rel => exact ⟨k + 1, _, p * 128, by omega, by omega, by go_num, congrArg (Value.int .u64) HA.out, congrArg (Value.int .u64) HP2.out.2.2, by have := HL.out; rw [← HP2.out.2.1] at this; exact this, HP2.out.1, HP2.out.2.1, HT.out.trans (takeAt_more hl1 hk9' (by omega))⟩
          case measure => simp [intOf]; omega
    · go_wp2
      go_ret3
      exact ⟨numVal_mk (HT.out.trans (takeAt_end (by right; rw [List.drop_eq_nil_iff]; simp; omega))) rfl rfl rfl, 0, rfl⟩

end Go.Proofs.Ytciihchbiifgkaa
