/- bit.TakeNum gives what the plain 'takeNum' gives. -/
import Derived.Test.YtciihchbiifgkaaNumWalk
import Derived.Test.YtciihchbiifgkaaNumLaw
import Derived.BigQuiet
import Derived.Deep.QuietTactic
import Derived.OwnWalk
import Derived.Lib.Hide
namespace Go.Proofs.Ytciihchbiifgkaa
open Go.RowKit

/-- The three results of taking a number. -/
def numVal (t : Nat × List UInt8 × Nat) : Value := .tuple #[.int .u64 t.1, .string ⟨t.2.1.toArray⟩, .int .i64 t.2.2]

theorem numVal_mk {t : Nat × List UInt8 × Nat} {x : Nat} {r : List UInt8} {c : Nat} (h : t = (x, r, c)) {a b d : Value} (ha : a = .int .u64 x) (hb : b = .string ⟨r.toArray⟩) (hd : d = .int .i64 c) :
    Ending.returned (.tuple #[a, b, d]) = .returned (numVal t) := by subst h ha hb hd; rfl

set_option maxHeartbeats 1000000 in
set_option maxRecDepth 100000 in
theorem takeNum_any (s : ByteArray) (w : World) (hs : s.size ≤ maxLen) :
    Calls Try.prog 15 #[.string s] w fun e w' => e = .returned (numVal (takeNum s.data.toList)) ∧ ∃ n, w' = w.drewN n := by
  unfold maxLen at hs
  go_enter Try.func15, Try.ntmps15
  go_wp2
  all_goals
    go_loop [5, 11] (fun v i => ∃ k x : Nat, k ≤ s.size ∧ k ≤ 10 ∧ i = .int .i64 k ∧ v = .int .u64 x ∧ Hid (x < 128 ^ k) ∧ Hid (takeNum s.data.toList = takeAt k x (s.data.toList.drop k))) (fun _ i => 10 - (intOf i).toNat)
    case atStart => exact ⟨0, 0, by omega, by omega, rfl, rfl, show _ < _ by decide, rfl⟩
    case round =>
      obtain ⟨k, x, hks, hk10, rfl, rfl, hx, HT⟩ := hrel
      by_cases hlt : k < s.size ∧ k < 10
      · obtain ⟨hl1, hl2⟩ := hlt
        have hc256 := s[k].toNat_lt
        by_cases h9 : k = 9
        · have e9 : ((k : Int) == 9) = true := by simp [h9]
          have h0k : 0 < k := by omega
          have H9 : Hid (k = 9) := h9
          clear h9
          by_cases hc1 : 1 < s[k].toNat
          · go_wp2
            go_ret3
            exact ⟨numVal_mk (HT.out.trans (takeAt_great hl1 H9.out hc1)) rfl rfl rfl, 0, rfl⟩
          · by_cases hc0 : 0 < s[k].toNat
            · have HS := Lib.hid (acc_or_small (c := s[k].toNat) hx.out (by omega) (by omega) (by omega))
              go_wp2
              go_quiet (fail)
              go_wp2
              go_ret3
              exact ⟨numVal_mk (HT.out.trans (takeAt_last hl1 hl2 (by omega) (by omega) (by omega))) (congrArg (Value.int .u64) HS.out) (congrArg Value.string (extract_drop s (k + 1))) rfl, _, rfl⟩
            · go_wp2
              go_ret3
              exact ⟨numVal_mk (HT.out.trans (takeAt_zero hl1 hl2 h0k (by omega))) rfl rfl rfl, 0, rfl⟩
        · have e9 : ((k : Int) == 9) = false := by simp; omega
          have hk9 : k < 9 := by omega
          clear h9
          have HA := Lib.hid (acc_or (c := s[k].toNat) hx.out (by omega) hc256 (by omega))
          have HL : Hid _ := acc_lt (c := s[k].toNat % 128) hx.out (by omega)
          by_cases hc1 : s[k].toNat < 128
          · have HS := Lib.hid (acc_or_small (c := s[k].toNat) hx.out (by omega) (by omega) (by omega))
            by_cases h0k : 0 < k
            · by_cases hc0 : 0 < s[k].toNat
              · go_wp2
                go_quiet (fail)
                go_wp2
                go_ret3
                exact ⟨numVal_mk (HT.out.trans (takeAt_last hl1 hl2 (by omega) (by omega) (by omega))) (congrArg (Value.int .u64) HS.out) (congrArg Value.string (extract_drop s (k + 1))) rfl, _, rfl⟩
              · go_wp2
                go_ret3
                exact ⟨numVal_mk (HT.out.trans (takeAt_zero hl1 hl2 h0k (by omega))) rfl rfl rfl, 0, rfl⟩
            · go_wp2
              go_quiet (fail)
              go_wp2
              go_ret3
              exact ⟨numVal_mk (HT.out.trans (takeAt_last hl1 hl2 (by omega) (by omega) (by omega))) (congrArg (Value.int .u64) HS.out) (congrArg Value.string (extract_drop s (k + 1))) rfl, _, rfl⟩
          · go_wp2
            go_round
            case rel => exact ⟨k + 1, _, by omega, by omega, by go_num, by rw [HA.out], HL.out, HT.out.trans (takeAt_more hl1 hk9 (by omega))⟩
            case measure => simp [intOf]; omega
      · go_wp2
        go_ret3
        exact ⟨numVal_mk (HT.out.trans (takeAt_end (by rcases Nat.lt_or_ge k 10 with h | h
                                                       · right; rw [List.drop_eq_nil_iff]; simp; omega
                                                       · exact .inl h))) rfl rfl rfl, 0, rfl⟩

end Go.Proofs.Ytciihchbiifgkaa
