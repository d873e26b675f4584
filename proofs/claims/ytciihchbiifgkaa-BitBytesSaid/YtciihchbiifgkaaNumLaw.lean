/- The plain laws of numbers as bytes: what taking a number does, as a function on lists; it gives back what was written. -/
import Derived.Lib.VarintMem
import Derived.Lib.Strings
import Derived.IntWalk
import Derived.Lib.VarintBits
namespace Go.Proofs.Ytciihchbiifgkaa

/-- Taking a number's bytes: place i, the number so far v. The third part: 0 taken, 2 bytes are missing, 3 not of the form. -/
def takeAt (i v : Nat) : List UInt8 → Nat × List UInt8 × Nat
  | [] => (0, [], 2)
  | c :: r =>
    if 10 ≤ i then (0, [], 2)
    else if i = 9 ∧ 1 < c.toNat then (0, [], 3)
    else if c.toNat < 128 then
      if 0 < i ∧ c.toNat = 0 then (0, [], 3) else (v + c.toNat * 128 ^ i, r, 0)
    else takeAt (i + 1) (v + (c.toNat % 128) * 128 ^ i) r

def takeNum (l : List UInt8) : Nat × List UInt8 × Nat := takeAt 0 0 l

theorem takeAt_end {i v : Nat} {l : List UInt8} (h : 10 ≤ i ∨ l = []) : takeAt i v l = (0, [], 2) := by
  cases l with
  | nil => rfl
  | cons c r =>
    rcases h with h | h
    · rw [takeAt, if_pos h]
    · cases h

theorem drop_cons (s : ByteArray) (k : Nat) (h : k < s.size) : s.data.toList.drop k = s[k] :: s.data.toList.drop (k + 1) := by
  rw [List.drop_eq_getElem_cons (by simpa using h)]; rfl

theorem takeAt_great {s : ByteArray} {k v : Nat} (h : k < s.size) (hk : k = 9) (h1 : 1 < s[k].toNat) : takeAt k v (s.data.toList.drop k) = (0, [], 3) := by
  rw [drop_cons s k h, takeAt, if_neg (by omega), if_pos ⟨hk, h1⟩]

theorem takeAt_zero {s : ByteArray} {k v : Nat} (h : k < s.size) (hk : k < 10) (h0 : 0 < k) (h1 : s[k].toNat = 0) : takeAt k v (s.data.toList.drop k) = (0, [], 3) := by
  rw [drop_cons s k h, takeAt, if_neg (by omega), if_neg (by omega), if_pos (by omega), if_pos ⟨h0, h1⟩]

theorem takeAt_last {s : ByteArray} {k v : Nat} (h : k < s.size) (hk : k < 10) (h9 : ¬ (k = 9 ∧ 1 < s[k].toNat)) (h0 : ¬ (0 < k ∧ s[k].toNat = 0)) (h1 : s[k].toNat < 128) :
    takeAt k v (s.data.toList.drop k) = (v + s[k].toNat * 128 ^ k, s.data.toList.drop (k + 1), 0) := by
  rw [drop_cons s k h, takeAt, if_neg (by omega), if_neg h9, if_pos h1, if_neg h0]

theorem takeAt_more {s : ByteArray} {k v : Nat} (h : k < s.size) (hk : k < 9) (h1 : 128 ≤ s[k].toNat) :
    takeAt k v (s.data.toList.drop k) = takeAt (k + 1) (v + (s[k].toNat % 128) * 128 ^ k) (s.data.toList.drop (k + 1)) := by
  rw [drop_cons s k h, takeAt, if_neg (by omega), if_neg (by omega), if_neg (by omega)]

theorem pow128 (k : Nat) : 128 ^ k = 2 ^ (7 * k) := by rw [Nat.pow_mul]

theorem pow128_le {k : Nat} (h : k ≤ 9) : 128 ^ k ≤ 9223372036854775808 := by
  have := Nat.pow_le_pow_right (n := 128) (i := k) (j := 9) (by decide) h
  simpa using this

/-- One more place: the number stays below the next power. -/
theorem acc_lt {k v c : Nat} (h : v < 128 ^ k) (hc : c < 128) : v + c * 128 ^ k < 128 ^ (k + 1) := by
  have h1 : c * 128 ^ k ≤ 127 * 128 ^ k := Nat.mul_le_mul_right _ (by omega)
  rw [Nat.pow_succ]; omega

theorem acc_lt64 {k v c : Nat} (h : v < 128 ^ k) (hk : k ≤ 9) (hc : c < 128) (h9 : k = 9 → c ≤ 1) : v + c * 128 ^ k < 18446744073709551616 := by
  by_cases e : k = 9
  · subst e
    have := h9 rfl
    have e9 : 128 ^ 9 = 9223372036854775808 := by decide
    rw [e9] at h ⊢
    have : c * 9223372036854775808 ≤ 1 * 9223372036854775808 := Nat.mul_le_mul_right _ this
    omega
  · have h1 := acc_lt h hc
    have h2 := pow128_le (k := k + 1) (by omega)
    omega

/-- One place of the number, as the code reckons it. -/
theorem acc_or {x c k : Nat} (hx : x < 128 ^ k) (hk : k ≤ 9) (hc : c < 256) (h9 : k = 9 → c % 128 ≤ 1) :
    bits .or .u64 (x : Int) (IntKind.u64.wrap (IntKind.u64.wrap (bits .and .u8 (c : Int) 127) * 2 ^ (7 * k))) = ((x + (c % 128) * 128 ^ k : Nat) : Int) := by
  have hp := pow128_le hk
  have h0 : 0 < 128 ^ k := Nat.pow_pos (by omega)
  have hlt := acc_lt64 (k := k) (v := 0) (c := c % 128) h0 hk (by omega) h9
  rw [u8_and127 _ (by omega) (by omega), show IntKind.u64.wrap ((c : Int) % 128) = (c : Int) % 128 from u64_wrap_id _ (by omega) (by omega)]
  have e : (c : Int) % 128 * 2 ^ (7 * k) = (((c % 128) * 2 ^ (7 * k) : Nat) : Int) := by
    rw [Int.natCast_mul, Int.natCast_emod, Int.natCast_pow]; rfl
  rw [pow128] at *
  rw [e, u64_wrap_id _ (by omega) (by omega)]
  rw [bits_join_low .u64 64 (by decide) wraps_u64 (7 * k) _ _ (by omega) ?_ (by omega) (by omega) ?_ (by omega)]
  · omega
  · rw [show (2 : Int) ^ (7 * k) = ((2 ^ (7 * k) : Nat) : Int) by rw [Int.natCast_pow]; rfl]; omega
  · rw [show (2 : Int) ^ (7 * k) = ((2 ^ (7 * k) : Nat) : Int) by rw [Int.natCast_pow]; rfl, ← Int.natCast_emod, Nat.mul_mod_left]; rfl

theorem acc_or_small {x c k : Nat} (hx : x < 128 ^ k) (hk : k ≤ 9) (hc : c < 128) (h9 : k = 9 → c ≤ 1) :
    bits .or .u64 (x : Int) (IntKind.u64.wrap (IntKind.u64.wrap (bits .and .u8 (c : Int) 127) * 2 ^ (7 * k))) = ((x + c * 128 ^ k : Nat) : Int) := by
  have h := acc_or hx hk (by omega : c < 256) (fun e => by have := h9 e; omega)
  rw [Nat.mod_eq_of_lt hc] at h
  exact h

theorem extract_drop (s : ByteArray) (a : Nat) : s.extract a s.size = ⟨(s.data.toList.drop a).toArray⟩ := by
  rw [Lib.extract_eq, List.take_of_length_le]
  simp

/-- What is taken is a number of 64 bits. -/
theorem takeAt_lt : ∀ (l : List UInt8) (i v : Nat), v < 128 ^ i → (takeAt i v l).1 < 18446744073709551616
  | [], i, v, _ => by simp [takeAt]
  | c :: r, i, v, h => by
    rw [takeAt]
    split
    · simp
    · split
      · simp
      · split
        · split
          · simp
          · exact acc_lt64 h (by omega) (by omega) (by omega)
        · exact takeAt_lt r _ _ (acc_lt h (by omega))

end Go.Proofs.Ytciihchbiifgkaa
