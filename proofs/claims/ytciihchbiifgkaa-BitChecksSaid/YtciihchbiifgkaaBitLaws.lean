/- The walks of the three statements on numbers: BitNums, BitBacks, BitShort answer true. -/
import Derived.Test.YtciihchbiifgkaaRefNumWalk
import Derived.Test.YtciihchbiifgkaaRefTakeWalk
import Derived.Test.YtciihchbiifgkaaKA
namespace Go.Proofs.Ytciihchbiifgkaa
open Go.RowKit

theorem takeNum_as (s : ByteArray) (w : World) (hs : s.size ≤ maxLen) {x c : Nat} {r : List UInt8} (h : takeNum s.data.toList = (x, r, c)) :
    Calls Try.prog 15 #[.string s] w fun e w' => e = .returned (.tuple #[.int .u64 x, .string ⟨r.toArray⟩, .int .i64 c]) ∧ Ext w w' :=
  (takeNum_any s w hs).mono fun e w' ⟨he, n, hw⟩ => ⟨by rw [he, h]; rfl, by rw [hw]; exact Ext.drewN w n⟩

theorem refTakeNum_as (s : ByteArray) (w : World) (hs : s.size ≤ maxLen) {x c : Nat} {r : List UInt8} (h : takeNum s.data.toList = (x, r, c)) :
    Calls Try.prog 69 #[.string s] w fun e w' => e = .returned (.tuple #[.int .u64 x, .string ⟨r.toArray⟩, .int .i64 c]) ∧ Ext w w' :=
  (refTakeNum_any s w hs).mono fun e w' ⟨he, n, hw⟩ => ⟨by rw [he, h]; rfl, by rw [hw]; exact Ext.drewN w n⟩

theorem refNum_all (x : Nat) (w : World) (hx : x < 18446744073709551616) :
    Calls Try.prog 34 #[.int .u64 x] w fun e w' => e = .returned (.string ⟨(Lib.uvarint x).toArray⟩) ∧ Ext w w' :=
  refNum_any 10 x w (by have e : 128 ^ 10 = 1180591620717411303424 := by decide
                        omega) hx

theorem shown_take (w : World) :
    Calls Try.prog 15 #[.string ⟨#[128, 0]⟩] w fun e w' => e = .returned (.tuple #[.int .u64 0, .string ⟨#[]⟩, .int .i64 3]) ∧ Ext w w' :=
  takeNum_as ⟨#[128, 0]⟩ w (by decide) (x := 0) (r := []) (c := 3) (by decide)

theorem uvarint300 : Lib.uvarint 300 = [172, 2] := by rw [Lib.uvarint_big (by omega), Lib.uvarint_small (by omega)]; rfl

theorem shown_num (w : World) : Calls Try.prog 16 #[.int .u64 300] w fun e w' => e = .returned (.string ⟨#[172, 2]⟩) ∧ Ext w w' :=
  (num_any 300 (by omega) w).mono fun e w' ⟨he, hw⟩ => ⟨by rw [he, uvarint300], hw⟩

set_option maxHeartbeats 400000 in
set_option maxRecDepth 100000 in
theorem shown06 (w : World) : Calls Try.prog 8 #[] w fun e w' => e = .returned (.bool true) ∧ Ext w w' := by
  go_enter Try.func8, Try.ntmps8
  go_wp2_with fail
  refine (shown_take _).mono ?_
  rintro e w1 ⟨rfl, hb1⟩
  go_wp2_with fail
  refine (shown_num _).mono ?_
  rintro e w2 ⟨rfl, hb2⟩
  go_wp2_with fail
  go_ret
  exact ⟨rfl, hb1.trans hb2⟩

theorem uvarint_lt {x : Nat} (hx : x < 18446744073709551616) : (⟨(Lib.uvarint x).toArray⟩ : ByteArray).size ≤ 10 := Lib.uvarint_length64 hx

theorem takeNum_lt {l : List UInt8} {x c : Nat} {r : List UInt8} (h : takeNum l = (x, r, c)) : x < 18446744073709551616 := by
  have := takeAt_lt l 0 0 (by omega)
  rw [show takeAt 0 0 l = takeNum l from rfl, h] at this
  exact this

theorem append_toList (a b : ByteArray) : (a ++ b).data.toList = a.data.toList ++ b.data.toList := by
  rw [ByteArray.data_append, Array.toList_append]

theorem takeNum_cat (v : Nat) (more : ByteArray) (w : World) (hv : v < 18446744073709551616) (hm : more.size ≤ 140737488355328) :
    Calls Try.prog 15 #[.string (⟨(Lib.uvarint v).toArray⟩ ++ more)] w fun e w' => e = .returned (.tuple #[.int .u64 v, .string more, .int .i64 0]) ∧ Ext w w' := by
  refine (takeNum_as _ w ?_ (x := v) (r := more.data.toList) (c := 0) ?_).mono ?_
  · have := uvarint_lt hv
    rw [ByteArray.size_append]; unfold maxLen; omega
  · rw [append_toList]; exact takeNum_put hv _
  · rintro e w' ⟨he, hw⟩
    exact ⟨by rw [he, Lib.mk_data]; rfl, hw⟩

theorem back_cat {s : ByteArray} {x : Nat} {r : List UInt8} (h : takeNum s.data.toList = (x, r, 0)) : (⟨(Lib.uvarint x).toArray⟩ ++ ⟨r.toArray⟩ : ByteArray) = s := by
  have := takeNum_back h
  rw [ByteArray.mk_append_mk, this, Lib.mk_data]

theorem takeNum_rest_le {s : ByteArray} {x : Nat} {r : List UInt8} (h : takeNum s.data.toList = (x, r, 0)) : (⟨r.toArray⟩ : ByteArray).size ≤ s.size := by
  have := congrArg List.length (takeNum_back h)
  simp at this
  show r.toArray.size ≤ _
  simp; omega

/-- The number of bytes grows with the number. -/
theorem uvarint_mono : ∀ (k a b : Nat), b < 128 ^ k → a ≤ b → (Lib.uvarint a).length ≤ (Lib.uvarint b).length
  | 0, a, b, hb, h => by
    have : a = b := by omega
    rw [this]; exact Nat.le_refl _
  | k + 1, a, b, hb, h => by
    by_cases ha : a < 128
    · rw [Lib.uvarint_small ha]; exact Lib.uvarint_pos b
    · rw [Lib.uvarint_big (by omega : 128 ≤ a), Lib.uvarint_big (by omega : 128 ≤ b)]
      have := uvarint_mono k (a / 128) (b / 128) (by rw [Nat.pow_succ] at hb; omega) (by omega)
      simp only [List.length_cons]; omega

theorem uvarint_inj {a b : Nat} (ha : a < 18446744073709551616) (hb : b < 18446744073709551616) : (⟨(Lib.uvarint a).toArray⟩ : ByteArray) = ⟨(Lib.uvarint b).toArray⟩ ↔ a = b := by
  constructor
  · intro h
    have h1 : Lib.uvarint a = Lib.uvarint b := by
      have := congrArg (fun s : ByteArray => s.data.toList) h
      simpa using this
    have h2 := takeNum_put ha []
    rw [h1, takeNum_put hb []] at h2
    have := (Prod.mk.inj h2).1
    omega
  · rintro rfl; rfl

theorem strNe {a b : ByteArray} (h : ¬ a = b) : (a.toList == b.toList) = false := by
  rw [Lib.toList_data, Lib.toList_data, beq_eq_false_iff_ne]
  exact fun e => h (by rw [← Lib.mk_data a, e, Lib.mk_data])

theorem lt_pow10 {b : Nat} (hb : b < 18446744073709551616) : b < 128 ^ 10 := by
  have e : 128 ^ 10 = 1180591620717411303424 := by decide
  omega

end Go.Proofs.Ytciihchbiifgkaa
