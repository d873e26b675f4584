/- The walks of the three statements on numbers: BitNums, BitBacks, BitShort answer true. -/
import Derived.Test.YtciihchbiifgkaaRefNumWalk
import Derived.Test.YtciihchbiifgkaaRefTakeWalk
import Derived.Test.YtciihchbiifgkaaKA
namespace Go.Proofs.Ytciihchbiifgkaa
open Go.RowKit

theorem takeNum_as (s : ByteArray) (w : World) (hs : s.size ≤ maxLen) {x c : Nat} {r : List UInt8} (h : takeNum s.data.toList = (x, r, c)) :
    Calls Try.prog 15 #[.string s] w fun e w' => e = .returned (.tuple #[.int .u64 x, .string ⟨r.toArray⟩, .int .i64 c]) ∧ Ext w w' :=
  (takeNum_any s w hs).mono fun e w' ⟨he, n, hw⟩ => ⟨by rw [he, h]; rfl, by rw [hw]; exact Ext.drewN w n⟩

theorem refTakeNum_as (s : ByteArray) (w : World) (hs : s.size ≤ maxLen) {x c : Nat} {r : List UInt8} (h : takeNum s.data.toList = (x, r, c)) :
    Calls Try.prog 69 #[.string s] w fun e w' => e = .returned (.tuple #[.int .u64 x, .string ⟨r.toArray⟩, .int .i64 c]) ∧ Ext w w' :=
  (refTakeNum_any s w hs).mono fun e w' ⟨he, n, hw⟩ => ⟨by rw [he, h]; rfl, by rw [hw]; exact Ext.drewN w n⟩

theorem refNum_all (x : Nat) (w : World) (hx : x < 18446744073709551616) :
    Calls Try.prog 34 #[.int .u64 x] w fun e w' => e = .returned (.string ⟨(Lib.uvarint x).toArray⟩) ∧ Ext w w' :=
  refNum_any 10 x w (by have e : 128 ^ 10 = 1180591620717411303424 := by decide
                        omega) hx

theorem shown_take (w : World) :
    Calls Try.prog 15 #[.string ⟨#[128, 0]⟩] w fun e w' => e = .returned (.tuple #[.int .u64 0, .string ⟨#[]⟩, .int .i64 3]) ∧ Ext w w' :=
  takeNum_as ⟨#[128, 0]⟩ w (by decide) (x := 0) (r := []) (c := 3) (by decide)

theorem uvarint300 : Lib.uvarint 300 = [172, 2] := by rw [Lib.uvarint_big (by omega), Lib.uvarint_small (by omega)]; rfl

theorem shown_num (w : World) : Calls Try.prog 16 #[.int .u64 300] w fun e w' => e = .returned (.string ⟨#[172, 2]⟩) ∧ Ext w w' :=
  (num_any 300 (by omega) w).mono fun e w' ⟨he, hw⟩ => ⟨by rw [he, uvarint300], hw⟩

set_option maxHeartbeats 400000 in
set_option maxRecDepth 100000 in
theorem shown06 (w : World) : Calls Try.prog 8 #[] w fun e w' => e = .returned (.bool true) ∧ Ext w w' := by
  go_enter Try.func8, Try.ntmps8
  go_wp2_with fail
  refine (shown_take _).mono ?_
  rintro e w1 ⟨rfl, hb1⟩
  go_wp2_with fail
  refine (shown_num _).mono ?_
  rintro e w2 ⟨rfl, hb2⟩
  go_wp2_with fail
  go_ret
  exact ⟨rfl, hb1.trans hb2⟩

theorem uvarint_lt {x : Nat} (hx : x < 18446744073709551616) : (⟨(Lib.uvarint x).toArray⟩ : ByteArray).size ≤ 10 := Lib.uvarint_length64 hx

theorem takeNum_lt {l : List UInt8} {x c : Nat} {r : List UInt8} (h : takeNum l = (x, r, c)) : x < 18446744073709551616 := by
  have := takeAt_lt l 0 0 (by omega)
  rw [show takeAt 0 0 l = takeNum l from rfl, h] at this
  exact this

end Go.Proofs.Ytciihchbiifgkaa
