/- The document's Num gives the bytes that bit.Num gives. -/
import Derived.Test.YtciihchbiifgkaaNumWalk
import Derived.Test.YtciihchbiifgkaaNumLaw
import Derived.Deep.RegionWith
import Derived.Lib.Hide
namespace Go.Proofs.Ytciihchbiifgkaa
open Go.RowKit

theorem uvarint_cat {x : Nat} (h : 128 ≤ x) : Ending.returned (.string (⟨#[UInt8.ofNat (x % 128) + 128]⟩ ++ ⟨(Lib.uvarint (x / 128)).toArray⟩)) = .returned (.string ⟨(Lib.uvarint x).toArray⟩) := by
  have e : (UInt8.ofNat (x % 128) + 128) = (x % 128 + 128).toUInt8 := by
    apply UInt8.toNat_inj.1
    rw [Lib.toUInt8_toNat (by omega), UInt8.toNat_add]
    simp
    omega
  have := ByteArray.mk_append_mk [UInt8.ofNat (x % 128) + 128] (Lib.uvarint (x / 128))
  simp only [List.singleton_append] at this
  rw [Lib.uvarint_big h, ← e]
  exact congrArg (fun s => Ending.returned (.string s)) this

theorem cell_alloc_at (w : World) (C : Array Value) (t : TypeId) (j : Nat) : (w.alloc (.cells C t)).cell? ⟨w.heap.size, j, none⟩ = C[j]? := World.cell?_alloc_mark w C t (0, 0) j

/-- 'string([]byte{c})' where the block of one byte is there. -/
theorem run_convert_one {w : World} {b : Nat} {n : Int} {c : Nat} (hc : c < 256) (hn : n = c) (h : w.cell? ⟨b, 0, none⟩ = some (.int .u8 n)) :
    (convert 47 9 (.slice (some ⟨b, 0, none⟩) 1 1)).run Try.prog w = .ok (.string ⟨#[c.toUInt8]⟩) w := by
  refine run_convert_bytes_back w 47 9 5 ⟨b, 0, none⟩ 1 [c.toUInt8] Try.underlying47 Try.underlying5 Try.underlying9 ?_
  intro j hj
  have : j = 0 := by simp at hj; omega
  subst this
  have := Lib.toUInt8_toNat hc
  show w.cell? ⟨b, 0, none⟩ = _
  rw [h, hn]
  simp [this]

theorem run_convert_new {w : World} {n : Int} {c : Nat} (hc : c < 256) (hn : n = c) :
    (convert 47 9 (.slice (some ⟨w.heap.size, 0, none⟩) 1 1)).run Try.prog (w.alloc (.cells #[.int .u8 n] 5)) = .ok (.string ⟨#[c.toUInt8]⟩) (w.alloc (.cells #[.int .u8 n] 5)) :=
  run_convert_one hc hn (by rw [cell_alloc_at]; rfl)

set_option maxHeartbeats 400000 in
set_option maxRecDepth 100000 in
theorem refNum_small (x : Nat) (w : World) (h : x < 128) :
    Calls Try.prog 34 #[.int .u64 x] w fun e w' => e = .returned (.string ⟨(Lib.uvarint x).toArray⟩) ∧ Below w.heap.size w w' := by
  have hcv := run_convert_new (w := w) (n := x) (c := x) (by omega) rfl
  go_enter Try.func34, Try.ntmps34
  go_wp2_with fail
  go_ret
  exact ⟨by rw [Lib.uvarint_small h]; rfl, (Below.refl _ _).alloc (Nat.le_refl _) _⟩

set_option maxHeartbeats 400000 in
set_option maxRecDepth 100000 in
theorem refNum_any (k : Nat) : ∀ (x : Nat) (w : World), x < 128 ^ k → x < 18446744073709551616 →
    Calls Try.prog 34 #[.int .u64 x] w fun e w' => e = .returned (.string ⟨(Lib.uvarint x).toArray⟩) ∧ Below w.heap.size w w' := by
  induction k with
  | zero =>
    intro x w hk hx
    exact refNum_small x w (by omega)
  | succ k ih =>
    intro x w hk hx
    by_cases h : x < 128
    · exact refNum_small x w h
    · have hq : x / 128 < 128 ^ k := by rw [Nat.pow_succ] at hk; omega
      have eq : (x : Int) / 128 = ((x / 128 : Nat) : Int) := by omega
      have IH := Lib.hid fun w => eq ▸ ih (x / 128) w hq (by omega)
      have hl := Lib.uvarint_length64 (x := x / 128) (by omega)
      have hc256 : x % 128 + 128 < 256 := by omega
      have hN : (x : Int) % 128 + 128 = ((x % 128 + 128 : Nat) : Int) := by omega
      have HN := Lib.hid hN
      have e1 : (x : Int).tmod 128 = (x : Int) % 128 := Int.tmod_eq_emod_of_nonneg (by omega)
      have e2 : IntKind.u8.wrap ((x : Int) % 128) = (x : Int) % 128 := by rw [IntKind.wrap_u8]; omega
      have e3 : IntKind.u8.wrap ((x : Int) % 128 + 128) = (x : Int) % 128 + 128 := by rw [IntKind.wrap_u8]; omega
      have e4 : IntKind.u64.wrap ((x : Int) / 128) = (x : Int) / 128 := by rw [IntKind.wrap_u64]; omega
      clear ih hk hq eq hN
      have hcv1 := run_convert_one (w := (w.alloc (.cells #[.int .u8 ((x : Int) % 128 + 128)] 5)).drew) (b := w.heap.size) hc256 HN.out (cell_alloc_at w _ _ 0)
      have hcv3 : ∀ W : World, _ := fun W => run_convert_new (w := W) hc256 HN.out
      go_enter Try.func34, Try.ntmps34
      go_wp2_with fail
      go_region_with (go_at_call 34; refine (IH.out _).mono ?_; rintro e w' ⟨rfl, hb⟩; first | (have hcv2 := run_convert_one hc256 HN.out ((hb.cell (p := ⟨w.heap.size, 0, none⟩) (by simp)).trans (cell_alloc_at w _ _ 0))) | skip)
      all_goals
        go_wp2
        go_ret
        refine ⟨?_, ?_⟩
      · exact uvarint_cat (by omega)
      · exact ((Below.refl _ w).alloc (Nat.le_refl _) _).drew.trans (hb.mono (by simp))
      · exact uvarint_cat (by omega)
      · exact ((Below.refl _ w).alloc (Nat.le_refl _) _).drew.trans (hb.mono (by simp))
      · exact uvarint_cat (by omega)
      · exact (((Below.refl _ w).drew).trans (hb.mono (by simp))).alloc (by have := hb.size; simpa using this) _

end Go.Proofs.Ytciihchbiifgkaa
