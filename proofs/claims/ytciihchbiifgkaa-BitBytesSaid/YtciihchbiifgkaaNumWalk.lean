/- bit.Num gives the bytes of a number (the varint of Lib.uvarint), in new memory. -/
import Derived.Test.YtciihchbiifgkaaRows
import Derived.WalkKit
import Derived.WalkSpells
import Derived.WalkLawsBesides
import Derived.Lib.VarintMem
import Derived.Lib.Strings
namespace Go.Proofs.Ytciihchbiifgkaa
open Go.RowKit

theorem info_u8 : (Try.prog.info? 5).map (fun i => (i.zero, i.size, i.bytes)) = some (some (.int .u8 0), 1, 1) := by kernel_rfl

/-- 'string(b)' where b is an owned row of bytes. -/
theorem run_convert_owned {B : Nat} {w : World} {v : Value} (l : List UInt8) (hown : w.ownsRow B 5 1 v l.length (Lib.byteCells l)) :
    (convert 47 9 v).run Try.prog w = .ok (.string ⟨l.toArray⟩) w := by
  rcases hown.2 with ⟨rfl, h0⟩ | ⟨g, cap, cur, rfl, hb, hg, hnc, hcm, hcs, htk⟩
  · have : l = [] := List.length_eq_zero_iff.1 h0
    subst this
    exact run_convert_bytes_nil _ _ _ Try.underlying47 Try.underlying5 _ _ _ Try.underlying9
  · refine run_convert_bytes_back w 47 9 5 ⟨g, 0, none⟩ cap l Try.underlying47 Try.underlying5 Try.underlying9 ?_
    intro j hj
    have h1 : (cur.toList.take (l.length * 1))[j]? = (Lib.byteCells l)[j]? := by rw [htk]
    rw [List.getElem?_take, if_pos (by omega)] at h1
    have ha : (⟨g, 0, none⟩ : Addr).add j = ⟨g, j, none⟩ := by cases j <;> simp [Addr.add]
    rw [ha]
    simp at h1
    simp [World.cell?, hg, h1, Lib.byteCells, hj]

set_option maxRecDepth 100000 in
set_option maxHeartbeats 2000000 in
theorem num_any (x : Nat) (hx : x < 18446744073709551616) (w : World) :
    Calls Try.prog 16 #[.int .u64 x] w fun e w' => e = .returned (.string ⟨(Lib.uvarint x).toArray⟩) ∧ Below w.heap.size w w' := by
  obtain ⟨i0, hi, hz0, hz1, hz2⟩ := info_parts info_u8
  have hlen := Lib.uvarint_length64 hx
  go_enter Try.func16, Try.ntmps16
  go_wp2
  go_loopw [0, 3] (fun vx vb wr => ∃ (y : Nat) (pre : List UInt8), vx = .int .u64 y ∧ y ≤ x ∧ Lib.uvarint x = pre ++ Lib.uvarint y ∧ wr.ownsRow w.heap.size 5 1 vb pre.length (Lib.byteCells pre) ∧ Below w.heap.size w wr)
    (fun vx _ _ => (intOf vx).toNat)
  case atStart => exact ⟨x, [], rfl, Nat.le_refl _, rfl, World.ownsRow_nil _ _ _ _, Below.refl _ _⟩
  case round =>
    obtain ⟨y, pre, rfl, hy, hsplit, hown1, hnx⟩ := hrel
    have hpl : pre.length + (Lib.uvarint y).length ≤ 10 := by
      have h2 := congrArg List.length hsplit
      rw [List.length_append] at h2
      omega
    have hyp := Lib.uvarint_pos y
    by_cases h128 : 128 ≤ y
    · have hor : bits .or .u8 ((y : Int) % 256) 128 = ((y % 128 + 128 : Nat) : Int) := by
        rw [Lib.u8_or128_any _ (by omega) (by omega)]
        omega
      go_wp2_with (at_builtin; refine wpList_append_own _ rfl _ _ 47 rfl w.heap.size 5 i0 (.int .u8 0) 1 1 Try.underlying47 hi hz0 hz1 hz2 rfl (by decide) _ _ _ rfl (hown1.alloc _) ⟨wr.heap.size, 0, none⟩ 1 1 [Value.int .u8 ((y % 128 + 128 : Nat) : Int)] rfl rfl ?c1 ?c2 ?c3 ?c4 ?c5 ?_)
      case c1 =>
        intro j u hj
        match j, hj with
        | 0, hj => simp at hj; subst hj; simp [Addr.add]
      case c2 => intro u hu; simp at hu; subst hu; rfl
      case c3 => unfold maxLen; omega
      case c4 => omega
      case c5 => have := hnx.size; simp; omega
      intro v' w1 hown' hgrow _
      have hnx1 : Below w.heap.size w w1 := (hnx.alloc (by have := hnx.size; omega) _).grown hgrow (by have := hnx.size; simp; omega) (fun k hk => (hown1.lt k hk).1)
      go_wp2
      go_roundw
      case rel =>
        refine ⟨y / 128, pre ++ [(y % 128 + 128).toUInt8], by go_num, by omega, by rw [hsplit, Lib.uvarint_big h128]; simp, ?_, hnx1⟩
        have ec : ((y % 128 + 128 : Nat) : Int) = (y : Int) % 128 + 128 := by omega
        rw [Lib.byteCells_snoc pre (by omega), List.length_append, List.length_singleton, ec]
        exact hown'
      case measure => simp [intOf]; omega
    · have hsm : Lib.uvarint y = [y.toUInt8] := Lib.uvarint_small (by omega)
      go_wp2_with (at_builtin; refine wpList_append_own _ rfl _ _ 47 rfl w.heap.size 5 i0 (.int .u8 0) 1 1 Try.underlying47 hi hz0 hz1 hz2 rfl (by decide) _ _ _ rfl (hown1.alloc _) ⟨wr.heap.size, 0, none⟩ 1 1 [Value.int .u8 (y : Int)] rfl rfl ?c1 ?c2 ?c3 ?c4 ?c5 ?_)
      case c1 =>
        intro j u hj
        match j, hj with
        | 0, hj => simp at hj; subst hj; simp [Addr.add]
      case c2 => intro u hu; simp at hu; subst hu; rfl
      case c3 => unfold maxLen; omega
      case c4 => omega
      case c5 => have := hnx.size; simp; omega
      intro v' w1 hown' hgrow _
      have hnx1 : Below w.heap.size w w1 := (hnx.alloc (by have := hnx.size; omega) _).grown hgrow (by have := hnx.size; simp; omega) (fun k hk => (hown1.lt k hk).1)
      have hown2 : w1.ownsRow w.heap.size 5 1 v' (Lib.uvarint x).length (Lib.byteCells (Lib.uvarint x)) := by
        rw [hsplit, hsm, Lib.byteCells_snoc pre (by omega), List.length_append, List.length_singleton]
        exact hown'
      have hconv := run_convert_owned _ hown2
      go_wp2
      go_ret
      refine ⟨?_, hnx1⟩
      rw [hsplit, hsm]; rfl

end Go.Proofs.Ytciihchbiifgkaa
