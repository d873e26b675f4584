/- Small laws on worlds: 'Ext w w'': all that was there in w is there in w', unturned. -/
import Derived.WalkKit
import Derived.WalkSpells
import Derived.WalkLawsBesides
import Derived.Lib.Hide
namespace Go.Proofs.Ytghlfjpmpalpdaa
open Go.RowKit

/-- All blocks of w are as they were; there may be new ones. -/
def Ext (w w' : World) : Prop := Below w.heap.size w w'

theorem Ext.below {w w' : World} (h : Ext w w') : Below w.heap.size w w' := h
theorem Below.ext {w w' : World} (h : Below w.heap.size w w') : Ext w w' := h
theorem Ext.refl (w : World) : Ext w w := Below.refl _ _
theorem Ext.size {w w' : World} (h : Ext w w') : w.heap.size ≤ w'.heap.size := Below.size h
theorem Ext.trans {a b c : World} (h : Ext a b) (k : Ext b c) : Ext a c := Below.trans h (Below.mono k h.size)
theorem Ext.drewN (w : World) (n : Nat) : Ext w (w.drewN n) := below_drewN (Below.refl _ _) n
theorem Ext.drew (w : World) : Ext w w.drew := (Below.refl _ _).drew
theorem Ext.alloc (w : World) (o : Obj) : Ext w (w.alloc o) := (Below.refl _ _).alloc (Nat.le_refl _) o
theorem Ext.cell {w w' : World} (h : Ext w w') {p : Addr} {v : Value} (hc : w.cell? p = some v) : w'.cell? p = some v :=
  (Below.cell h (World.block_lt_of_cell? w p hc)).trans hc

theorem ret_bool {b c : Bool} (h : b = c) : Ending.returned (.bool b) = .returned (.bool c) := by rw [h]
theorem ret_int {k : IntKind} {a b : Int} (h : a = b) : Ending.returned (.int k a) = .returned (.int k b) := by rw [h]

theorem beqT {a b : Int} (h : a = b) : (a == b) = true := by simp [h]
theorem beqF {a b : Int} (h : ¬ a = b) : (a == b) = false := by simp [h]
theorem bneT {a b : Int} (h : ¬ a = b) : (a != b) = true := by simp [h]
theorem bneF {a b : Int} (h : a = b) : (a != b) = false := by simp [h]

theorem size_toList (s : ByteArray) : s.toList.length = s.size := by rw [ByteArray.toList_eq]; rfl
theorem emptyT {s : ByteArray} (h : s.size = 0) : s.toList.isEmpty = true := by
  rw [List.isEmpty_iff, ← List.length_eq_zero_iff, size_toList]; exact h
theorem emptyF {s : ByteArray} (h : ¬ s.size = 0) : s.toList.isEmpty = false := by
  rw [← Bool.not_eq_true, List.isEmpty_iff, ← List.length_eq_zero_iff, size_toList]; exact h

/-- Is a list empty? Its length's test, in the walk's own form; and what that says. -/
theorem lenBeq {α : Type} (l : List α) : (((l.length : Int) == 0) = true ∧ Hid (l.length = 0)) ∨ (((l.length : Int) == 0) = false ∧ Hid (¬ l.length = 0)) := by
  by_cases h : l.length = 0
  · exact .inl ⟨beqT (by omega), h⟩
  · exact .inr ⟨beqF (by omega), h⟩

end Go.Proofs.Ytghlfjpmpalpdaa
