/- Small laws on worlds: 'Ext w w'': all that was there in w is there in w', unturned. -/
import Derived.WalkKit
import Derived.WalkSpells
import Derived.WalkLawsBesides
import Derived.Lib.Hide
namespace Go.Proofs.Ytacgmcaipkdlhaa
open Go.RowKit

/-- All blocks of w are as they were; there may be new ones. -/
def Ext (w w' : World) : Prop := Below w.heap.size w w'

theorem Ext.below {w w' : World} (h : Ext w w') : Below w.heap.size w w' := h
theorem Below.ext {w w' : World} (h : Below w.heap.size w w') : Ext w w' := h
theorem Ext.refl (w : World) : Ext w w := Below.refl _ _
theorem Ext.size {w w' : World} (h : Ext w w') : w.heap.size ≤ w'.heap.size := Below.size h
theorem Ext.trans {a b c : World} (h : Ext a b) (k : Ext b c) : Ext a c := Below.trans h (Below.mono k h.size)
theorem Ext.drewN (w : World) (n : Nat) : Ext w (w.drewN n) := below_drewN (Below.refl _ _) n
theorem Ext.drew (w : World) : Ext w w.drew := (Below.refl _ _).drew
theorem Ext.alloc (w : World) (o : Obj) : Ext w (w.alloc o) := (Below.refl _ _).alloc (Nat.le_refl _) o
theorem Ext.cell {w w' : World} (h : Ext w w') {p : Addr} {v : Value} (hc : w.cell? p = some v) : w'.cell? p = some v :=
  (Below.cell h (World.block_lt_of_cell? w p hc)).trans hc

end Go.Proofs.Ytacgmcaipkdlhaa
