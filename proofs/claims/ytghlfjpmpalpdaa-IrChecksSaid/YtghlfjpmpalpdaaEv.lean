/- A function's contract by the evaluator, over this translation; the evaluator's rules for simp. -/
import Derived.Test.YtghlfjpmpalpdaaAny
import Derived.Test.YtghlfjpmpalpdaaRows
namespace Go.Proofs.Ytghlfjpmpalpdaa
open Go.RowKit

/-- Slot number n. -/
abbrev sl (n : Nat) : Slot := bits 8 n

theorem mixed : Try.prog.follows .mixedOrders = true := by kernel_rfl

/-- The translation, as it is used. -/
def trAll (P : Program) (n : Nat) (ms : List Nat) (ows : List (FuncId × TypeId × Nat)) (c : Code) : Option ACode := trCode P 8 n ms ows (drOk 8) c
/-- The same where regions that draw their order are let through (to tell why a text isn't translated). -/
def trLax (P : Program) (n : Nat) (ms : List Nat) (ows : List (FuncId × TypeId × Nat)) (c : Code) : Option ACode := trCode P 8 n ms ows (fun _ _ => true) c

/-- A function's contract out of its translated body. -/
theorem apureT {F : FuncId} {fn : Func} {ac : ACode} {vs : List DV} {rs : List ARes} {r : DV} (ms : List Nat) (ows : List (FuncId × TypeId × Nat)) (hf : Try.prog.funcs[F]? = some fn) (hn : (fn.name == "runtime.NumGoroutine") = false)
    (ht : fn.body.bind (trCode Try.prog 8 fn.ntmps ms ows (drOk 8)) = some ac) (hr : trRess Try.prog 8 fn.results.toList = some rs) (hN : Nat.ble fn.ntmps 256 = true) (ha : Nat.ble vs.length fn.ntmps = true)
    (h : (∃ X w us, DReps X w us vs) → awp Try.prog ac (fun x e H _ => Res rs r x e H) (initT 8 vs) hnil 0) : APure Try.prog F vs r := by
  cases hb : fn.body with
  | none => rw [hb] at ht; cases ht
  | some c =>
    rw [hb] at ht
    have ht' : trCode Try.prog 8 fn.ntmps ms ows (drOk 8) c = some ac := ht
    obtain ⟨h1, h2⟩ := trRess_sound hr
    exact apure 8 hf hn hb (Nat.le_of_ble_eq_true hN) (Nat.le_of_ble_eq_true ha) (trCode_sound (fun id ops os hnd hl htr hd => regOk_draw mixed hnd hl htr hd) ht') (by simpa using h1) h2 h

/-- The same for one that hands back a row of its own making. -/
theorem aownT {F : FuncId} {fn : Func} {ac : ACode} {vs : List DV} {rs : List ARes} {te : TypeId} {n len : Nat} {row : Nat → List DV} (ms : List Nat) (ows : List (FuncId × TypeId × Nat)) (hf : Try.prog.funcs[F]? = some fn) (hn : (fn.name == "runtime.NumGoroutine") = false)
    (ht : fn.body.bind (trCode Try.prog 8 fn.ntmps ms ows (drOk 8)) = some ac) (hr : trRess Try.prog 8 fn.results.toList = some rs) (hN : Nat.ble fn.ntmps 256 = true) (ha : Nat.ble vs.length fn.ntmps = true)
    (h : (∃ X w us, DReps X w us vs) → awp Try.prog ac (fun x e H _ => OwnRes rs te n len row x e H) (initT 8 vs) hnil 0) : AOwn Try.prog F vs te n len row := by
  cases hb : fn.body with
  | none => rw [hb] at ht; cases ht
  | some c =>
    rw [hb] at ht
    have ht' : trCode Try.prog 8 fn.ntmps ms ows (drOk 8) c = some ac := ht
    obtain ⟨h1, h2⟩ := trRess_sound hr
    exact aown 8 hf hn hb (Nat.le_of_ble_eq_true hN) (Nat.le_of_ble_eq_true ha) (trCode_sound (fun id ops os hnd hl htr hd => regOk_draw mixed hnd hl htr hd) ht') (by simpa using h1) h2 h

end Go.Proofs.Ytghlfjpmpalpdaa
