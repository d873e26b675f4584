/- Contracts by the evaluator: a module's bytes. -/
import Derived.Test.YtciihchbiifgkaaTL
namespace Go.Proofs.Ytciihchbiifgkaa
open Go.RowKit

def tauM (n k : Nat) : Nat → Nat := fun i => if i = 999999 then n else if i = 1000000 then 9 else if i = 1000001 then k else if i = 1000002 then 10 else i
set_option maxRecDepth 10000 in
theorem bytes_pure (m : Module) (hm : BitFit m) : APure Try.prog 9 [.agg (moduleC m)] (.tup [.str (bytesM m), .int (bytesE m)]) := by
  refine apureG _ _ Try.func9 (by kernel_rfl) t_bit_Bytes u_bit_Bytes rfl rfl (fun hx => ?_)
  clear hx
  simp [c_bit_Bytes, r_bit_Bytes]
  refine call_plain (ds := [.agg (moduleC m)]) _ (by simp) (by simp) (fun _ => by simp; rfl) (fun _ => check_pure m hm.args) ?_
  simp
  refine ⟨fun h => ?_, fun h => ?_⟩
  · simp [bytesM, bytesE, h]
  have hle := encMod_le (checkE_zero.1 h) hm
  have hsz : (encMod m).size = 4 + ((encL encFunc m.funcs).size + (encL encGlob m.globs).size) := by unfold encMod; rw [ByteArray.size_append, ByteArray.size_append, show magicB.size = 4 from rfl]
  refine calle_k (writeString0_eff magicB (by decide)) (tauM _ 11) rfl [.ptr 9 0, .d (.str magicB)] (by simp) (by simp) (by simp; rfl) (by simp [gOf, LN0, LB, LC, tauM]) (by simp [gOf, LN0, LB, LC, tauM]) (by simp [gOf, LN0, LB, LC, tauM]) (by simp [LN0, LB, LW0, LC, LCW, LB0, idsOk]) ?_
  simp [LB, LN0, LW0, LC, LCW, LB0, tauM]
  refine calle_k (rowFunc_eff magicB m.funcs hm.ks (by rw [show magicB.size = 4 from rfl]; omega)) (tauM _ 15) rfl [.ptr 9 0, .d (funcsD m.funcs), .fn 20 [.ptr 10 0]] (by simp) (by simp) (by simp) (by simp [gOf, LN0, LB, LC, tauM]) (by simp [gOf, LN0, LB, LC, tauM]) (by simp [gOf, LN0, LB, LC, tauM]) (by simp [LN0, LB, LW0, LC, LCW, LB0, idsOk]) ?_
  simp [LB, LN0, LW0, LC, LCW, LB0, tauM]
  refine calle_k (rowGlob_eff (magicB ++ encL encFunc m.funcs) m.globs hm.inits (by rw [ByteArray.size_append, show magicB.size = 4 from rfl]; omega)) (tauM _ 20) rfl [.ptr 9 0, .d (globsD m.globs), .fn 26 [.ptr 10 0]] (by simp) (by simp) (by simp) (by simp [gOf, LN0, LB, LC, tauM]) (by simp [gOf, LN0, LB, LC, tauM]) (by simp [gOf, LN0, LB, LC, tauM]) (by simp [LN0, LB, LW0, LC, LCW, LB0, idsOk]) ?_
  simp [LB, LN0, LW0, LC, LCW, LB0, tauM]
  refine calle_k (len_eff (magicB ++ encL encFunc m.funcs ++ encL encGlob m.globs)) (tauM _ 25) rfl [.ptr 9 0] (by simp) (by simp) (by simp) (by simp [gOf, LN0, LB, LC, tauM]) (by simp [gOf, LN0, LB, LC, tauM]) (by simp [gOf, LN0, LB, LC, tauM]) (by simp [LN0, LB, LW0, LC, LCW, LB0, idsOk]) ?_
  simp [LB, LN0, LW0, LC, LCW, LB0, tauM]
  have hm4 : magicB.size = 4 := rfl
  have hen : encMod m = magicB ++ encL encFunc m.funcs ++ encL encGlob m.globs := by unfold encMod; rw [ByteArray.append_assoc]
  refine ⟨fun hb => ?_, fun hb => ?_⟩
  · have e : bytesE m = 4 := by unfold bytesE; rw [if_pos h, if_pos (by omega)]
    simp [bytesM, e]
  · have e : bytesE m = 0 := by unfold bytesE; rw [if_pos h, if_neg (by omega)]
    refine calle_k (string_eff (magicB ++ encL encFunc m.funcs ++ encL encGlob m.globs) (by rw [ByteArray.size_append, ByteArray.size_append]; omega)) (tauM _ 25) rfl [.ptr 9 0] (by simp) (by simp) (by simp) (by simp [gOf, LN0, LB, LC, tauM]) (by simp [gOf, LN0, LB, LC, tauM]) (by simp [gOf, LN0, LB, LC, tauM]) (by simp [LN0, LB, LW0, LC, LCW, LB0, idsOk]) ?_
    simp [LB, LN0, LW0, LC, LCW, LB0, tauM]
    simp [bytesM, e, hen]

end Go.Proofs.Ytciihchbiifgkaa
