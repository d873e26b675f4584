/- Contracts by the evaluator: layer 7, what needs no run. -/
import Derived.Test.YtpfokkfomgmibaaH2
import Derived.Test.YtpfokkfomgmibaaSA
import Derived.Test.YtpfokkfomgmibaaIF
namespace Go.Proofs.Ytpfokkfomgmibaa
open Go.RowKit

set_option maxRecDepth 10000 in
theorem one_pure (b : Bool) : APure Try.prog 35 [.bool b] (.u64 (if b then 1 else 0)) := by
  refine apureG _ _ Try.func35 (by kernel_rfl) t_eval_one u_eval_one rfl rfl (fun _ => ?_)
  simp [c_eval_one, r_eval_one]
  cases b <;> simp <;> exact DLe.refl _

theorem powI_eq : ∀ q, q < 64 → powI q = 2 ^ q := by decide
theorem wrap_u64 (n : Int) : IntKind.u64.wrap n = n % 18446744073709551616 := by
  unfold IntKind.wrap
  simp only [show IntKind.u64.signed = false from rfl, Bool.false_and, if_neg (by simp : ¬ false = true)]
  rfl
theorem wrap_neg (a b : Int) : IntKind.u64.wrap (a + IntKind.u64.wrap (-b)) = IntKind.u64.wrap (a - b) := by
  simp only [wrap_u64]
  omega

set_option maxRecDepth 10000 in
theorem ereckon_pure (op a b : Int) (ha : 0 ≤ a ∧ a < 18446744073709551616) (hb : 0 ≤ b) : APure Try.prog 17 [.int op, .u64 a, .u64 b] (.u64 (reckI op a b)) := by
  refine apureG _ _ Try.func17 (by kernel_rfl) t_eval_Reckon u_eval_Reckon rfl rfl (fun _ => ?_)
  simp [c_eval_Reckon, r_eval_Reckon]
  have hm : 0 ≤ b.tmod 64 ∧ b.tmod 64 < 64 := ⟨Int.tmod_nonneg _ hb, Int.tmod_lt_of_pos _ (by decide)⟩
  obtain ⟨q, hq⟩ := Int.eq_ofNat_of_zero_le hm.1
  have hb64 : min q IntKind.u64.bits = q := Nat.min_eq_left (by show q ≤ 64; omega)
  have hp := powI_eq q (by omega)
  refine ⟨fun h => DLe.of_eq ?_, fun h3 => ⟨fun h => DLe.of_eq ?_, fun h2 => ⟨fun h => DLe.of_eq ?_, fun h4 => ⟨fun h => DLe.of_eq ?_, fun h5 => ⟨fun h => DLe.of_eq ?_, fun h6 => ⟨fun h => DLe.of_eq ?_, fun h7 => ⟨fun h => ⟨hm.1, DLe.of_eq ?_⟩, fun h8 => ⟨fun h => ⟨hm.1, DLe.of_eq ?_⟩, fun h9 => ⟨fun h => ?_, fun h10 => ⟨fun h => ?_, fun h11 => DLe.of_eq ?_⟩⟩⟩⟩⟩⟩⟩⟩⟩⟩
  · rw [wrap_neg]
    simp [reckI, wrapU, h]
  · simp [reckI, wrapU, h]
  · simp [reckI, wrapU, h]
  · simp [reckI, wrapU, h]
  · simp [reckI, wrapU, h]
  · simp [reckI, wrapU, h]
  · simp [reckI, wrapU, h, hq, hb64, hp]
  · simp only [hq, Int.toNat_natCast, hb64]
    have hpos : (0 : Int) < 2 ^ q := Int.pow_pos (by decide)
    have e1 : a.fdiv (2 ^ q) = a / 2 ^ q := Int.fdiv_eq_ediv_of_nonneg _ (Int.le_of_lt hpos)
    have e2 : a.tdiv (2 ^ q) = a / 2 ^ q := Int.tdiv_eq_ediv_of_nonneg ha.1
    have h0 : 0 ≤ a / 2 ^ q := Int.ediv_nonneg ha.1 (Int.le_of_lt hpos)
    have h1 : a / 2 ^ q ≤ a := Int.ediv_le_self _ ha.1
    have e3 : reckI op a b = a / 2 ^ q := by
      simp only [reckI, h, hq, Int.toNat_natCast, hp, e2]
      exact wrapU_id h0 (by omega)
    rw [e3, e1]
  · refine call_plain (ds := [.bool (decide (a < b))]) _ (by simp) (by simp) (fun _ => rfl) (fun _ => one_pure _) ?_
    simp
    refine DLe.of_eq ?_
    by_cases hlt : a < b <;> simp [reckI, h, hlt]
  · refine call_plain (ds := [.bool (decide (a = b))]) _ (by simp) (by simp) (fun _ => rfl) (fun _ => one_pure _) ?_
    simp
    refine DLe.of_eq ?_
    by_cases hlt : a = b <;> simp [reckI, h, hlt]
  · simp [reckI, *]

set_option maxRecDepth 10000 in
theorem some_own (vals l : List Int) (blk at' : Int) (f : Func) (hl : ∀ v ∈ l, 0 ≤ v ∧ v < vals.length) (hlen : l.length ≤ 1000) : AOwn Try.prog 24 [.cref [.str f.name, .int f.bind, .int f.params, blocksD f.blocks, .int blk, .int at', .sl 1 vals.length fun k => u64C (vals[k]?.getD 0)] 0, intsD l] 29 1 l.length (fun i => u64C ((pickI vals l)[i]?.getD 0)) := by
  refine aownG _ _ Try.func24 (by kernel_rfl) t___eval_frame__some u___eval_frame__some rfl rfl (fun _ => ?_)
  simp [c___eval_frame__some, r___eval_frame__some]
  refine loop_s (κ := Nat) (fun k => k ≤ l.length) (fun k => l.length - k) (fun k => [(sl 10, .int k), (sl 5, .own 0 k)])
    (fun k => [(0, .row 29 1 k fun i => u64C ((pickI vals l)[i]?.getD 0))]) 30 0 (srcs [(0, .nil)]) (by simp) (by simp) ?_
  rintro k hk
  simp
  refine ⟨fun hlt => ?_, fun hge => ?_⟩
  · have hx := hl _ (List.getElem_mem hlt)
    rw [getI_some hlt]
    refine ⟨hlt, hx, by omega, k + 1, by omega, by omega, srcs [(0, .id 43)], ?_⟩
    simp [SLeK]
    refine ⟨DLe_int (wrap_succ (by omega)), fun i hi => ?_⟩
    unfold appRow
    split
    · rfl
    · obtain rfl : i = k := by omega
      simp [pickI, valAt, hlt, u64C]
  · obtain rfl : k = l.length := by omega
    rfl

set_option maxRecDepth 10000 in
theorem efind1_pure (f : Func) (s : ByteArray) : APure Try.prog 44 [.agg (funcC f), .cref [.str s] 0] (.bool (decide (f.name = s))) := by
  refine apureG _ _ Try.func44 (by kernel_rfl) t_eval_find_1 u_eval_find_1 rfl rfl (fun _ => ?_)
  simp [c_eval_find_1, r_eval_find_1]

def efindR (m : Module) (s : ByteArray) : DV := match findF m s with | some f => .tup [.agg (funcC f), .bool true] | none => .tup [.agg [.str ⟨#[]⟩, .int 0, .int 0, .lit (.slice none 0 0)], .bool false]

set_option maxRecDepth 10000 in
theorem efind_pure (m : Module) (s : ByteArray) : APure Try.prog 27 [.agg (moduleC m), .str s] (efindR m s) := by
  refine apureG _ _ Try.func27 (by kernel_rfl) t_eval_find u_eval_find rfl rfl (fun _ => ?_)
  simp [c_eval_find, r_eval_find]
  refine call_plain (ds := [funcsD m.funcs, .fn 44 [.cref [.str s] 0]]) _ (by simp) (by simp) (fun _ => by simp) (fun _ => indexF_pure m.funcs _ _ _ (fun f _ => efind1_pure f s)) ?_
  simp
  unfold efindR findF
  rcases find_idx (fun f : Func => decide (f.name = s)) m.funcs with ⟨k, hk, h1, h2⟩ | ⟨h1, h2⟩
  · rw [h1, h2]
    refine ⟨fun h => by omega, fun _ => ⟨⟨by omega, by omega⟩, ?_⟩⟩
    simp only [Int.toNat_natCast, getD_some hk]
    exact DLe.refl _
  · rw [h1, h2]
    exact ⟨fun _ => DLe.refl _, fun h => by omega⟩

end Go.Proofs.Ytpfokkfomgmibaa
