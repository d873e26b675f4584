/- Data of runs, and contracts by the evaluator: the document's layer 7. -/
import Derived.Test.YtpfokkfomgmibaaP0
import Derived.Test.YtpfokkfomgmibaaRC
import Derived.Test.YtpfokkfomgmibaaRD
namespace Go.Proofs.Ytpfokkfomgmibaa
open Go.RowKit

def u64C (x : Int) : List DV := [.lit (.int .u64 x)]
@[simp] theorem u64C_length (x : Int) : (u64C x).length = 1 := rfl
@[simp] theorem u64C_0 (x : Int) : (u64C x)[0]? = some (.lit (.int .u64 x)) := rfl
@[simp] theorem u64C_cells (x : Int) : (∀ d, d ∈ u64C x → d.cell = true) ↔ True := by unfold u64C; simp
@[simp] theorem u64C_len? (x : Int) : (u64C x)[1]? = none := rfl
@[simp] theorem u64C_map (x : Int) : (u64C x).map AV.d = [.d (.lit (.int .u64 x))] := rfl
@[reducible] def u64sD (xs : List Int) : DV := .sl 1 xs.length fun k => u64C (xs[k]?.getD 0)
@[simp high] theorem u64sD_cell (xs : List Int) : DV.cell (u64sD xs) = true := rfl
@[simp high] theorem u64sD_isLit (xs : List Int) : DV.isLit (u64sD xs) = false := rfl
@[simp high] theorem u64sD_lenV (xs : List Int) : lenV (.d (u64sD xs)) = .int xs.length := rfl
@[simp high] theorem u64sD_lenOk (H : Heap) (s : Bool) (xs : List Int) : lenOk H s (.d (u64sD xs)) = (s = false) := rfl
@[simp high] theorem u64sD_slLen (xs : List Int) : slLen (.d (u64sD xs)) = xs.length := rfl
@[simp high] theorem u64sD_idxV (H : Heap) (xs : List Int) (k : IntKind) (i : Int) : idxH H (.d (u64sD xs)) (.d (.lit (.int k i))) = .d (.cref (u64C (xs[i.toNat]?.getD 0)) 0) := rfl
@[simp high] theorem u64sD_idxOk (H : Heap) (n : Nat) (xs : List Int) (k : IntKind) (i : Int) : idxHOk H n (.d (u64sD xs)) (.d (.lit (.int k i))) = (1 = n ∧ 0 ≤ i ∧ i < xs.length) := rfl
@[simp high] theorem u64sD_moreV (n : Nat) (xs : List Int) : moreV n (.d (u64sD xs)) = if 1 = n then some (xs.length, fun k => u64C (xs[k]?.getD 0)) else none := rfl
@[simp high] theorem u64sD_slcV (xs : List Int) (lo hi : Int) : slcV (.d (u64sD xs)) lo hi = .d (.sl 1 (hi.toNat - lo.toNat) fun i => u64C (xs[lo.toNat + i]?.getD 0)) := rfl
@[simp high] theorem u64sD_slcOk (n : Nat) (xs : List Int) (lo hi : Int) : slcOk n (.d (u64sD xs)) lo hi = (1 = n ∧ 0 ≤ lo ∧ lo ≤ hi ∧ hi ≤ xs.length) := rfl
theorem u64sD_fold (xs : List Int) : (DV.sl 1 xs.length fun k => u64C (xs[k]?.getD 0)) = u64sD xs := rfl
theorem u64sD_le {len : Nat} {row : Nat → List DV} {xs : List Int} (hl : len = xs.length) (h : ∀ i (hi : i < xs.length), row i = u64C xs[i]) : DLe (.sl 1 len row) (u64sD xs) := by
  subst hl
  exact DLe.sl fun i hi => by rw [h i hi, List.getElem?_eq_getElem hi]; rfl
theorem u64sD_nil : DLe (.lit (.slice none 0 0)) (u64sD []) := by
  intro X w v h; cases h; exact .nil _ _

abbrev DV.u64 (n : Int) : DV := .lit (.int .u64 n)

def worldC (w : Wd) : List DV := [.bool w.ended, .u64 w.code, .str w.out, .int w.read, .int w.steps, .int w.deep, u64sD w.globs, .int w.bad]
@[simp] theorem worldC_length (x : Wd) : (worldC x).length = 8 := rfl
@[simp] theorem worldC_cells (x : Wd) : (∀ d, d ∈ worldC x → d.cell = true) ↔ True := by unfold worldC; simp
@[simp] theorem worldC_len? (x : Wd) : (worldC x)[8]? = none := rfl
@[simp] theorem worldC_map (w : Wd) : (worldC w).map AV.d = [.d (.bool w.ended), .d (.u64 w.code), .d (.str w.out), .d (.int w.read), .d (.int w.steps), .d (.int w.deep), .d (u64sD w.globs), .d (.int w.bad)] := rfl

theorem wrapU_id {n : Int} (h : 0 ≤ n) (h' : n < 18446744073709551616) : IntKind.u64.wrap n = n := by
  unfold IntKind.wrap
  simp only [show IntKind.u64.signed = false from rfl, Bool.false_and, if_neg (by simp : ¬ false = true)]
  exact Int.emod_eq_of_lt h h'
theorem powI_ne : ∀ q, q < 64 → ¬ powI q = 0 := by decide

set_option maxRecDepth 10000 in
theorem power_pure (n : Nat) (h : n < 64) : APure Try.prog 36 [.u64 n] (.u64 (powI n)) := by
  refine apureG _ _ Try.func36 (by kernel_rfl) t_marlineref07_power u_marlineref07_power rfl rfl (fun _ => ?_)
  simp [c_marlineref07_power, r_marlineref07_power]
  refine loop_s (κ := Nat) (fun k => k ≤ n) (fun k => n - k) (fun k => [(sl 0, .d (.u64 ((n - k : Nat) : Int))), (sl 3, .d (.u64 (powI k)))]) (fun _ => []) 0 0 (srcs []) (by simp) (by simp [powI]) ?_
  rintro k hk
  simp
  refine ⟨fun hlt => ?_, fun hge => ?_⟩
  · refine ⟨k + 1, by omega, by omega, srcs [], ?_⟩
    simp [SLeK]
    refine ⟨DLe.of_eq ?_, DLe.refl _⟩
    rw [show IntKind.u64.wrap (((n - k : Nat) : Int) - 1) = ((n - (k + 1) : Nat) : Int) from ?_]
    rw [wrapU_id (by omega) (by omega)]
    omega
  · obtain rfl : k = n := by omega
    exact DLe.refl _

set_option maxRecDepth 10000 in
theorem reckon_pure (op a b : Int) (ha : 0 ≤ a) (hb : 0 ≤ b) : APure Try.prog 18 [.int op, .u64 a, .u64 b] (.u64 (reckI op a b)) := by
  refine apureG _ _ Try.func18 (by kernel_rfl) t_marlineref07_Reckon u_marlineref07_Reckon rfl rfl (fun _ => ?_)
  simp [c_marlineref07_Reckon, r_marlineref07_Reckon]
  have hm : 0 ≤ b.tmod 64 ∧ b.tmod 64 < 64 := ⟨Int.tmod_nonneg _ hb, Int.tmod_lt_of_pos _ (by decide)⟩
  obtain ⟨q, hq⟩ := Int.eq_ofNat_of_zero_le hm.1
  refine ⟨fun h => DLe.of_eq (by simp [reckI, wrapU, h]), fun h2 => ⟨fun h => DLe.of_eq (by simp [reckI, wrapU, h]), fun h3 => ⟨fun h => DLe.of_eq (by simp [reckI, wrapU, h]), fun h4 => ⟨fun h => DLe.of_eq (by simp [reckI, wrapU, h]), fun h5 => ⟨fun h => DLe.of_eq (by simp [reckI, wrapU, h]),
    fun h6 => ⟨fun h => DLe.of_eq (by simp [reckI, wrapU, h]), fun h7 => ⟨fun h => ?_, fun h8 => ⟨fun h => ?_, fun h9 => ?_⟩⟩⟩⟩⟩⟩⟩⟩
  · refine call_plain (ds := [.u64 (b.tmod 64)]) _ (by simp) (by simp) (fun _ => rfl) (fun _ => by rw [hq]; exact power_pure q (by omega)) ?_
    simp
    refine DLe.of_eq ?_
    simp [reckI, wrapU, h, hq]
  · refine call_plain (ds := [.u64 (b.tmod 64)]) _ (by simp) (by simp) (fun _ => rfl) (fun _ => by rw [hq]; exact power_pure q (by omega)) ?_
    simp
    refine ⟨powI_ne q (by omega), DLe.of_eq ?_⟩
    simp [reckI, wrapU, h, hq]
  · refine ⟨fun h => ⟨h, fun h' => ⟨h, h'⟩⟩, fun h => ?_, fun h => DLe.of_eq ?_, fun h h' => DLe.of_eq ?_⟩
    · by_cases h10 : op = 10
      · exact .inr (h h10)
      · exact .inl h10
    · simp only [reckI, if_neg h2, if_neg h3, if_neg h4, if_neg h5, if_neg h6, if_neg h7, if_neg h8, if_neg h9, if_pos h]
    · simp only [reckI, if_neg h2, if_neg h3, if_neg h4, if_neg h5, if_neg h6, if_neg h7, if_neg h8, if_neg h9]
      rw [if_neg]
      rintro (⟨h1, k⟩ | ⟨h1, k⟩)
      · have := h h1; omega
      · exact h' h1 k

theorem getI_some {l : List Int} {k : Nat} (h : k < l.length) : l[k]?.getD 0 = l[k] := by rw [List.getElem?_eq_getElem h]; rfl

set_option maxRecDepth 10000 in
theorem pick_pure (vals l : List Int) (hl : ∀ x ∈ l, 0 ≤ x ∧ x < vals.length) (h : l.length ≤ 1000) : APure Try.prog 38 [u64sD vals, intsD l] (u64sD (pickI vals l)) := by
  refine apureG _ _ Try.func38 (by kernel_rfl) t_marlineref07_pick u_marlineref07_pick rfl rfl (fun _ => ?_)
  simp [c_marlineref07_pick, r_marlineref07_pick]
  refine loop_s (κ := Nat) (fun k => k ≤ l.length) (fun k => l.length - k) (fun k => [(sl 6, .int k), (sl 5, .own 0 k)])
    (fun k => [(0, .row 29 1 k fun i => u64C ((pickI vals l)[i]?.getD 0))]) 1 0 (srcs [(0, .nil)]) (by simp) (by simp) ?_
  rintro k hk
  simp
  refine ⟨fun hlt => ?_, fun hge => ?_⟩
  · have hx := hl _ (List.getElem_mem hlt)
    rw [getI_some hlt]
    refine ⟨hlt, hx, by omega, k + 1, by omega, by omega, srcs [(0, .id 14)], ?_⟩
    simp [SLeK]
    refine ⟨DLe_int (wrap_succ (by omega)), fun i hi => ?_⟩
    unfold appRow
    split
    · rfl
    · obtain rfl : i = k := by omega
      simp [pickI, valAt, hlt, u64C]
  · obtain rfl : k = l.length := by omega
    exact DLe.of_eq (by simp only [u64sD, pickI_length])

set_option maxRecDepth 10000 in
theorem step_pure (w : Wd) (fuel : Nat) (hs : w.steps ≤ 1000000) : APure Try.prog 37 [.agg (worldC w), .int fuel] (.agg (worldC (stepW fuel w))) := by
  refine apureG _ _ Try.func37 (by kernel_rfl) t_marlineref07_step u_marlineref07_step rfl rfl (fun _ => ?_)
  simp [c_marlineref07_step, r_marlineref07_step]
  refine ⟨fun h => DLe.of_eq ?_, fun h => DLe.of_eq ?_⟩
  · have h' : w.steps = fuel := by omega
    simp [worldC, stepW, h']
  · have h' : ¬ w.steps = fuel := by omega
    rw [wrap_succ (by omega)]
    simp [worldC, stepW, h']

/-- Where an instruction's values are there, and its global. -/
def InstIn2 (m : Module) (x : Inst) (n : Nat) : Prop :=
  (∀ v ∈ uses x, 0 ≤ v ∧ v < n) ∧ (x.op = 12 ∨ x.op = 13 → 0 ≤ globI m x.name ∧ globI m x.name < m.globs.length) ∧ 1 ≤ x.op ∧ x.op ≤ 16 ∧ x.op ≠ 14

set_option maxRecDepth 10000 in
theorem gives_pure (m : Module) (w : Wd) (inp : ByteArray) (x : Inst) (vals : List Int) (hin : InstIn2 m x vals.length) (hv : ∀ v ∈ vals, 0 ≤ v) (hg : w.globs.length = m.globs.length) (hgl : m.globs.length ≤ 16) (hr : w.read ≤ 1000000) (ho : w.out.size ≤ 1000000) :
    APure Try.prog 39 [.agg (moduleC m), .agg (worldC w), .str inp, .agg (instC x), u64sD vals] (.tup [.agg (worldC (givesW m inp x vals w).1), .u64 (givesW m inp x vals w).2]) := by
  refine apureG _ _ Try.func39 (by kernel_rfl) t_marlineref07_gives u_marlineref07_gives rfl rfl (fun _ => ?_)
  simp [c_marlineref07_gives, r_marlineref07_gives]
  refine ⟨fun h1 => DLe.of_eq (by simp [givesW, worldC, h1]), fun h1 => ⟨fun h12 => ?_, fun h12 => ⟨fun h13 => ?_, fun h13 => ⟨fun h15 => ?_, fun h15 => ⟨fun h16 => ?_, fun h16 => ?_⟩⟩⟩⟩⟩
  · obtain ⟨g0, g1⟩ := hin.2.1 (.inl h12)
    refine call_plain (ds := [.agg (moduleC m), .str x.name]) _ (by simp) (by simp) (fun _ => rfl) (fun _ => findGlob_pure m x.name) ?_
    simp
    rw [show findI (fun f : Glob => decide (f.name = x.name)) m.globs = globI m x.name from rfl]
    exact ⟨⟨g0, by omega⟩, DLe.of_eq (by simp [givesW, worldC, h12, valAt])⟩
  · obtain ⟨g0, g1⟩ := hin.2.1 (.inr h13)
    have hu := hin.1 x.a (by simp [uses, h13])
    refine ⟨by omega, ?_⟩
    refine call_plain (ds := [.agg (moduleC m), .str x.name]) _ (by simp) (by simp) (fun _ => rfl) (fun _ => findGlob_pure m x.name) ?_
    simp
    rw [show findI (fun f : Glob => decide (f.name = x.name)) m.globs = globI m x.name from rfl]
    refine ⟨hu, ⟨g0, by omega⟩, by omega, DLe.of_eq ?_⟩
    have e : (fun i => List.map AV.dv (if i = (globI m x.name).toNat then [AV.d (DV.lit (Value.int IntKind.u64 (vals[x.a.toNat]?.getD 0)))] else [AV.d (DV.lit (Value.int IntKind.u64 (w.globs[i]?.getD 0)))])) =
        fun i => u64C ((w.globs.set (globI m x.name).toNat (valAt vals x.a))[i]?.getD 0) := by
      funext i
      rw [List.getElem?_set]
      by_cases h : i = (globI m x.name).toNat
      · rw [if_pos h, if_pos h.symm, if_pos (by omega)]
        rfl
      · rw [if_neg h, if_neg (Ne.symm h)]
        rfl
    rw [e]
    simp [givesW, worldC, h13]
  · refine ⟨fun h => DLe.of_eq (by simp [givesW, worldC, h15, h]), fun h => ?_⟩
    rw [wrap_succ (by omega)]
    rw [show IntKind.i64.wrap (((w.read + 1 : Nat) : Int) - 1) = (w.read : Int) from by rw [wrap_in (by omega)]; omega]
    refine ⟨⟨by omega, by omega⟩, DLe.of_eq ?_⟩
    have h' : ¬ inp.size ≤ w.read := by omega
    simp [givesW, worldC, h15, h', wrapU]
  · have hu := hin.1 x.a (by simp [uses, h16])
    refine ⟨hu, ?_, DLe.of_eq (by simp [givesW, worldC, h16, byteS, valAt])⟩
    have : (pushB [IntKind.u8.wrap ((vals[x.a.toNat]?.getD 0).tmod 256)]).size = 1 := rfl
    omega
  · have ho2 : 2 ≤ x.op ∧ x.op ≤ 11 := by
      obtain ⟨_, _, a1, a2, a3⟩ := hin
      omega
    have hu := hin.1 x.a (by simp [uses, ho2])
    have hu' := hin.1 x.b (by simp [uses, ho2])
    refine ⟨hu, hu', ?_⟩
    refine call_plain (ds := [.int x.op, .u64 (valAt vals x.a), .u64 (valAt vals x.b)]) _ (by simp) (by simp) (fun _ => rfl) (fun _ => reckon_pure x.op _ _ (valAt_nonneg hv _) (valAt_nonneg hv _)) ?_
    simp
    exact DLe.of_eq (by simp [givesW, worldC, h1, h12, h13, h15, h16])

end Go.Proofs.Ytpfokkfomgmibaa
