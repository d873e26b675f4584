/- Contracts by the evaluator: the document's layer 7: a run. -/
import Derived.Test.YtpfokkfomgmibaaH1
import Derived.Test.YtpfokkfomgmibaaG3
namespace Go.Proofs.Ytpfokkfomgmibaa
open Go.RowKit

/-- What a run comes to, as a trace. -/
def traceC (w : Wd) : List DV := [.bool w.ended, .u64 w.code, .str w.out, .int w.read, .int w.steps, .int w.deep]
@[simp] theorem traceC_length (x : Wd) : (traceC x).length = 6 := rfl
@[simp] theorem traceC_cells (x : Wd) : (∀ d, d ∈ traceC x → d.cell = true) ↔ True := by unfold traceC; simp
@[simp] theorem traceC_len? (x : Wd) : (traceC x)[6]? = none := rfl
@[simp] theorem traceC_map (w : Wd) : (traceC w).map AV.d = [.d (.bool w.ended), .d (.u64 w.code), .d (.str w.out), .d (.int w.read), .d (.int w.steps), .d (.int w.deep)] := rfl
def errW (e : Int) : Wd := ⟨false, 0, ⟨#[]⟩, 0, 0, 0, [], e⟩
/-- A run of what may not be run, too. -/
def runA (m : Module) (inp : ByteArray) (fuel deep : Int) : Wd :=
  if fuel < 0 ∨ 100000 < fuel ∨ deep < 1 ∨ 64 < deep then errW 1 else if wholeE m ≠ 0 then errW (wholeE m) else runR m inp fuel.toNat deep.toNat
set_option maxRecDepth 10000 in
set_option maxHeartbeats 1000000 in
theorem run_pure (m : Module) (hm : ArgsOk m) (inp : ByteArray) (fuel deep : Int) : APure Try.prog 14 [.agg (moduleC m), .str inp, .int fuel, .int deep] (.tup [.agg (traceC (runA m inp fuel deep)), .int (runA m inp fuel deep).bad]) := by
  refine apureG _ _ Try.func14 (by kernel_rfl) t_marlineref07_Run u_marlineref07_Run rfl rfl (fun _ => ?_)
  simp [c_marlineref07_Run, r_marlineref07_Run]
  refine ⟨fun h => DLe.of_eq ?_, fun h0 h1 h2 h3 => ?_⟩
  · have e : runA m inp fuel deep = errW 1 := if_pos (by omega)
    rw [e]
    rfl
  have hno : ¬ (fuel < 0 ∨ 100000 < fuel ∨ deep < 1 ∨ 64 < deep) := by omega
  refine call_plain (ds := [.agg (moduleC m)]) _ (by simp) (by simp) (fun _ => by simp; rfl) (fun _ => whole_any m hm) ?_
  simp
  refine ⟨fun hz => DLe.of_eq ?_, fun hz => ?_⟩
  · have e : runA m inp fuel deep = errW (wholeE m) := by unfold runA; rw [if_neg hno, if_pos hz]
    rw [e]
    rfl
  have er : runA m inp fuel deep = runR m inp fuel.toNat deep.toNat := by unfold runA; rw [if_neg hno, if_neg (fun h => h hz)]
  rw [er]
  have hg16 := (wholeE_zero.1 hz).1.ng
  refine loop_s (κ := Nat) (fun k => k ≤ m.globs.length) (fun k => m.globs.length - k) (fun k => [(sl 12, .int k)])
    (fun k => [(0, .row 29 1 k fun i => u64C ((startW m).globs[i]?.getD 0)), (1, .box ((traceC (errW 0)).map .d)), (23, .box ((traceC (errW 0)).map .d ++ [.own 0 k, .d (.int 0)]))]) 24 0 (srcs [(0, .nil), (1, .id 1), (23, .id 23)]) (by simp) (by simp [errW]) ?_
  rintro k hk
  simp
  refine ⟨fun hlt => ?_, fun hge => ?_⟩
  · refine ⟨hlt, by omega, k + 1, by omega, by omega, srcs [(0, .id 38), (1, .id 1), (23, .id 23)], ?_⟩
    simp [SLeK]
    refine ⟨DLe_int (wrap_succ (by omega)), fun i hi => ?_⟩
    unfold appRow
    split
    · rfl
    · obtain rfl : i = k := by omega
      simp [startW, hlt, u64C]
  · obtain rfl : k = m.globs.length := by omega
    obtain ⟨R, hR⟩ : ∃ R, goF m inp fuel.toNat deep.toNat (enterW 1 (startW m)) (funcOf m mainS) 0 0 [] 1 = R := ⟨_, rfl⟩
    have hrun : runR m inp fuel.toNat deep.toNat = if R.1.bad ≠ 0 then R.1 else { R.1 with ended := true, code := R.2 } := by rw [← hR]; rfl
    have hcall : APure Try.prog 25 [.agg (moduleC m), .agg (worldC (startW m)), .str inp, .str mainS, u64sD [], .int 1, .int fuel, .int deep] (.tup [.agg (worldC R.1), .u64 R.2]) := by
      obtain ⟨hok, hmain, hthere⟩ := wholeE_zero.1 hz
      unfold mainB at hmain
      cases hf : findF m mainS with
      | none => rw [hf] at hmain; cases hmain
      | some f =>
        rw [hf] at hmain
        simp only [Bool.and_eq_true, decide_eq_true_eq] at hmain
        have e1 : funcOf m mainS = f := by unfold funcOf; rw [hf]; rfl
        rw [e1] at hR
        have := call_pure m hz inp fuel.toNat deep.toNat (by omega) (by omega) (fuel.toNat + 1) (startW m) mainS [] 1 f ⟨startW_good m _, by simp, by omega, by omega, hf, by omega, by rw [hmain.2]; rfl⟩ (by simp [startW])
        rw [hR, Int.toNat_of_nonneg h0, Int.toNat_of_nonneg (by omega)] at this
        exact this
    refine call_arg (ds := [.agg (moduleC m), .agg [.bool false, .u64 0, .str ⟨#[]⟩, .int 0, .int 0, .int 0, .sl 1 m.globs.length fun i => u64C ((startW m).globs[i]?.getD 0), .int 0], .str inp, .str mainS, .lit (.slice none 0 0), .int 1, .int fuel, .int deep]) hcall (by simp) (by simp) (fun _ => by simp [errW]; exact ⟨rfl, rfl⟩) (fun _ => ?_) ?_
    · simp [DLes]
      refine ⟨DLe.of_eq ?_, u64sD_nil⟩
      rw [show m.globs.length = (startW m).globs.length from by simp [startW]]
      rfl
    simp
    refine ⟨fun hb => DLe.of_eq ?_, fun hb => DLe.of_eq ?_⟩
    · rw [hrun, if_pos hb]
      rfl
    · rw [hrun, if_neg (fun h => h hb)]
      simp only [hb]
      rfl

end Go.Proofs.Ytpfokkfomgmibaa
