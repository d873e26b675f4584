/- Contracts by the evaluator: layer 7, a block's end, at each kind of end. -/
import Derived.Test.YtpfokkfomgmibaaS7
namespace Go.Proofs.Ytpfokkfomgmibaa
open Go.RowKit

def boxR : List (Nat × AObj) := [(1000005, .box [.ptr 1000000 0])]

set_option maxRecDepth 10000 in
set_option maxHeartbeats 1000000 in
theorem end0_eff (m : Module) (inp : ByteArray) (w : Wd) (top : Fr) (b : Block) (hk : b.kind = 3) (hta : 0 ≤ b.ta ∧ b.ta < top.vals.length) :
    AEff Try.prog 20 [.ptr 1000003 0, .d (.agg (termC b)), .ptr 1000005 0] (LRun 1000000 m inp w top [] ++ boxR) (.bool false)
      ([(1000000, .box (runC 1000000 m inp (.own 999999 0) { w with ended := true, code := valAt top.vals b.ta })), (1000001, .map .string m.globs.length (gmap m w.globs)), (999999, .vec 75 1 0 fun _ => [])] ++ boxR) := by
  refine aeffG _ _ Try.func20 (by kernel_rfl) t_eval_Run_1 u_eval_Run_1 rfl rfl (by simp [LRun, boxR]) (by simp [LRun, boxR, idsOk]) (fun _ => ?_)
  simp [c_eval_Run_1, r_eval_Run_1, LRun, boxR, hof, hk, frC]
  refine ⟨hta, ?_⟩
  refine calle_k (back0_eff m inp w top (valAt top.vals b.ta)) (tauC 1000000 _) rfl [.ptr 1000000 0, .d (.u64 (valAt top.vals b.ta))] (by simp) (by simp) (by simp [valAt]) (by simp [gOf, LRun, tauC])
    (HLe_run (c := 1000000) (by simp [gOf, LRun, tauC]) (by simp [gOf, LRun, tauC]) (by simp [gOf, LRun, tauC]) (by simp [gOf, LRun, tauC]) (by simp [gOf, LRun, tauC]) (fun k hk => by simp at hk) (by simp) (by simp) (by simp) (by simp [frC]) (by simp)) (srcApart_call fun i o hi => by simp [LRun] at hi; omega) (by simp [LRun, idsOk]) ?_
  simp [-tau2, LRun, tau_n, tau_0, tau_1, tau_2, tau_3, tau_4, runC]
  exact ⟨.id 15, by simp [gE], by simp [gE]⟩

set_option maxRecDepth 10000 in
set_option maxHeartbeats 1000000 in
theorem end1_eff (m : Module) (inp : ByteArray) (w : Wd) (top s : Fr) (r : List Fr) (b : Block) (hlo : r.length ≤ 63) (hsl : s.vals.length ≤ 100000) (hk : b.kind = 3) (hta : 0 ≤ b.ta ∧ b.ta < top.vals.length) :
    AEff Try.prog 20 [.ptr 1000003 0, .d (.agg (termC b)), .ptr 1000005 0] ((LRun 1000000 m inp w top (s :: r) ++ boxR ++ LF (fid 1000000 r.length) (vid 1000000 r.length) s) ++ fam 1000000 r) (.bool true)
      ([(1000000, .box (runC 1000000 m inp (.own 999999 (r.length + 1)) w)), (1000001, .map .string m.globs.length (gmap m w.globs)), (999999, .vec 75 1 (r.length + 1) fun i => [.ptr (fid 1000000 i) 0]),
        (1000005, .box [.ptr 1000000 0]), (fid 1000000 r.length, .box (frC s (.own 999998 (s.vals.length + 1)))), (999998, .row 29 1 (s.vals.length + 1) (valsR (s.vals ++ [valAt top.vals b.ta])))] ++ fam 1000000 r) := by
  refine aeffG _ _ Try.func20 (by kernel_rfl) t_eval_Run_1 u_eval_Run_1 rfl rfl ?_ ?_ (fun _ => ?_)
  · rw [List.all_append, fam_all (by omega)]
    simp [LRun, LF, boxR]
    unfold fid vid
    omega
  · rw [idsOk_append]
    exact ⟨by simp [idsOk, LRun, LF, boxR], idsOk_fam fun k hk => by
      obtain ⟨h1, h2⟩ := any_fam (b := 1000000) hk
      exact ⟨by rw [List.any_append, h1, Bool.or_true], by rw [List.any_append, h2, Bool.or_true]⟩⟩
  obtain ⟨L, hL⟩ : ∃ L, ((LRun 1000000 m inp w top (s :: r) ++ boxR ++ LF (fid 1000000 r.length) (vid 1000000 r.length) s) ++ fam 1000000 r) = L := ⟨_, rfl⟩
  obtain ⟨L', hL'⟩ : ∃ L' : List (Nat × AObj), ([(1000000, .box (runC 1000000 m inp (.own 999999 (r.length + 1)) w)), (1000001, .map .string m.globs.length (gmap m w.globs)), (999999, .vec 75 1 (r.length + 1) fun i => [.ptr (fid 1000000 i) 0]),
        (1000005, .box [.ptr 1000000 0]), (fid 1000000 r.length, .box (frC s (.own 999998 (s.vals.length + 1)))), (999998, .row 29 1 (s.vals.length + 1) (valsR (s.vals ++ [valAt top.vals b.ta])))] ++ fam 1000000 r) = L' := ⟨_, rfl⟩
  rw [hL, hL']
  obtain ⟨H, hH⟩ : ∃ H, hof L = H := ⟨_, rfl⟩
  have hH' : H = hadd 1000000 (.box (runC 1000000 m inp (.own 1000002 (r.length + 2)) w)) (hadd 1000001 (.map .string m.globs.length (gmap m w.globs)) (hadd 1000002 (.vec 75 1 (r.length + 2) (ptrR 1000000 (r.length + 2)))
      (hadd 1000003 (.box (frC top (.own 1000004 top.vals.length))) (hadd 1000004 (.row 29 1 top.vals.length (valsR top.vals)) (hadd 1000005 (.box [.ptr 1000000 0]) (hadd (fid 1000000 r.length) (.box (frC s (.own (vid 1000000 r.length) s.vals.length)))
      (hadd (vid 1000000 r.length) (.row 29 1 s.vals.length (valsR s.vals)) (hof (fam 1000000 r))))))))) := by rw [← hH, ← hL]; rfl
  rw [hH]
  have hfam : ∀ i o, (i, o) ∈ fam 1000000 (s :: r) → hget H i = some o := fun i o hm => by
    rw [hH', ← hof_fam hm]
    obtain ⟨k, hk, he⟩ := fam_mem hm
    have hi : 1000100 ≤ i := by unfold fid vid at he; omega
    simp only [hget_add, fam, hof]
    repeat rw [if_neg (by omega)]
  have g0 : hget H 1000000 = some (.box (runC 1000000 m inp (.own 1000002 (r.length + 2)) w)) := by rw [hH']; simp [hget_add]
  have g1 : hget H 1000001 = some (.map .string m.globs.length (gmap m w.globs)) := by rw [hH']; simp [hget_add]
  have g2 : hget H 1000002 = some (.vec 75 1 (r.length + 2) (ptrR 1000000 (r.length + 2))) := by rw [hH']; simp [hget_add]
  have g3 : hget H 1000003 = some (.box (frC top (.own 1000004 top.vals.length))) := by rw [hH']; simp [hget_add]
  have g4 : hget H 1000004 = some (.row 29 1 top.vals.length (valsR top.vals)) := by rw [hH']; simp [hget_add]
  have g5 : hget H 1000005 = some (.box [.ptr 1000000 0]) := by rw [hH']; simp [hget_add]
  simp [c_eval_Run_1, r_eval_Run_1, hk, g0, g1, g2, g3, g4, g5, frC]
  refine ⟨hta, ?_⟩
  refine calle_k (back_eff m inp w top s r (valAt top.vals b.ta) (by omega) hsl) (tauC 1000000 _) rfl [.ptr 1000000 0, .d (.u64 (valAt top.vals b.ta))] (by simp) (by simp) (by simp [valAt]) (by simp [gOf, LRun, tauC])
    (HLe_call (B := []) (lo := s :: r) g0 g1 g2 g3 g4 hfam trivial) (srcApart_call fun i o hi => ?_) ?_ ?_
  · rcases List.mem_append.1 hi with h | h
    · simp [LRun, LF] at h
      unfold fid vid at h
      omega
    · obtain ⟨k, hk, he⟩ := fam_mem h
      unfold fid vid at he
      omega
  · rw [idsOk_append]
    exact ⟨by simp [idsOk, LRun, LF], idsOk_fam fun k hk => by
      obtain ⟨h1, h2⟩ := any_fam (b := 1000000) hk
      exact ⟨by rw [List.any_append, h1, Bool.or_true], by rw [List.any_append, h2, Bool.or_true]⟩⟩
  rw [hput_call (lo := r) (fun i o hm => hfam i o (by simp only [fam, List.mem_cons]; exact .inr (.inr hm))) (fun i o hi => by
    simp [LRun, LF] at hi
    unfold fid vid at *
    refine ⟨by omega, fun k hk => by omega⟩)]
  rw [hH']
  simp [-tau2, LRun, LF, tau_n, tau_n2, tau_0, tau_1, tau_2, tau_3, tau_4, tauC_fid, runC, frC, hdel_fam]
  rw [(hdel_fam2 (b := 1000000) (l := r) (Nat.le_refl _)).2, (hdel_fam2 (b := 1000000) (l := r) (Nat.le_refl _)).1]
  simp only [hdel_fam (show 1000004 < 1000000 + 100 by decide), hdel_fam (show 1000003 < 1000000 + 100 by decide), hdel_fam (show 1000002 < 1000000 + 100 by decide), hdel_fam (show 1000001 < 1000000 + 100 by decide), hdel_fam (show 1000000 < 1000000 + 100 by decide)]
  refine ⟨.id 500015000000015, ?_, ?_⟩
  · rw [← hL, ← hL', HLe_append]
    refine ⟨?_, HLe_fam (fun k hk => gE_fam (by decide) hk) fun i o hm => ?_⟩
    · have hg3 := fun k (hk : k < r.length) => (gE_fam (A := LRun 1000000 m inp w top (s :: r) ++ boxR ++ LF (fid 1000000 r.length) (vid 1000000 r.length) s) (s := .id 500015000000015) (b := 1000000) (by decide) hk).1
      obtain ⟨g, hg⟩ : ∃ g, gE (LRun 1000000 m inp w top (s :: r) ++ boxR ++ LF (fid 1000000 r.length) (vid 1000000 r.length) s ++ fam 1000000 r) (.id 500015000000015) = g := ⟨_, rfl⟩
      have e0 : g 1000000 = .id 1000000 := by rw [← hg]; simp [gE, LRun]
      have e1 : g 1000001 = .id 1000001 := by rw [← hg]; simp [gE, LRun]
      have e2 : g 999998 = .id 500015 := by rw [← hg]; simp [gE]
      have e3 : g (fid 1000000 r.length) = .id (fid 1000000 r.length) := by rw [← hg]; simp [gE, LF]
      have e5 : g 999999 = .id 15 := by rw [← hg]; simp [gE]
      have e6 : g 1000005 = .id 1000005 := by rw [← hg]; simp [gE, boxR]
      rw [hg] at hg3 ⊢
      simp [e0, e1, e2, e3, e5, e6, frC, runC]
      intro i hi
      by_cases h : i = r.length
      · subst h
        simp [e3]
      · simp [hg3 i (by omega)]
    · obtain ⟨k, hk, he⟩ := fam_mem hm
      have hi : 1000100 ≤ i ∧ i ≠ fid 1000000 r.length := by unfold fid vid at *; omega
      simp only [hget_add]
      repeat rw [if_neg (by omega)]
      exact hof_fam hm
  · refine srcApart_gE (fun i o hm => ?_) (by decide) (by decide) (by decide)
    rw [← hL] at hm
    rcases List.mem_append.1 hm with h | h
    · simp [LRun, LF, boxR] at h
      unfold fid vid at h
      omega
    · obtain ⟨k, hk, he⟩ := fam_mem h
      unfold fid vid at he
      omega

set_option maxRecDepth 10000 in
set_option maxHeartbeats 1000000 in
theorem end2_eff (m : Module) (inp : ByteArray) (w : Wd) (top : Fr) (lo : List Fr) (b : Block) (to : Nat) (l : List Int) (hlo : lo.length ≤ 64) (hk : ¬ b.kind = 3) (hta : b.kind = 2 → 0 ≤ b.ta ∧ b.ta < top.vals.length)
    (hto : (b.kind = 2 ∧ valAt top.vals b.ta = 0 ∧ b.els = to ∧ b.elses = l) ∨ (¬ (b.kind = 2 ∧ valAt top.vals b.ta = 0) ∧ b.to = to ∧ b.args = l)) (hl : ∀ v ∈ l, 0 ≤ v ∧ v < top.vals.length) (hlen : l.length ≤ 1000) :
    AEff Try.prog 20 [.ptr 1000003 0, .d (.agg (termC b)), .ptr 1000005 0] ((LRun 1000000 m inp w top lo ++ boxR) ++ fam 1000000 lo) (.bool true)
      ([(1000000, .box (runC 1000000 m inp (.own 1000002 (lo.length + 1)) w)), (1000001, .map .string m.globs.length (gmap m w.globs)), (1000002, .vec 75 1 (lo.length + 1) (ptrR 1000000 (lo.length + 1))),
        (1000003, .box (frC ⟨top.f, to, 0, pickI top.vals l⟩ (.own 999999 l.length))), (999999, .row 29 1 l.length (valsR (pickI top.vals l))), (1000005, .box [.ptr 1000000 0])] ++ fam 1000000 lo) := by
  refine aeffG _ _ Try.func20 (by kernel_rfl) t_eval_Run_1 u_eval_Run_1 rfl rfl ?_ ?_ (fun _ => ?_)
  · rw [List.all_append, fam_all (by omega)]
    simp [LRun, boxR]
  · rw [idsOk_append]
    exact ⟨by simp [idsOk, LRun, boxR], idsOk_fam fun k hk => by
      obtain ⟨h1, h2⟩ := any_fam (b := 1000000) hk
      exact ⟨by rw [List.any_append, h1, Bool.or_true], by rw [List.any_append, h2, Bool.or_true]⟩⟩
  obtain ⟨L, hL⟩ : ∃ L, ((LRun 1000000 m inp w top lo ++ boxR) ++ fam 1000000 lo) = L := ⟨_, rfl⟩
  obtain ⟨L', hL'⟩ : ∃ L' : List (Nat × AObj), ([(1000000, .box (runC 1000000 m inp (.own 1000002 (lo.length + 1)) w)), (1000001, .map .string m.globs.length (gmap m w.globs)), (1000002, .vec 75 1 (lo.length + 1) (ptrR 1000000 (lo.length + 1))),
        (1000003, .box (frC ⟨top.f, to, 0, pickI top.vals l⟩ (.own 999999 l.length))), (999999, .row 29 1 l.length (valsR (pickI top.vals l))), (1000005, .box [.ptr 1000000 0])] ++ fam 1000000 lo) = L' := ⟨_, rfl⟩
  rw [hL, hL']
  have hH' : hof L = hadd 1000000 (.box (runC 1000000 m inp (.own 1000002 (lo.length + 1)) w)) (hadd 1000001 (.map .string m.globs.length (gmap m w.globs)) (hadd 1000002 (.vec 75 1 (lo.length + 1) (ptrR 1000000 (lo.length + 1)))
      (hadd 1000003 (.box (frC top (.own 1000004 top.vals.length))) (hadd 1000004 (.row 29 1 top.vals.length (valsR top.vals)) (hadd 1000005 (.box [.ptr 1000000 0]) (hof (fam 1000000 lo))))))) := by rw [← hL]; rfl
  obtain ⟨H, hH⟩ : ∃ H, hadd 1000000 (.box (runC 1000000 m inp (.own 1000002 (lo.length + 1)) w)) (hadd 1000001 (.map .string m.globs.length (gmap m w.globs)) (hadd 1000002 (.vec 75 1 (lo.length + 1) (ptrR 1000000 (lo.length + 1)))
      (hadd 1000003 (.box (frC top (.own 1000004 top.vals.length))) (hadd 1000004 (.row 29 1 top.vals.length (valsR top.vals)) (hadd 1000005 (.box [.ptr 1000000 0]) (hof (fam 1000000 lo))))))) = H := ⟨_, rfl⟩
  have fin : EffEnd L L' (hput (tau2 26 (tauC 1000000 26)) (LF 1000003 1000004 top) (LF 1000003 999999 ⟨top.f, to, 0, pickI top.vals l⟩) H) := by
    rw [← hH]
    simp [-tau2, LF, tau_n, tau_3, tau_4, frC, hdel_fam]
    refine ⟨.id 26, ?_, ?_⟩
    · rw [← hL, ← hL', HLe_append]
      refine ⟨?_, HLe_fam (fun k hk => gE_fam (by decide) hk) fun i o hm => ?_⟩
      · have hg3 := fun k (hk : k < lo.length) => (gE_fam (A := LRun 1000000 m inp w top lo ++ boxR) (s := .id 26) (b := 1000000) (by decide) hk).1
        obtain ⟨g, hg⟩ : ∃ g, gE (LRun 1000000 m inp w top lo ++ boxR ++ fam 1000000 lo) (.id 26) = g := ⟨_, rfl⟩
        have e0 : g 1000000 = .id 1000000 := by rw [← hg]; simp [gE, LRun]
        have e1 : g 1000001 = .id 1000001 := by rw [← hg]; simp [gE, LRun]
        have e2 : g 1000002 = .id 1000002 := by rw [← hg]; simp [gE, LRun]
        have e3 : g 1000003 = .id 1000003 := by rw [← hg]; simp [gE, LRun]
        have e5 : g 999999 = .id 26 := by rw [← hg]; simp [gE]
        have e6 : g 1000005 = .id 1000005 := by rw [← hg]; simp [gE, boxR]
        rw [hg] at hg3 ⊢
        simp [e0, e1, e2, e3, e5, e6, frC, runC]
        exact fun i hi => ptr_le e3 (fun k hk => hg3 k (by omega)) i hi
      · obtain ⟨k, hk, he⟩ := fam_mem hm
        have hi : 1000100 ≤ i := by unfold fid vid at *; omega
        simp only [hget_add]
        repeat rw [if_neg (by omega)]
        exact hof_fam hm
    · refine srcApart_gE (fun i o hm => ?_) (by decide) (by decide) (by decide)
      rw [← hL] at hm
      rcases List.mem_append.1 hm with h | h
      · simp [LRun, boxR] at h
        omega
      · obtain ⟨k, hk, he⟩ := fam_mem h
        unfold fid vid at he
        omega
  have hle : HLe noR (gOf (tau2 26 (tauC 1000000 26)) (LF 1000003 1000004 top)) H (LF 1000003 1000004 top) := by
    have e3 : gOf (tau2 26 (tauC 1000000 26)) (LF 1000003 1000004 top) 1000003 = .id 1000003 := by rw [gOf_in (by simp [LF]), tauC_big (by decide)]
    have e4 : gOf (tau2 26 (tauC 1000000 26)) (LF 1000003 1000004 top) 1000004 = .id 1000004 := by rw [gOf_in (by simp [LF]), tauC_big (by decide)]
    generalize gOf (tau2 26 (tauC 1000000 26)) (LF 1000003 1000004 top) = g at e3 e4
    rw [← hH]
    simp [LF, e3, e4, frC]
  have hsa : srcApart (gOf (tau2 26 (tauC 1000000 26)) (LF 1000003 1000004 top)) (LF 1000003 1000004 top) := srcApart_call fun i o hi => by simp [LF] at hi; omega
  rw [hH', hH]
  have g0 : hget H 1000000 = some (.box (runC 1000000 m inp (.own 1000002 (lo.length + 1)) w)) := by rw [← hH]; simp [hget_add]
  have g3 : hget H 1000003 = some (.box (frC top (.own 1000004 top.vals.length))) := by rw [← hH]; simp [hget_add]
  have g4 : hget H 1000004 = some (.row 29 1 top.vals.length (valsR top.vals)) := by rw [← hH]; simp [hget_add]
  have g5 : hget H 1000005 = some (.box [.ptr 1000000 0]) := by rw [← hH]; simp [hget_add]
  have l3 : ∀ n, 0 < n → hget (hlow n H) 1000003 = some (.box (frC top (.own 1000004 top.vals.length))) := fun n hn => by rw [hget_low, if_pos (by omega)]; exact g3
  have l4 : ∀ n, 0 < n → hget (hlow n H) 1000004 = some (.row 29 1 top.vals.length (valsR top.vals)) := fun n hn => by rw [hget_low, if_pos (by omega)]; exact g4
  have ln : (pickI top.vals l).length = l.length := pickI_length _ _
  simp [c_eval_Run_1, r_eval_Run_1, hk, frC, g0, g3, g4, g5]
  refine ⟨fun h => ⟨h, hta h⟩, fun h hz => ?_, fun hz => ?_⟩
  · rcases hto with ⟨_, _, t1, t2⟩ | ⟨t0, _⟩
    rotate_left
    · exact absurd ⟨h, hz⟩ t0
    refine calle_k (goes_eff top to l hl hlen) (tauC 1000000 26) rfl [.ptr 1000003 0, .int to, .d (intsD l)] (by simp) (by simp) (by simp [t1, t2]) (by simp [gOf, LF, tauC]) hle hsa (by simp [LF, idsOk]) ?_
    obtain ⟨H2, hH2⟩ : ∃ H2, hput (tau2 26 (tauC 1000000 26)) (LF 1000003 1000004 top) (LF 1000003 999999 ⟨top.f, to, 0, pickI top.vals l⟩) H = H2 := ⟨_, rfl⟩
    rw [hH2] at fin
    show GO _ _ _ _ _ _ _ _ (hput (tau2 26 (tauC 1000000 26)) (LF 1000003 1000004 top) (LF 1000003 999999 ⟨top.f, to, 0, pickI top.vals l⟩) H)
    rw [hH2]
    simp
    exact fin
  · rcases hto with ⟨t0, t00, _⟩ | ⟨_, t1, t2⟩
    · exact absurd t00 (hz t0)
    refine calle_k (goes_eff top to l hl hlen) (tauC 1000000 26) rfl [.ptr 1000003 0, .int to, .d (intsD l)] (by simp) (by simp) (by simp [t1, t2]) (by simp [gOf, LF, tauC]) hle hsa (by simp [LF, idsOk]) ?_
    obtain ⟨H2, hH2⟩ : ∃ H2, hput (tau2 26 (tauC 1000000 26)) (LF 1000003 1000004 top) (LF 1000003 999999 ⟨top.f, to, 0, pickI top.vals l⟩) H = H2 := ⟨_, rfl⟩
    rw [hH2] at fin
    show GO _ _ _ _ _ _ _ _ (hput (tau2 26 (tauC 1000000 26)) (LF 1000003 1000004 top) (LF 1000003 999999 ⟨top.f, to, 0, pickI top.vals l⟩) H)
    rw [hH2]
    simp
    exact fin

end Go.Proofs.Ytpfokkfomgmibaa
