/- Contracts by the evaluator: layer 7, a value is given back. -/
import Derived.Test.YtpfokkfomgmibaaS4
import Derived.Test.YtpfokkfomgmibaaSC
namespace Go.Proofs.Ytpfokkfomgmibaa
open Go.RowKit

@[simp] theorem lit_fid {k b n : Nat} (h : k < b + 100) : (k = fid b n) = False := by unfold fid; simp; omega
@[simp] theorem fid_lit {k b n : Nat} (h : k < b + 100) : (fid b n = k) = False := by unfold fid; simp; omega
@[simp] theorem lit_vid {k b n : Nat} (h : k < b + 100) : (k = vid b n) = False := by unfold vid; simp; omega
@[simp] theorem vid_lit {k b n : Nat} (h : k < b + 100) : (vid b n = k) = False := by unfold vid; simp; omega
@[simp] theorem fid_vid (b n k : Nat) : (fid b n = vid b k) = False := by unfold fid vid; simp; omega
@[simp] theorem vid_fid (b n k : Nat) : (vid b n = fid b k) = False := by unfold fid vid; simp; omega

theorem hdel_fam2 {b n : Nat} {l : List Fr} (h : l.length ≤ n) : hdel (hof (fam b l)) (fid b n) = hof (fam b l) ∧ hdel (hof (fam b l)) (vid b n) = hof (fam b l) := by
  have key : ∀ i, (∀ k, k < l.length → i ≠ fid b k ∧ i ≠ vid b k) → hdel (hof (fam b l)) i = hof (fam b l) := by
    intro i hi
    funext k
    unfold hdel
    split
    · rename_i e
      subst e
      exact (hof_fam_none hi).symm
    · rfl
  exact ⟨key _ fun k hk => by unfold fid vid; omega, key _ fun k hk => by unfold fid vid; omega⟩
theorem valsR_snoc (vals : List Int) (v : Int) (i : Nat) (h : i < vals.length + 1) : appRow vals.length (valsR vals) (fun i => List.take 1 (List.drop i [DV.u64 v])) i = valsR (vals ++ [v]) i := by
  unfold appRow valsR
  split
  · rename_i h
    rw [List.getElem?_append_left h]
  · rename_i h
    have : i = vals.length := by omega
    subst this
    simp [u64C]

set_option maxRecDepth 10000 in
set_option maxHeartbeats 1000000 in
theorem back0_eff (m : Module) (inp : ByteArray) (w : Wd) (top : Fr) (v : Int) :
    AEff Try.prog 21 [.ptr 1000000 0, .d (.u64 v)] (LRun 1000000 m inp w top []) (.bool false)
      [(1000000, .box (runC 1000000 m inp (.own 999999 0) { w with ended := true, code := v })), (1000001, .map .string m.globs.length (gmap m w.globs)), (999999, .vec 75 1 0 fun _ => [])] := by
  refine aeffG _ _ Try.func21 (by kernel_rfl) t___eval_run__back u___eval_run__back rfl rfl (by simp [LRun]) (by simp [idsOk, LRun]) (fun _ => ?_)
  have hw0 : IntKind.i64.wrap 0 = 0 := rfl
  simp [c___eval_run__back, r___eval_run__back, runC, LRun, hof, hw0]
  exact ⟨.id 12, by simp [gE], by simp [gE]⟩

set_option maxRecDepth 10000 in
set_option maxHeartbeats 1000000 in
theorem back_eff (m : Module) (inp : ByteArray) (w : Wd) (top s : Fr) (r : List Fr) (v : Int) (hlo : r.length ≤ 64) (hsl : s.vals.length ≤ 100000) :
    AEff Try.prog 21 [.ptr 1000000 0, .d (.u64 v)]
      ((LRun 1000000 m inp w top (s :: r) ++ LF (fid 1000000 r.length) (vid 1000000 r.length) s) ++ fam 1000000 r) (.bool true)
      ([(1000000, .box (runC 1000000 m inp (.own 999999 (r.length + 1)) w)), (1000001, .map .string m.globs.length (gmap m w.globs)), (999999, .vec 75 1 (r.length + 1) fun i => [.ptr (fid 1000000 i) 0]),
        (fid 1000000 r.length, .box (frC s (.own 999998 (s.vals.length + 1)))), (999998, .row 29 1 (s.vals.length + 1) (valsR (s.vals ++ [v])))] ++ fam 1000000 r) := by
  refine aeffG _ _ Try.func21 (by kernel_rfl) t___eval_run__back u___eval_run__back rfl rfl ?_ ?_ (fun _ => ?_)
  · rw [List.all_append, fam_all (by omega)]
    simp [LRun, LF]
    unfold fid vid
    omega
  · rw [idsOk_append]
    exact ⟨by simp [idsOk, LRun, LF], idsOk_fam fun k hk => by
      obtain ⟨h1, h2⟩ := any_fam (b := 1000000) hk
      exact ⟨by rw [List.any_append, h1, Bool.or_true], by rw [List.any_append, h2, Bool.or_true]⟩⟩
  obtain ⟨L, hL⟩ : ∃ L, ((LRun 1000000 m inp w top (s :: r) ++ LF (fid 1000000 r.length) (vid 1000000 r.length) s) ++ fam 1000000 r) = L := ⟨_, rfl⟩
  obtain ⟨L', hL'⟩ : ∃ L' : List (Nat × AObj), ([(1000000, .box (runC 1000000 m inp (.own 999999 (r.length + 1)) w)), (1000001, .map .string m.globs.length (gmap m w.globs)), (999999, .vec 75 1 (r.length + 1) fun i => [.ptr (fid 1000000 i) 0]),
        (fid 1000000 r.length, .box (frC s (.own 999998 (s.vals.length + 1)))), (999998, .row 29 1 (s.vals.length + 1) (valsR (s.vals ++ [v])))] ++ fam 1000000 r) = L' := ⟨_, rfl⟩
  rw [hL, hL']
  have hH : hof L = hadd 1000000 (.box (runC 1000000 m inp (.own 1000002 (r.length + 2)) w)) (hadd 1000001 (.map .string m.globs.length (gmap m w.globs)) (hadd 1000002 (.vec 75 1 (r.length + 2) (ptrR 1000000 (r.length + 2)))
      (hadd 1000003 (.box (frC top (.own 1000004 top.vals.length))) (hadd 1000004 (.row 29 1 top.vals.length (valsR top.vals)) (hadd (fid 1000000 r.length) (.box (frC s (.own (vid 1000000 r.length) s.vals.length)))
      (hadd (vid 1000000 r.length) (.row 29 1 s.vals.length (valsR s.vals)) (hof (fam 1000000 r)))))))) := by rw [← hL]; rfl
  rw [hH]
  have hw1 : IntKind.i64.wrap ((r.length : Int) + 2 - 1) = (r.length : Int) + 1 := by rw [wrap_in (by omega)]; omega
  have hw2 : IntKind.i64.wrap (r.length : Int) = r.length := wrap_in (by omega)
  have hw3 : ((r.length : Int) + 1).toNat = r.length + 1 := by omega
  have hw4 : max ((r.length : Int) + 1) 0 = (r.length : Int) + 1 := by omega
  have hw5 : ¬ ((r.length : Int) + 1 = 0) := by omega
  have hp : ptrR 1000000 (r.length + 2) r.length = [.ptr (fid 1000000 r.length) 0] := by simp [ptrR]
  simp [c___eval_run__back, r___eval_run__back, runC, frC, hw1, hw2, hw3, hw5, hp, hdel_fam]
  refine ⟨by omega, by omega, by omega, .id 42000000012, ?_, ?_⟩
  · rw [(hdel_fam2 (b := 1000000) (l := r) (Nat.le_refl _)).2, ← hL, ← hL', HLe_append]
    refine ⟨?_, HLe_fam (fun k hk => gE_fam (by decide) hk) fun i o hm => ?_⟩
    · have hg3 := fun k (hk : k < r.length) => (gE_fam (A := LRun 1000000 m inp w top (s :: r) ++ LF (fid 1000000 r.length) (vid 1000000 r.length) s) (s := .id 42000000012) (b := 1000000) (by decide) hk).1
      obtain ⟨g, hg⟩ : ∃ g, gE (LRun 1000000 m inp w top (s :: r) ++ LF (fid 1000000 r.length) (vid 1000000 r.length) s ++ fam 1000000 r) (.id 42000000012) = g := ⟨_, rfl⟩
      have e0 : g 1000000 = .id 1000000 := by rw [← hg]; simp [gE, LRun]
      have e1 : g 1000001 = .id 1000001 := by rw [← hg]; simp [gE, LRun]
      have e2 : g 999998 = .id 42 := by rw [← hg]; simp [gE]
      have e3 : g (fid 1000000 r.length) = .id (fid 1000000 r.length) := by rw [← hg]; simp [gE, LF]
      have e5 : g 999999 = .id 12 := by rw [← hg]; simp [gE]
      rw [hg] at hg3 ⊢
      simp [e0, e1, e2, e3, e5, frC, runC]
      refine ⟨fun i hi => ?_, fun i hi => valsR_snoc _ _ i hi⟩
      unfold ptrR
      rw [if_neg (by omega)]
      by_cases h : i = r.length
      · subst h
        simp [e3]
      · simp [hg3 i (by omega)]
    · obtain ⟨k, hk, he⟩ := fam_mem hm
      have hi : 1000100 ≤ i ∧ i ≠ fid 1000000 r.length := by unfold fid vid at *; omega
      simp only [hget_add]
      repeat rw [if_neg (by omega)]
      exact hof_fam hm
  · refine srcApart_gE (fun i o hm => ?_) (by decide) (by decide) (by decide)
    rw [← hL] at hm
    rcases List.mem_append.1 hm with h | h
    · simp [LRun, LF] at h
      unfold fid vid at h
      omega
    · obtain ⟨k, hk, he⟩ := fam_mem h
      unfold fid vid at he
      omega

end Go.Proofs.Ytpfokkfomgmibaa
