/- Contracts by the evaluator: layer 7, a call is opened. -/
import Derived.Test.YtpfokkfomgmibaaS3
import Derived.Test.YtpfokkfomgmibaaSB
namespace Go.Proofs.Ytpfokkfomgmibaa
open Go.RowKit

/-- A run's cells; c: the open calls. -/
def runC (b : Nat) (m : Module) (inp : ByteArray) (c : AV) (w : Wd) : List AV :=
  [.d (funcsD m.funcs), .d (globsD m.globs), .d (.str inp), .mp (b + 1), c, .d (.bool w.ended), .d (.u64 w.code), .d (.str w.out), .int w.read, .int w.steps, .int w.deep]
/-- What the globals' map holds. -/
def gmap (m : Module) (g : List Int) : Value → Option Value
  | .string s => if hasG m.globs s = true then some (.int .u64 (valAt g (globI m s))) else none
  | _ => none
def ptrR (b n : Nat) : Nat → List AV := fun i => [.ptr (if i + 1 = n then b + 3 else fid b i) 0]
def ptrN (b n : Nat) : Nat → List AV := fun i => if i < n then ptrR b n i else [.ptr 999999 0]

theorem HLe_append {M : Rws} {g : Nat → Src} {H : Heap} : ∀ {A B : List (Nat × AObj)}, HLe M g H (A ++ B) ↔ HLe M g H A ∧ HLe M g H B
  | [], B => by simp [HLe]
  | (i, o) :: A, B => by simp only [List.cons_append, HLe_cons, HLe_append (A := A), and_assoc]
theorem ptr_le {M : Rws} {g : Nat → Src} {b c n : Nat} (h3 : g (b + 3) = .id (c + 3)) (hf : ∀ k, k + 1 < n → g (fid b k) = .id (fid c k)) (i : Nat) (hi : i < n) : cellsLe M g (ptrR c n i) (ptrR b n i) := by
  unfold ptrR
  by_cases h : i + 1 = n
  · simp [h, h3]
  · simp [h, hf i (by omega)]
theorem hdel_fam {b i : Nat} {l : List Fr} (h : i < b + 100) : hdel (hof (fam b l)) i = hof (fam b l) := by
  funext k
  unfold hdel
  split
  · rename_i e
    subst e
    exact (hof_fam_none fun k _ => by unfold fid vid; omega).symm
  · rfl
theorem enterW_eq (n : Nat) (w : Wd) : enterW n w = { w with deep := if w.deep < n then n else w.deep } := by
  unfold enterW
  split <;> rfl

set_option maxRecDepth 10000 in
theorem call0_eff (m : Module) (inp name : ByteArray) (w : Wd) (f : Func) (hf : findF m name = some f) :
    AEff Try.prog 19 [.ptr 1000000 0, .d (.str name), .d (.lit (.slice none 0 0))]
      [(1000000, .box (runC 1000000 m inp (.d (.lit (.slice none 0 0))) w)), (1000001, .map .string m.globs.length (gmap m w.globs))] (.tup [])
      [(1000000, .box (runC 1000000 m inp (.own 999998 1) (enterW 1 w))), (1000001, .map .string m.globs.length (gmap m w.globs)), (999999, .box (frC ⟨f, 0, 0, []⟩ (.d (.lit (.slice none 0 0))))), (999998, .vec 75 1 1 fun _ => [.ptr 999999 0])] := by
  refine aeffG _ _ Try.func19 (by kernel_rfl) t___eval_run__call u___eval_run__call rfl rfl (by simp) (by simp [idsOk]) (fun _ => ?_)
  simp [c___eval_run__call, r___eval_run__call, runC, hof]
  refine call_plain (ds := [.agg (moduleC m), .str name]) _ (by simp) (by simp) (fun _ => by simp; rfl) (fun _ => efind_pure m name) ?_
  simp [efindR, hf]
  refine ⟨.id 22000000020, ?_, ?_⟩
  · simp [gE, frC, enterW_eq]
    refine DLe_int ?_
    by_cases h : w.deep = 0
    · rw [if_pos (by omega), if_pos h]; rfl
    · rw [if_neg (by omega), if_neg h]
  · simp [gE]


/-- The objects of a run: its box, the globals' map, the row of the open calls, the top one, the others. -/
def LRun (b : Nat) (m : Module) (inp : ByteArray) (w : Wd) (top : Fr) (lo : List Fr) : List (Nat × AObj) :=
  [(b, .box (runC b m inp (.own (b + 2) (lo.length + 1)) w)), (b + 1, .map .string m.globs.length (gmap m w.globs)), (b + 2, .vec 75 1 (lo.length + 1) (ptrR b (lo.length + 1))),
    (b + 3, .box (frC top (.own (b + 4) top.vals.length))), (b + 4, .row 29 1 top.vals.length (valsR top.vals))]

set_option maxRecDepth 10000 in
set_option maxHeartbeats 1000000 in
theorem call_eff (m : Module) (inp name : ByteArray) (w : Wd) (f : Func) (top : Fr) (lo : List Fr) (args : List Int) (hlo : lo.length ≤ 64) (hf : findF m name = some f) :
    AEff Try.prog 19 [.ptr 1000000 0, .d (.str name), .own 1000005 args.length]
      ((LRun 1000000 m inp w top lo ++ [(1000005, .row 29 1 args.length (valsR args))]) ++ fam 1000000 lo) (.tup [])
      ([(1000000, .box (runC 1000000 m inp (.own 999998 (lo.length + 2)) (enterW (lo.length + 2) w))), (1000001, .map .string m.globs.length (gmap m w.globs)), (999998, .vec 75 1 (lo.length + 2) (ptrN 1000000 (lo.length + 1))),
        (1000003, .box (frC top (.own 1000004 top.vals.length))), (1000004, .row 29 1 top.vals.length (valsR top.vals)), (999999, .box (frC ⟨f, 0, 0, args⟩ (.own 1000005 args.length))), (1000005, .row 29 1 args.length (valsR args))] ++ fam 1000000 lo) := by
  refine aeffG _ _ Try.func19 (by kernel_rfl) t___eval_run__call u___eval_run__call rfl rfl ?_ ?_ (fun _ => ?_)
  · rw [List.all_append, fam_all (by omega)]
    simp [LRun]
  · rw [idsOk_append]
    exact ⟨by simp [idsOk, LRun], idsOk_fam fun k hk => by
      obtain ⟨h1, h2⟩ := any_fam (b := 1000000) hk
      exact ⟨by rw [List.any_append, h1, Bool.or_true], by rw [List.any_append, h2, Bool.or_true]⟩⟩
  obtain ⟨L, hL⟩ : ∃ L, (LRun 1000000 m inp w top lo ++ [(1000005, .row 29 1 args.length (valsR args))]) ++ fam 1000000 lo = L := ⟨_, rfl⟩
  obtain ⟨L', hL'⟩ : ∃ L' : List (Nat × AObj), ([(1000000, .box (runC 1000000 m inp (.own 999998 (lo.length + 2)) (enterW (lo.length + 2) w))), (1000001, .map .string m.globs.length (gmap m w.globs)), (999998, .vec 75 1 (lo.length + 2) (ptrN 1000000 (lo.length + 1))),
        (1000003, .box (frC top (.own 1000004 top.vals.length))), (1000004, .row 29 1 top.vals.length (valsR top.vals)), (999999, .box (frC ⟨f, 0, 0, args⟩ (.own 1000005 args.length))), (1000005, .row 29 1 args.length (valsR args))] ++ fam 1000000 lo) = L' := ⟨_, rfl⟩
  rw [hL, hL']
  have hH : hof L = hadd 1000000 (.box (runC 1000000 m inp (.own 1000002 (lo.length + 1)) w)) (hadd 1000001 (.map .string m.globs.length (gmap m w.globs)) (hadd 1000002 (.vec 75 1 (lo.length + 1) (ptrR 1000000 (lo.length + 1)))
      (hadd 1000003 (.box (frC top (.own 1000004 top.vals.length))) (hadd 1000004 (.row 29 1 top.vals.length (valsR top.vals)) (hadd 1000005 (.row 29 1 args.length (valsR args)) (hof (fam 1000000 lo))))))) := by rw [← hL]; rfl
  rw [hH]
  simp [c___eval_run__call, r___eval_run__call, runC]
  refine call_plain (ds := [.agg (moduleC m), .str name]) _ (by simp) (by simp) (fun _ => by simp; rfl) (fun _ => efind_pure m name) ?_
  simp [efindR, hf, hdel_fam]
  refine ⟨by omega, .id 22000000020, ?_, ?_⟩
  · rw [← hL, ← hL', HLe_append]
    refine ⟨?_, HLe_fam (fun k hk => gE_fam (by decide) hk) fun i o hm => ?_⟩
    · have hg3 := fun k (hk : k < lo.length) => (gE_fam (A := LRun 1000000 m inp w top lo ++ [(1000005, .row 29 1 args.length (valsR args))]) (s := .id 22000000020) (b := 1000000) (by decide) hk).1
      obtain ⟨g, hg⟩ : ∃ g, gE (LRun 1000000 m inp w top lo ++ [(1000005, .row 29 1 args.length (valsR args))] ++ fam 1000000 lo) (.id 22000000020) = g := ⟨_, rfl⟩
      have e0 : g 1000000 = .id 1000000 := by rw [← hg]; simp [gE, LRun]
      have e1 : g 1000001 = .id 1000001 := by rw [← hg]; simp [gE, LRun]
      have e2 : g 999998 = .id 22 := by rw [← hg]; simp [gE]
      have e3 : g 1000003 = .id 1000003 := by rw [← hg]; simp [gE, LRun]
      have e4 : g 1000004 = .id 1000004 := by rw [← hg]; simp [gE, LRun]
      have e5 : g 999999 = .id 20 := by rw [← hg]; simp [gE]
      have e6 : g 1000005 = .id 1000005 := by rw [← hg]; simp [gE, LRun]
      rw [hg] at hg3 ⊢
      simp [e0, e1, e2, e3, e4, e5, e6, frC, runC, enterW_eq]
      refine ⟨?_, ?_⟩
      · refine DLe_int ?_
        by_cases h : w.deep < lo.length + 2
        · rw [if_pos (by omega), if_pos h]; omega
        · rw [if_neg (by omega), if_neg h]
      · intro i hi
        unfold ptrN
        by_cases h : i < lo.length + 1
        · rw [if_pos h, if_pos h]
          exact ptr_le e3 (fun k hk => hg3 k (by omega)) i h
        · rw [if_neg h, if_neg h]
          simp [e5]
    · obtain ⟨k, hk, he⟩ := fam_mem hm
      have hi : 1000100 ≤ i := by unfold fid vid at he; omega
      simp only [hget_add]
      repeat rw [if_neg (by omega)]
      exact hof_fam hm
  · refine srcApart_gE (fun i o hm => ?_) (by decide) (by decide) (by decide)
    rw [← hL] at hm
    rcases List.mem_append.1 hm with h | h
    · simp [LRun] at h
      omega
    · obtain ⟨k, hk, he⟩ := fam_mem h
      unfold fid vid at he
      omega

end Go.Proofs.Ytpfokkfomgmibaa
