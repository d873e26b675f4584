/- Contracts by the evaluator: layer 7, a block's end. -/
import Derived.Test.YtpfokkfomgmibaaS6
namespace Go.Proofs.Ytpfokkfomgmibaa
open Go.RowKit

/-- Where a call's objects are: from number c on. -/
def tauC (c n : Nat) : Nat → Nat := fun i => if i = 999999 then n else i - 1000000 + c
theorem tauC_fid {c n d k : Nat} : tau2 d (tauC c n) (fid 1000000 k) = fid c k ∧ tau2 d (tauC c n) (vid 1000000 k) = vid c k := by
  unfold tau2 tauC fid vid
  constructor
  · rw [if_neg (by omega), if_neg (by omega)]; omega
  · rw [if_neg (by omega), if_neg (by omega)]; omega
theorem tauC_big {c n d i : Nat} (h : 1000000 ≤ i) : tau2 d (tauC c n) i = i - 1000000 + c := by
  unfold tau2 tauC
  rw [if_neg (by omega), if_neg (by omega)]

theorem tau_n {c n d : Nat} : tau2 d (tauC c n) 999999 = n := rfl
theorem tau_n2 {c n d : Nat} : tau2 d (tauC c n) 999998 = d + 500000 := rfl
theorem tau_0 {c n d : Nat} : tau2 d (tauC c n) 1000000 = c := by rw [tauC_big (by decide)]; omega
theorem tau_1 {c n d : Nat} : tau2 d (tauC c n) 1000001 = c + 1 := by rw [tauC_big (by decide)]; omega
theorem tau_2 {c n d : Nat} : tau2 d (tauC c n) 1000002 = c + 2 := by rw [tauC_big (by decide)]; omega
theorem tau_3 {c n d : Nat} : tau2 d (tauC c n) 1000003 = c + 3 := by rw [tauC_big (by decide)]; omega
theorem tau_4 {c n d : Nat} : tau2 d (tauC c n) 1000004 = c + 4 := by rw [tauC_big (by decide)]; omega
theorem tau_5 {c n d : Nat} : tau2 d (tauC c n) 1000005 = c + 5 := by rw [tauC_big (by decide)]; omega
theorem tau_6 {c n d : Nat} : tau2 d (tauC c n) 1000006 = c + 6 := by rw [tauC_big (by decide)]; omega

theorem HLe_run {M : Rws} {g : Nat → Src} {H : Heap} {b c : Nat} {m : Module} {inp : ByteArray} {w : Wd} {top : Fr} {lo : List Fr} (e0 : g b = .id c) (e1 : g (b + 1) = .id (c + 1)) (e2 : g (b + 2) = .id (c + 2)) (e3 : g (b + 3) = .id (c + 3)) (e4 : g (b + 4) = .id (c + 4))
    (hf : ∀ k, k < lo.length → g (fid b k) = .id (fid c k))
    (h0 : hget H c = some (.box (runC c m inp (.own (c + 2) (lo.length + 1)) w))) (h1 : hget H (c + 1) = some (.map .string m.globs.length (gmap m w.globs))) (h2 : hget H (c + 2) = some (.vec 75 1 (lo.length + 1) (ptrR c (lo.length + 1))))
    (h3 : hget H (c + 3) = some (.box (frC top (.own (c + 4) top.vals.length)))) (h4 : hget H (c + 4) = some (.row 29 1 top.vals.length (valsR top.vals))) : HLe M g H (LRun b m inp w top lo) := by
  simp only [LRun, HLe_cons, e0, e1, e2, e3, e4, h0, h1, h2, h3, h4]
  exact ⟨⟨.inl rfl, by simp [runC, e1, e2]⟩, ⟨rfl, rfl, fun _ _ => rfl⟩, ⟨rfl, rfl, rfl, fun i hi => ptr_le e3 (fun k hk => hf k (by omega)) i hi⟩, ⟨.inl rfl, by simp [frC, e4]⟩, ⟨rfl, rfl, rfl, fun _ _ => rfl⟩, trivial⟩

theorem gOf_in {τ : Nat → Nat} {L : List (Nat × AObj)} {i : Nat} (h : L.any (fun p => p.1 == i) = true) : gOf τ L i = .id (τ i) := by
  unfold gOf
  rw [if_pos h]

/-- The objects that a call is handed are there; B: those beside the run's. -/
theorem HLe_call {H : Heap} {c n d : Nat} {m : Module} {inp : ByteArray} {w : Wd} {top : Fr} {lo : List Fr} {B : List (Nat × AObj)}
    (h0 : hget H c = some (.box (runC c m inp (.own (c + 2) (lo.length + 1)) w))) (h1 : hget H (c + 1) = some (.map .string m.globs.length (gmap m w.globs))) (h2 : hget H (c + 2) = some (.vec 75 1 (lo.length + 1) (ptrR c (lo.length + 1))))
    (h3 : hget H (c + 3) = some (.box (frC top (.own (c + 4) top.vals.length)))) (h4 : hget H (c + 4) = some (.row 29 1 top.vals.length (valsR top.vals)))
    (hfam : ∀ i o, (i, o) ∈ fam c lo → hget H i = some o) (hB : HLe noR (gOf (tau2 d (tauC c n)) (LRun 1000000 m inp w top lo ++ B ++ fam 1000000 lo)) H B) :
    HLe noR (gOf (tau2 d (tauC c n)) (LRun 1000000 m inp w top lo ++ B ++ fam 1000000 lo)) H (LRun 1000000 m inp w top lo ++ B ++ fam 1000000 lo) := by
  have hf := fun k (hk : k < lo.length) => gOf_fam (τ := tau2 d (tauC c n)) (A := LRun 1000000 m inp w top lo ++ B) (b := 1000000) hk
  have e0 : gOf (tau2 d (tauC c n)) (LRun 1000000 m inp w top lo ++ B ++ fam 1000000 lo) 1000000 = .id c := by rw [gOf_in (by simp [LRun]), tauC_big (by decide)]; simp
  have e1 : gOf (tau2 d (tauC c n)) (LRun 1000000 m inp w top lo ++ B ++ fam 1000000 lo) 1000001 = .id (c + 1) := by rw [gOf_in (by simp [LRun]), tauC_big (by decide)]; simp [Nat.add_comm]
  have e2 : gOf (tau2 d (tauC c n)) (LRun 1000000 m inp w top lo ++ B ++ fam 1000000 lo) 1000002 = .id (c + 2) := by rw [gOf_in (by simp [LRun]), tauC_big (by decide)]; simp [Nat.add_comm]
  have e3 : gOf (tau2 d (tauC c n)) (LRun 1000000 m inp w top lo ++ B ++ fam 1000000 lo) 1000003 = .id (c + 3) := by rw [gOf_in (by simp [LRun]), tauC_big (by decide)]; simp [Nat.add_comm]
  have e4 : gOf (tau2 d (tauC c n)) (LRun 1000000 m inp w top lo ++ B ++ fam 1000000 lo) 1000004 = .id (c + 4) := by rw [gOf_in (by simp [LRun]), tauC_big (by decide)]; simp [Nat.add_comm]
  refine HLe_append.2 ⟨HLe_append.2 ⟨HLe_run e0 e1 e2 e3 e4 (fun k hk => ?_) h0 h1 h2 h3 h4, hB⟩, HLe_fam (fun k hk => ?_) hfam⟩
  · rw [(hf k hk).1, tauC_fid.1]
  · rw [(hf k hk).1, (hf k hk).2, tauC_fid.1, tauC_fid.2]
    exact ⟨rfl, rfl⟩

theorem srcApart_call {c n d : Nat} {L : List (Nat × AObj)} (hL : ∀ i o, (i, o) ∈ L → 1000000 ≤ i) : srcApart (gOf (tau2 d (tauC c n)) L) L :=
  srcApart_gOf fun i j o o' hi hj h => by
    have h1 := hL i o hi
    have h2 := hL j o' hj
    rw [tauC_big h1, tauC_big h2] at h
    omega

theorem hput_call {c n d : Nat} {A A' : List (Nat × AObj)} {H : Heap} {lo : List Fr} (hfam : ∀ i o, (i, o) ∈ fam c lo → hget H i = some o) (hA : ∀ i o, (i, o) ∈ A → 1000000 ≤ i ∧ ∀ k, k < lo.length → i ≠ fid 1000000 k ∧ i ≠ vid 1000000 k) :
    hput (tau2 d (tauC c n)) (A ++ fam 1000000 lo) (A' ++ fam 1000000 lo) H = hput (tau2 d (tauC c n)) A A' H := by
  refine hput_frame (fun i o hm => hfam _ _ (fam_ren (fun k _ => tauC_fid) i o hm)) (fun i o j o' hi hj he => ?_)
  obtain ⟨h1, h2⟩ := hA i o hi
  obtain ⟨k, hk, h3⟩ := fam_mem hj
  have h4 : 1000000 ≤ j := by unfold fid vid at h3; omega
  rw [tauC_big h1, tauC_big h4] at he
  have : i = j := by omega
  have := h2 k hk
  omega

end Go.Proofs.Ytpfokkfomgmibaa
