/- Contracts by the evaluator: layer 7, what an instruction gives. -/
import Derived.Test.YtpfokkfomgmibaaS5
namespace Go.Proofs.Ytpfokkfomgmibaa
open Go.RowKit

/-- The objects of a run are told anew: only the run's box and the globals' map have changed. -/
theorem run_end {m : Module} {inp : ByteArray} {w w' : Wd} {top : Fr} {lo : List Fr} {cs : List AV} {f : Value → Option Value} {H : Heap} {n : Nat}
    (h0 : hget H 1000000 = some (.box cs)) (h1 : hget H 1000001 = some (.map .string n f)) (h2 : hget H 1000002 = some (.vec 75 1 (lo.length + 1) (ptrR 1000000 (lo.length + 1))))
    (h3 : hget H 1000003 = some (.box (frC top (.own 1000004 top.vals.length)))) (h4 : hget H 1000004 = some (.row 29 1 top.vals.length (valsR top.vals))) (hfam : ∀ i o, (i, o) ∈ fam 1000000 lo → hget H i = some o)
    (hc : ∀ g : Nat → Src, g 1000001 = .id 1000001 → g 1000002 = .id 1000002 → cellsLe noR g cs (runC 1000000 m inp (.own 1000002 (lo.length + 1)) w')) (hn : n = m.globs.length) (hf : ∀ k, kdOk .string k = true → f k = gmap m w'.globs k) :
    EffEnd (LRun 1000000 m inp w top lo ++ fam 1000000 lo) (LRun 1000000 m inp w' top lo ++ fam 1000000 lo) H := by
  refine ⟨.none, ?_, ?_⟩
  · rw [HLe_append]
    refine ⟨?_, HLe_fam (fun k hk => gE_fam (by decide) hk) hfam⟩
    have hg3 := fun k (hk : k < lo.length) => (gE_fam (A := LRun 1000000 m inp w top lo) (s := .none) (b := 1000000) (by decide) hk).1
    obtain ⟨g, hg⟩ : ∃ g, gE (LRun 1000000 m inp w top lo ++ fam 1000000 lo) .none = g := ⟨_, rfl⟩
    have e0 : g 1000000 = .id 1000000 := by rw [← hg]; simp [gE, LRun]
    have e1 : g 1000001 = .id 1000001 := by rw [← hg]; simp [gE, LRun]
    have e2 : g 1000002 = .id 1000002 := by rw [← hg]; simp [gE, LRun]
    have e3 : g 1000003 = .id 1000003 := by rw [← hg]; simp [gE, LRun]
    have e4 : g 1000004 = .id 1000004 := by rw [← hg]; simp [gE, LRun]
    rw [hg] at hg3 ⊢
    simp only [LRun, HLe_cons, e0, e1, e2, e3, e4, h0, h1, h2, h3, h4]
    refine ⟨⟨.inl rfl, hc g e1 e2⟩, ⟨rfl, hn, hf⟩, ⟨rfl, rfl, rfl, fun i hi => ptr_le e3 (fun k hk => hg3 k (by omega)) i hi⟩, ⟨.inl rfl, by simp [frC, e4]⟩, ⟨rfl, rfl, rfl, fun _ _ => rfl⟩, trivial⟩
  · refine srcApart_inj fun i j k o o' hi hj h5 h6 => ?_
    have key : ∀ i, gE (LRun 1000000 m inp w top lo ++ fam 1000000 lo) .none i = .id k → i = k := by
      intro i h
      unfold gE at h
      split at h
      · cases h
      · split at h
        · cases h
        · split at h
          · injection h
          · cases h
    rw [key i h5, key j h6]

theorem hasG_of {m : Module} {s : ByteArray} (h : 0 ≤ globI m s) : hasG m.globs s = true := by
  have := findI_ge (fun g : Glob => decide (g.name = s)) m.globs
  unfold hasG
  rw [← this]
  exact decide_eq_true h
theorem wrap_u8 (n : Int) : IntKind.u8.wrap n = n % 256 := by
  unfold IntKind.wrap
  simp only [show IntKind.u8.signed = false from rfl, Bool.false_and, if_neg (by simp : ¬ false = true)]
  rfl
theorem globJ_at {m : Module} {s : ByteArray} (h : 0 ≤ globI m s) : ∃ k, ∃ hk : k < m.globs.length, globI m s = k ∧ m.globs[k].name = s := by
  rcases leadsG_eq m s with ⟨k, hk, e1, e2⟩ | ⟨e1, e2⟩
  · refine ⟨k, hk, e1, ?_⟩
    have := List.find?_some e2
    simpa using this
  · rw [show globI m s = -1 from e1] at h
    omega
theorem gmap_set {m : Module} {g : List Int} {s : ByteArray} {v : Int} {k : Value} (hk : kdOk .string k = true) (h0 : 0 ≤ globI m s) (h1 : globI m s < g.length) : mset (gmap m g) (.string s) (.int .u64 v) k = gmap m (g.set (globI m s).toNat v) k := by
  cases k with
  | string t =>
    obtain ⟨i, hi, e1, e2⟩ := globJ_at h0
    have hkq : keq (.string t) (.string s) = (t == s) := rfl
    unfold mset
    rw [hkq]
    by_cases hst : t = s
    · subst hst
      rw [if_pos ((ba_beq t t).2 rfl)]
      simp only [gmap, hasG_of h0, if_true, valAt, e1, Int.toNat_natCast]
      rw [List.getElem?_set_self (by omega)]
      rfl
    · rw [if_neg (fun h => hst ((ba_beq t s).1 h))]
      simp only [gmap]
      by_cases hh : hasG m.globs t = true
      · rw [if_pos hh, if_pos hh]
        have h2 : 0 ≤ globI m t := by
          have := findI_ge (fun g : Glob => decide (g.name = t)) m.globs
          have h3 : decide (0 ≤ globI m t) = true := by rw [show globI m t = findI (fun g : Glob => decide (g.name = t)) m.globs from rfl, this]; exact hh
          simpa using h3
        obtain ⟨j, hj, e3, e4⟩ := globJ_at h2
        have : i ≠ j := fun e => by subst e; exact hst (e4.symm.trans e2)
        simp only [valAt, e1, e3, Int.toNat_natCast]
        rw [List.getElem?_set_ne this]
      · rw [if_neg hh, if_neg hh]
  | _ => cases hk

/-- Bounds of values. -/
def u64In (v : Int) : Prop := 0 ≤ v ∧ v < 18446744073709551616

set_option maxRecDepth 10000 in
set_option maxHeartbeats 1000000 in
theorem egives_eff (m : Module) (inp : ByteArray) (w : Wd) (top : Fr) (lo : List Fr) (x : Inst) (hlo : lo.length ≤ 64) (hin : InstIn2 m x top.vals.length) (hv : ∀ v ∈ top.vals, u64In v) (hg : w.globs.length = m.globs.length) (hr : w.read ≤ 1000000) (ho : w.out.size ≤ 1000000) :
    AEff Try.prog 23 [.ptr 1000000 0, .ptr 1000003 0, .d (.agg (instC x))] (LRun 1000000 m inp w top lo ++ fam 1000000 lo) (.u64 (givesW m inp x top.vals w).2)
      (LRun 1000000 m inp (givesW m inp x top.vals w).1 top lo ++ fam 1000000 lo) := by
  refine aeffG _ _ Try.func23 (by kernel_rfl) t___eval_run__gives u___eval_run__gives rfl rfl ?_ ?_ (fun _ => ?_)
  · rw [List.all_append, fam_all (by omega)]
    simp [LRun]
  · rw [idsOk_append]
    exact ⟨by simp [idsOk, LRun], idsOk_fam fun k hk => by
      obtain ⟨h1, h2⟩ := any_fam (b := 1000000) hk
      exact ⟨by rw [List.any_append, h1, Bool.or_true], by rw [List.any_append, h2, Bool.or_true]⟩⟩
  have hfin : ∀ w' cs f n, (∀ g : Nat → Src, g 1000001 = .id 1000001 → g 1000002 = .id 1000002 → cellsLe noR g cs (runC 1000000 m inp (.own 1000002 (lo.length + 1)) w')) → n = m.globs.length → (∀ k, kdOk .string k = true → f k = gmap m w'.globs k) →
      EffEnd (LRun 1000000 m inp w top lo ++ fam 1000000 lo) (LRun 1000000 m inp w' top lo ++ fam 1000000 lo) (hadd 1000000 (.boxT none cs) (hadd 1000001 (.map .string n f) (hadd 1000002 (.vec 75 1 (lo.length + 1) (ptrR 1000000 (lo.length + 1)))
        (hadd 1000003 (.box (frC top (.own 1000004 top.vals.length))) (hadd 1000004 (.row 29 1 top.vals.length (valsR top.vals)) (hof (fam 1000000 lo))))))) := fun w' cs f n a7 a8 a9 => by
    refine run_end (cs := cs) (f := f) (n := n) (by simp [hget_add]) (by simp [hget_add]) (by simp [hget_add]) (by simp [hget_add]) (by simp [hget_add]) (fun i o hm => ?_) a7 a8 a9
    obtain ⟨k, hk, he⟩ := fam_mem hm
    have hi : 1000100 ≤ i := by unfold fid vid at he; omega
    simp only [hget_add]
    repeat rw [if_neg (by omega)]
    exact hof_fam hm
  obtain ⟨L, hL⟩ : ∃ L, (LRun 1000000 m inp w top lo ++ fam 1000000 lo) = L := ⟨_, rfl⟩
  obtain ⟨w', hw'⟩ : ∃ w', givesW m inp x top.vals w = w' := ⟨_, rfl⟩
  obtain ⟨L', hL'⟩ : ∃ L', (LRun 1000000 m inp w'.1 top lo ++ fam 1000000 lo) = L' := ⟨_, rfl⟩
  rw [hw', hL, hL']
  have hfin' := hfin w'.1
  rw [hL, hL'] at hfin'
  have hH : hof L = hadd 1000000 (.box (runC 1000000 m inp (.own 1000002 (lo.length + 1)) w)) (hadd 1000001 (.map .string m.globs.length (gmap m w.globs)) (hadd 1000002 (.vec 75 1 (lo.length + 1) (ptrR 1000000 (lo.length + 1)))
      (hadd 1000003 (.box (frC top (.own 1000004 top.vals.length))) (hadd 1000004 (.row 29 1 top.vals.length (valsR top.vals)) (hof (fam 1000000 lo)))))) := by rw [← hL]; rfl
  rw [hH]
  have hw1 : IntKind.i64.wrap ((w.read : Int) + 1) = (w.read : Int) + 1 := wrap_succ (by omega)
  have hw2 : IntKind.i64.wrap (w.read : Int) = w.read := wrap_in (by omega)
  simp [c___eval_run__gives, r___eval_run__gives, runC, frC, hw1, hw2]
  have hsame : ∀ k, kdOk .string k = true → gmap m w.globs k = gmap m w.globs k := fun _ _ => rfl
  refine ⟨fun h1 => ?_, fun h1 => ⟨fun h12 => ?_, fun h12 => ⟨fun h13 => ?_, fun h13 => ⟨fun h15 => ?_, fun h15 => ⟨fun h16 => ?_, fun h16 => ?_⟩⟩⟩⟩⟩
  · have e : w' = (w, (x.k : Int)) := by rw [← hw']; simp [givesW, h1]
    subst e
    exact ⟨DLe.refl _, hfin' _ _ _ (fun g g1 g2 => by simp [runC, g1, g2]) rfl hsame⟩
  · obtain ⟨g0, g1⟩ := hin.2.1 (.inl h12)
    have e : w' = (w, valAt w.globs (globI m x.name)) := by rw [← hw']; simp [givesW, h12]
    subst e
    have hh : hasG m.globs x.name = true := hasG_of g0
    refine ⟨DLe.of_eq ?_, hfin' _ _ _ (fun g g1 g2 => by simp [runC, g1, g2]) rfl hsame⟩
    simp [gmap, hh]
  · obtain ⟨g0, g1⟩ := hin.2.1 (.inr h13)
    have hu := hin.1 x.a (by simp [uses, h13])
    have hh : hasG m.globs x.name = true := hasG_of g0
    have e : w' = ({ w with globs := w.globs.set (globI m x.name).toNat (valAt top.vals x.a) }, 0) := by rw [← hw']; simp [givesW, h13]
    subst e
    refine ⟨hu, DLe.refl _, hfin' _ _ _ (fun g g1 g2 => by simp [runC, g1, g2]) ?_ ?_⟩
    · simp [gmap, hh]
    · intro k hk
      exact gmap_set hk g0 (by omega)
  · refine ⟨fun h => ?_, fun h => ⟨by omega, ?_, ?_⟩⟩
    · have e : w' = (w, 256) := by rw [← hw']; simp [givesW, h15, h]
      subst e
      exact ⟨DLe.refl _, hfin' _ _ _ (fun g g1 g2 => by simp [runC, g1, g2]) rfl hsame⟩
    · have h' : ¬ inp.size ≤ w.read := by omega
      have e : w' = ({ w with read := w.read + 1 }, wrapU ((inp[w.read]?).getD 0).toNat) := by rw [← hw']; simp [givesW, h15, h']
      subst e
      exact DLe.refl _
    · have h' : ¬ inp.size ≤ w.read := by omega
      have e : w' = ({ w with read := w.read + 1 }, wrapU ((inp[w.read]?).getD 0).toNat) := by rw [← hw']; simp [givesW, h15, h']
      subst e
      exact hfin' _ _ _ (fun g g1 g2 => by simp [runC, g1, g2]) rfl hsame
  · have hu := hin.1 x.a (by simp [uses, h16])
    have e : w' = ({ w with out := w.out ++ byteS (valAt top.vals x.a) }, 0) := by rw [← hw']; simp [givesW, h16]
    subst e
    have hb : pushB [IntKind.u8.wrap (top.vals[x.a.toNat]?.getD 0)] = byteS (valAt top.vals x.a) := by
      unfold byteS valAt
      have h0 : 0 ≤ top.vals[x.a.toNat]?.getD 0 := by
        cases hx : top.vals[x.a.toNat]? with
        | none => simp
        | some v => exact (hv v (List.mem_of_getElem? hx)).1
      congr 2
      rw [wrap_u8, wrap_u8]
      generalize top.vals[x.a.toNat]?.getD 0 = v at h0
      rw [Int.tmod_eq_emod_of_nonneg h0]
      omega
    rw [hb]
    refine ⟨hu, ?_, DLe.refl _, hfin' _ _ _ (fun g g1 g2 => by simp [runC, g1, g2]) rfl hsame⟩
    rw [byteS_size]
    omega
  · have ho2 : 2 ≤ x.op ∧ x.op ≤ 11 := by
      obtain ⟨_, _, a1, a2, a3⟩ := hin
      omega
    have hu := hin.1 x.a (by simp [uses, ho2])
    have hu' := hin.1 x.b (by simp [uses, ho2])
    have e : w' = (w, reckI x.op (valAt top.vals x.a) (valAt top.vals x.b)) := by rw [← hw']; simp [givesW, h1, h12, h13, h15, h16]
    subst e
    have hval : ∀ i, u64In (valAt top.vals i) := fun i => by
      unfold valAt
      cases hx : top.vals[i.toNat]? with
      | none => exact ⟨by simp, by simp⟩
      | some v => exact hv v (List.mem_of_getElem? hx)
    refine ⟨hu, hu', ?_⟩
    refine call_plain (ds := [.int x.op, .u64 (valAt top.vals x.a), .u64 (valAt top.vals x.b)]) _ (by simp) (by simp) (fun _ => by simp [valAt]) (fun _ => ereckon_pure x.op _ _ (hval _) (hval _).1) ?_
    simp
    exact hfin' _ _ _ (fun g g1 g2 => by simp [runC, g1, g2]) rfl hsame

end Go.Proofs.Ytpfokkfomgmibaa
