/- Contracts by the evaluator: the document's layer 5, is a module right? -/
import Derived.Test.YtghlfjpmpalpdaaE12
import Derived.Test.YtghlfjpmpalpdaaLaw5b
namespace Go.Proofs.Ytghlfjpmpalpdaa
open Go.RowKit

def fnT (m : Module) (k : Nat) : List ByteArray := (fnames m).take k
def gnT (m : Module) (k : Nat) : List ByteArray := fnames m ++ (gnames m).take k
@[simp] theorem fnT_zero (m : Module) : fnT m 0 = [] := rfl
theorem fnT_succ {m : Module} {k : Nat} (hk : k < m.funcs.length) : fnT m (k + 1) = fnT m k ++ [m.funcs[k].name] := by
  unfold fnT fnames
  rw [List.take_succ_eq_append_getElem (by simpa using hk)]
  simp
theorem fnT_all {m : Module} {k : Nat} (hk : m.funcs.length ≤ k) : fnT m k = gnT m 0 := by
  unfold fnT gnT
  rw [List.take_of_length_le (by simpa [fnames] using hk)]
  simp
theorem fnT_length (m : Module) (k : Nat) : (fnT m k).length ≤ k := by
  unfold fnT
  simp
  omega
theorem gnT_succ {m : Module} {k : Nat} (hk : k < m.globs.length) : gnT m (k + 1) = gnT m k ++ [m.globs[k].name] := by
  unfold gnT gnames
  rw [List.take_succ_eq_append_getElem (by simpa using hk)]
  simp
theorem gnT_all {m : Module} {k : Nat} (hk : m.globs.length ≤ k) : gnT m k = namesM m := by
  unfold gnT namesM
  rw [List.take_of_length_le (by simpa [gnames] using hk)]
theorem gnT_length (m : Module) (k : Nat) : (gnT m k).length ≤ m.funcs.length + k := by
  unfold gnT fnames
  simp
  omega

set_option maxRecDepth 10000 in
theorem refNames_pure (m : Module) (hf : m.funcs.length ≤ 16) (hg : m.globs.length ≤ 16) : APure Try.prog 50 [.agg (moduleC m)] (strsD (namesM m)) := by
  refine apureG _ _ Try.func50 (by kernel_rfl) t_marlineref05_names u_marlineref05_names rfl rfl (fun _ => ?_)
  simp [c_marlineref05_names, r_marlineref05_names]
  refine loop_s (κ := Nat) (fun k => k ≤ m.funcs.length) (fun k => m.funcs.length - k) (fun k => [(sl 4, .int k), (sl 3, .own 0 (fnT m k).length)]) (fun k => [(0, .row 9 1 (fnT m k).length fun i => strC ((fnT m k)[i]?.getD ⟨#[]⟩))]) 1 0 (srcs [(0, .nil)]) (by simp) (by simp) ?_
  rintro k hk
  simp
  refine ⟨fun hlt => ⟨hlt, ?_⟩, fun hge => ?_⟩
  · have hlm := fnT_length m k
    refine ⟨by omega, k + 1, by omega, by omega, srcs [(0, .id 14)], ?_⟩
    simp [SLeK, fnT_succ hlt, getD_some hlt]
    exact ⟨DLe_int (wrap_succ (by omega)), fun i hi => appRow_str hi⟩
  rw [fnT_all hge]
  refine loop_s (κ := Nat) (fun k => k ≤ m.globs.length) (fun k => m.globs.length - k) (fun k => [(sl 5, .int k), (sl 3, .own 0 (gnT m k).length)]) (fun k => [(0, .row 9 1 (gnT m k).length fun i => strC ((gnT m k)[i]?.getD ⟨#[]⟩))]) 1 0 (srcs [(0, .id 0)]) (by simp) (by simp) ?_
  rintro j hj
  simp
  refine ⟨fun hlt => ⟨hlt, ?_⟩, fun hge => ?_⟩
  · have hlm := gnT_length m j
    refine ⟨by omega, j + 1, by omega, by omega, srcs [(0, .id 14)], ?_⟩
    simp [SLeK, gnT_succ hlt, getD_some hlt]
    exact ⟨DLe_int (wrap_succ (by omega)), fun i hi => appRow_str hi⟩
  · rw [gnT_all hge]
    exact DLe.refl _

/-- The instructions seen so far. -/
def InvS (m : Module) (l : List Inst) (o : Bool) : Prop := o = l.any (oddI m) ∧ l.any (missI m) = false
theorem InvS.start (m : Module) : InvS m [] false := ⟨rfl, rfl⟩
theorem InvS.snoc {m : Module} {l : List Inst} {o : Bool} {i : Inst} (h : InvS m l o) (hm : missI m i = false) : InvS m (l ++ [i]) (o || oddI m i) := by
  obtain ⟨h1, h2⟩ := h
  refine ⟨?_, ?_⟩
  · rw [List.any_append, ← h1]; simp
  · rw [List.any_append, h2]; simp [hm]
theorem InvS.all {m : Module} {o : Bool} (h : InvS m (insM m) o) : refsE m = if o = true then 1 else 0 := by
  obtain ⟨h1, h2⟩ := h
  unfold refsE
  rw [h2, ← h1]
  simp
theorem refsE_bad {m : Module} {i : Inst} (hi : i ∈ insM m) (h : missI m i = true) : refsE m = 8 := by
  unfold refsE
  rw [if_pos (List.any_eq_true.2 ⟨i, hi, h⟩)]
theorem findI_at {fs : List Func} {s : ByteArray} (h : 0 ≤ findI (fun f => decide (f.name = s)) fs) : ∃ k, ∃ hk : k < fs.length, findI (fun f => decide (f.name = s)) fs = k ∧ fs[k].name = s := by
  unfold findI at h ⊢
  split at h
  · rename_i i hi
    obtain ⟨hi, hp, _⟩ := List.findIdx?_eq_some_iff_getElem.1 hi
    exact ⟨i, hi, rfl, by simpa using hp⟩
  · omega

theorem miss_call {m : Module} {x : Inst} (h14 : x.op = 14) (h : findI (fun f => decide (f.name = x.name)) m.funcs < 0) : missI m x = true := by
  have : lookP m.funcs x.name = none := lookP_none.2 fun f hf => by simpa using findI_neg.1 h f hf
  unfold missI
  simp [h14, this]
theorem miss_glob {m : Module} {x : Inst} (h12 : x.op = 12 ∨ x.op = 13) (h : findI (fun f => decide (f.name = x.name)) m.globs < 0) : missI m x = true := by
  have : hasG m.globs x.name = false := by
    rw [← Bool.not_eq_true, hasG_iff]
    rintro ⟨g, hg, e⟩
    have := findI_neg.1 h g hg
    simp [e] at this
  unfold missI
  rcases h12 with h | h <;> simp [h, this]
theorem there_call {m : Module} {x : Inst} (h14 : x.op = 14) (h : 0 ≤ findI (fun f => decide (f.name = x.name)) m.funcs) : missI m x = false := by
  obtain ⟨a, ha, hae, hname⟩ := findI_at h
  obtain ⟨p, hp⟩ := lookP_some (List.getElem_mem ha) hname
  exact missI_mk (fun _ => ⟨p, hp⟩) (fun h => by omega)
theorem there_glob {m : Module} {x : Inst} (h12 : x.op = 12 ∨ x.op = 13) (h : 0 ≤ findI (fun f => decide (f.name = x.name)) m.globs) : missI m x = false := by
  refine missI_mk (fun h => by omega) (fun _ => hasG_iff.2 ?_)
  have h' : ¬ findI (fun f : Glob => decide (f.name = x.name)) m.globs < 0 := by omega
  rw [findI_neg] at h'
  simpa using h'
theorem odd_call {m : Module} {x : Inst} (hn : (m.funcs.map (·.name)).Nodup) (h14 : x.op = 14) {a : Nat} (ha : a < m.funcs.length) (hname : m.funcs[a].name = x.name) : oddI m x = !decide (m.funcs[a].params = x.args.length) := by
  have hq : lookP m.funcs x.name = some m.funcs[a].params := by rw [← hname]; exact lookP_uniq hn (List.getElem_mem ha)
  unfold oddI
  rw [hq]
  simp [h14, bne]
  rfl
theorem odd_no {m : Module} {x : Inst} (h14 : x.op ≠ 14) : oddI m x = false := by
  unfold oddI
  simp [h14]

set_option maxRecDepth 10000 in
set_option maxHeartbeats 1000000 in
theorem refCheck_pure (m : Module) (hi : ∀ f ∈ m.funcs, ∀ b ∈ f.blocks, ∀ i ∈ b.ins, i.args.length ≤ 17592186044416) : APure Try.prog 29 [.agg (moduleC m)] (.int (checkE m)) := by
  refine apureG _ _ Try.func29 (by kernel_rfl) t_marlineref05_Check u_marlineref05_Check rfl rfl (fun _ => ?_)
  simp [c_marlineref05_Check, r_marlineref05_Check]
  refine ⟨fun h => DLe_int ?_, fun hf hg => ?_⟩
  · unfold checkE
    rw [if_pos (by omega)]
  refine loop_s (κ := Nat) (fun k => k ≤ m.funcs.length ∧ ∀ j (h : j < m.funcs.length), j < k → funcOk m.funcs[j] = true) (fun k => m.funcs.length - k) (fun k => [(sl 3, .int k)]) (fun _ => []) 0 0 (srcs []) (by simp) (by simp) ?_
  rintro k ⟨hk, hall⟩
  simp
  refine ⟨fun hlt => ⟨hlt, ?_⟩, fun hge => ?_⟩
  · rw [getD_some hlt]
    refine call_plain (ds := [.agg (funcC m.funcs[k])]) _ (by simp) (by simp) (fun _ => rfl) (fun _ => refFunc_pure m.funcs[k] (hi _ (List.getElem_mem hlt))) ?_
    simp
    refine ⟨fun h => DLe_int ?_, fun h => ?_⟩
    · unfold checkE
      rw [if_neg (by omega), if_pos (by rw [all_no hlt h]; rfl)]
    · refine ⟨k + 1, ⟨hlt, fun j hj hj' => ?_⟩, by omega, srcs [], ?_⟩
      · rcases Nat.lt_or_ge j k with h1 | h1
        · exact hall j hj h1
        · obtain rfl : j = k := by omega
          exact h
      · simp [SLeK]
        exact DLe_int (wrap_succ (by omega))
  have hff := all_yes fun j hj => hall j hj (by omega)
  refine loop_s (κ := Nat) (fun k => k ≤ m.globs.length ∧ ∀ j (h : j < m.globs.length), j < k → globOk m.globs[j] = true) (fun k => m.globs.length - k) (fun k => [(sl 5, .int k)]) (fun _ => []) 0 0 (srcs []) (by simp) (by simp) ?_
  rintro k' ⟨hk', hall'⟩
  simp
  refine ⟨fun hlt => ⟨hlt, ?_⟩, fun hge' => ?_⟩
  · rw [getD_some hlt]
    refine call_plain (ds := [.str m.globs[k'].name]) _ (by simp) (by simp) (fun _ => rfl) (fun _ => refName_pure m.globs[k'].name) ?_
    simp
    refine ⟨fun h1 h2 h3 h4 => ⟨⟨⟨⟨h1, h2⟩, h3⟩, h4⟩, fun h5 => ⟨⟨⟨⟨h1, h2⟩, h3⟩, h4⟩, h5⟩⟩, fun h1 h2 h3 => ⟨⟨⟨h1, h2⟩, h3⟩, fun h4 => ⟨⟨⟨h1, h2⟩, h3⟩, h4⟩⟩, fun h => DLe_int ?_, ?_⟩
    · have hno : globOk m.globs[k'] = false := by
        unfold globOk
        rcases h with ((h | h) | h) | ⟨h, h' | h'⟩
        · simp [h]
        · simp; intro _ h2; omega
        · simp; intro _ h2 h3; omega
        · simp [h]; intro _ _ _ h5; exact absurd h5 h'
        · simp [h, h']
      unfold checkE
      rw [if_neg (by omega), if_pos (by rw [all_no hlt hno]; simp)]
    · intro h1 h2 h3 h4
      refine ⟨k' + 1, ⟨hlt, fun j hj hj' => ?_⟩, by omega, srcs [], ?_⟩
      · rcases Nat.lt_or_ge j k' with h5 | h5
        · exact hall' j hj h5
        · obtain rfl : j = k' := by omega
          unfold globOk
          cases hh : m.globs[j].here with
          | true => simp [h1, h2, h3]
          | false =>
            obtain ⟨h6, h7⟩ := h4 hh
            simp [h1, h2, h3, h6, h7]
      · simp [SLeK]
        exact DLe_int (wrap_succ (by omega))
  have hgg := all_yes fun j hj => hall' j hj (by omega)
  have hc : checkE m = if dcountR (namesM m) < m.funcs.length + m.globs.length then 9 else refsE m := by
    unfold checkE
    rw [if_neg (by omega), if_neg (by rw [hff, hgg]; simp)]
  have hnl : (namesM m).length = m.funcs.length + m.globs.length := by simp [namesM, fnames, gnames]
  rw [← hnl] at hc
  refine call_plain (ds := [.agg (moduleC m)]) _ (by simp) (by simp) (fun _ => rfl) (fun _ => refNames_pure m (by omega) (by omega)) ?_
  simp
  obtain ⟨ns, hns⟩ : ∃ ns, namesM m = ns := ⟨_, rfl⟩
  rw [hns] at hc hnl
  simp only [hns]
  refine loop_s (κ := Nat) (fun k => k ≤ ns.length ∧ ∀ a b (ha : a < ns.length) (hb : b < ns.length), b < a → a < k → ns[a] ≠ ns[b]) (fun k => ns.length - k) (fun k => [(sl 9, .int k)]) (fun _ => []) 0 0 (srcs []) (by simp) (by simp) ?_
  rintro i ⟨hil, hnd⟩
  simp
  refine ⟨fun hlt => ?_, fun hge'' => ?_⟩
  · refine loop_s (κ := Nat) (fun k => k ≤ i ∧ ∀ b (hb : b < ns.length), b < k → ns[i] ≠ ns[b]) (fun k => i - k) (fun k => [(sl 10, .int k)]) (fun _ => []) 0 0 (srcs []) (by simp) (by simp) ?_
    rintro p ⟨hpi, hpb⟩
    simp
    refine ⟨fun hpl => ?_, fun hge3 => ?_⟩
    · have hpl' : p < ns.length := by omega
      refine ⟨hlt, hpl', ?_⟩
      refine ⟨fun he => DLe_int ?_, fun hne => ?_⟩
      · have he' : ns[i] = ns[p] := by simpa [hlt, hpl'] using he
        rw [hc, if_pos]
        rw [dcountR_iff]
        intro hnn
        have := List.pairwise_iff_getElem.1 hnn p i hpl' hlt hpl
        exact this he'.symm
      · have hne' : ns[i] ≠ ns[p] := by simpa [hlt, hpl'] using hne
        refine ⟨p + 1, ⟨by omega, fun b hb hbp => ?_⟩, by omega, srcs [], ?_⟩
        · rcases Nat.lt_or_ge b p with h5 | h5
          · exact hpb b hb h5
          · obtain rfl : b = p := by omega
            exact hne'
        · simp [SLeK]
          exact DLe_int (wrap_succ (by omega))
    · refine ⟨i + 1, ⟨by omega, fun a b ha hb hba hai => ?_⟩, by omega, srcs [], ?_⟩
      · rcases Nat.lt_or_ge a i with h5 | h5
        · exact hnd a b ha hb hba h5
        · obtain rfl : a = i := by omega
          exact hpb b hb (by omega)
      · simp [SLeK]
        exact DLe_int (wrap_succ (by omega))
  have hnod : ns.Nodup := by
    refine List.pairwise_iff_getElem.2 fun b a hb ha hba => ?_
    exact Ne.symm (hnd a b ha hb hba (by omega))
  rw [if_neg (by rw [dcountR_iff]; exact fun h => h hnod)] at hc
  rw [← hns] at hnod
  have hfn : (m.funcs.map (·.name)).Nodup := (List.nodup_append.1 hnod).1
  rw [hc]
  refine loop_s (κ := KO) (fun s => s.k ≤ m.funcs.length ∧ InvS m ((m.funcs.take s.k).flatMap allIns) s.o) (fun s => m.funcs.length - s.k) (fun s => [(sl 12, .int s.k), (sl 11, .d (.lit (.bool s.o)))]) (fun _ => []) 0 ⟨0, false⟩ (srcs []) ⟨Nat.zero_le _, InvS.start m⟩ (by simp) ?_
  rintro ⟨fi, o⟩ ⟨hfi, hin⟩
  simp
  refine ⟨fun hflt => ?_, fun hfge => ?_⟩
  · obtain ⟨f, hfe⟩ : ∃ f, m.funcs[fi] = f := ⟨_, rfl⟩
    have hfm : f ∈ m.funcs := by rw [← hfe]; exact List.getElem_mem hflt
    have hfk : m.funcs[fi]?.getD default = f := by rw [getD_some hflt, hfe]
    have hfok := List.all_eq_true.1 hff f hfm
    have hbmax := funcOk_len hfok
    obtain ⟨L, hL⟩ : ∃ L, (m.funcs.take fi).flatMap allIns = L := ⟨_, rfl⟩
    simp only [hL] at hin
    have hsub : ∀ i ∈ allIns f, i ∈ insM m := fun i hi => List.mem_flatMap.2 ⟨f, hfm, hi⟩
    refine loop_s (κ := KO) (fun s => s.k ≤ f.blocks.length ∧ InvS m (L ++ (f.blocks.take s.k).flatMap (·.ins)) s.o) (fun s => f.blocks.length - s.k) (fun s => [(sl 13, .int s.k), (sl 11, .d (.lit (.bool s.o)))]) (fun _ => []) 0 ⟨0, o⟩ (srcs []) ⟨Nat.zero_le _, by simpa using hin⟩ (by simp) ?_
    rintro ⟨bi, o2⟩ ⟨hbi, hin2⟩
    simp [hfk]
    refine ⟨hflt, fun hblt => ?_, fun hbge => ?_⟩
    · obtain ⟨b, hbe⟩ : ∃ b, f.blocks[bi] = b := ⟨_, rfl⟩
      have hbk : f.blocks[bi]?.getD default = b := by rw [getD_some hblt, hbe]
      have himax : b.ins.length ≤ 32 := by rw [← hbe]; exact (blockOk_parts (funcOk_block hfok hblt)).2.2.1
      obtain ⟨L2, hL2⟩ : ∃ L2, L ++ (f.blocks.take bi).flatMap (·.ins) = L2 := ⟨_, rfl⟩
      simp only [hL2] at hin2
      have hsub2 : ∀ i ∈ b.ins, i ∈ insM m := fun i hi => hsub i (List.mem_flatMap.2 ⟨b, by rw [← hbe]; exact List.getElem_mem hblt, hi⟩)
      refine loop_s (κ := KO) (fun s => s.k ≤ b.ins.length ∧ InvS m (L2 ++ b.ins.take s.k) s.o) (fun s => b.ins.length - s.k) (fun s => [(sl 14, .int s.k), (sl 11, .d (.lit (.bool s.o)))]) (fun _ => []) 0 ⟨0, o2⟩ (srcs []) ⟨Nat.zero_le _, by simpa using hin2⟩ (by simp) ?_
      rintro ⟨ii, o3⟩ ⟨hii, hin3⟩
      simp [hfk, hbk]
      refine ⟨hflt, hblt, fun hilt => ⟨hflt, hblt, hilt, ?_⟩, fun hige => ?_⟩
      · obtain ⟨x, hxe⟩ : ∃ x, b.ins[ii] = x := ⟨_, rfl⟩
        have hxk : b.ins[ii]?.getD default = x := by rw [getD_some hilt, hxe]
        have hxm : x ∈ insM m := hsub2 x (by rw [← hxe]; exact List.getElem_mem hilt)
        have htk : L2 ++ b.ins.take (ii + 1) = L2 ++ b.ins.take ii ++ [x] := by
          rw [List.take_succ_eq_append_getElem hilt, hxe, List.append_assoc]
        simp only [hxk]
        simp only at hin3
        refine ⟨fun h14 => ?_, fun hn14 => ?_⟩
        · refine call_plain (ds := [.agg (moduleC m), .str x.name]) _ (by simp) (by simp) (fun _ => by simp; rfl) (fun _ => findFunc_pure m x.name) ?_
          simp
          refine ⟨fun hneg => DLe_int (refsE_bad hxm (miss_call h14 hneg)).symm, fun hpos => ⟨fun h => ⟨h, hpos, ?_⟩, ?_⟩⟩
          · obtain ⟨a, ha, hae, _⟩ := findI_at hpos
            rw [hae]
            exact_mod_cast ha
          refine call_plain (ds := [.agg (moduleC m), .str x.name]) _ (by simp) (by simp) (fun _ => by simp; rfl) (fun _ => findGlob_pure m x.name) ?_
          simp
          refine ⟨fun h12 hneg => DLe_int (refsE_bad hxm (miss_glob h12 hneg)).symm, ?_⟩
          intro hgl
          obtain ⟨a, ha, hae, hname⟩ := findI_at hpos
          refine ⟨⟨ii + 1, o3 || oddI m x⟩, ⟨by simp; omega, ?_⟩, by simp; omega, srcs [], ?_⟩
          · simp only []
            rw [htk]
            exact hin3.snoc (there_call h14 hpos)
          · simp [SLeK, hae]
            rw [getD_some ha, odd_call hfn h14 ha hname]
            exact ⟨DLe_int (wrap_succ (by omega)), DLe.refl _⟩
        · refine call_plain (ds := [.agg (moduleC m), .str x.name]) _ (by simp) (by simp) (fun _ => by simp; rfl) (fun _ => findGlob_pure m x.name) ?_
          simp
          refine ⟨fun h12 hneg => DLe_int (refsE_bad hxm (miss_glob h12 hneg)).symm, ?_⟩
          intro hgl
          have hmx : missI m x = false := by
            by_cases h12 : x.op = 12 ∨ x.op = 13
            · exact there_glob h12 (hgl h12)
            · exact missI_mk (fun h => absurd h hn14) (fun h => absurd h h12)
          refine ⟨⟨ii + 1, o3 || oddI m x⟩, ⟨by simp; omega, ?_⟩, by simp; omega, srcs [], ?_⟩
          · simp only []
            rw [htk]
            exact hin3.snoc hmx
          · rw [odd_no hn14]
            simp [SLeK]
            exact DLe_int (wrap_succ (by omega))
      · refine ⟨⟨bi + 1, o3⟩, ⟨by simp; omega, ?_⟩, by simp; omega, srcs [], ?_⟩
        · simp only at hin3 ⊢
          rw [List.take_of_length_le hige] at hin3
          rw [List.take_succ_eq_append_getElem hblt, List.flatMap_append, ← List.append_assoc, hL2, hbe]
          simpa using hin3
        · simp [SLeK]
          exact DLe_int (wrap_succ (by omega))
    · refine ⟨⟨fi + 1, o2⟩, ⟨by simp; omega, ?_⟩, by simp; omega, srcs [], ?_⟩
      · simp only at hin2 ⊢
        rw [List.take_of_length_le hbge] at hin2
        rw [List.take_succ_eq_append_getElem hflt, List.flatMap_append, hL, hfe]
        simpa [allIns] using hin2
      · simp [SLeK]
        exact DLe_int (wrap_succ (by omega))
  · simp only at hin
    rw [List.take_of_length_le hfge] at hin
    rw [InvS.all hin]
    exact ⟨fun h => DLe_int (by rw [if_pos h]), fun h => DLe_int (by rw [h]; rfl)⟩

end Go.Proofs.Ytghlfjpmpalpdaa
