/- Contracts by the evaluator: the document's layer 7: a call. -/
import Derived.Test.YtpfokkfomgmibaaG2
import Derived.Test.YtpfokkfomgmibaaRE
namespace Go.Proofs.Ytpfokkfomgmibaa
open Go.RowKit


/-- A call that may be. -/
structure CallIn (m : Module) (fuel deep : Nat) (w : Wd) (name : ByteArray) (args : List Int) (n : Nat) (f : Func) : Prop where
  good : Good m fuel w
  pos : ∀ v ∈ args, 0 ≤ v
  n1 : 1 ≤ n
  nd : n ≤ deep
  found : findF m name = some f
  has : 0 < f.blocks.length
  len : (args.length : Int) = f.params

theorem u64sD_snoc {l : List Int} {v : Int} : DLe (.sl 1 (l.length + 1) (appRow l.length (fun k => u64C (l[k]?.getD 0)) fun i => List.take 1 (List.drop i [DV.u64 v]))) (u64sD (l ++ [v])) := by
  refine u64sD_le (by simp) fun i hi => ?_
  unfold appRow
  split
  · rename_i h
    rw [List.getElem_append_left h]
    simp only [List.getElem?_eq_getElem h]
    rfl
  · rename_i h
    have : i = l.length := by simp at hi; omega
    subst this
    simp [u64C]
theorem instIn2_of {m : Module} (hok : ModOk m) {f : Func} (hf : f ∈ m.funcs) {x : Inst} (hx : x ∈ allIns f) {n : Nat} (h : instOk x n = true) (h14 : ¬ x.op = 14) : InstIn2 m x n := by
  have ho := instOk_op h
  exact ⟨belowB_mem (instOk_below h), globI_in hok hf hx, ho.1, ho.2, h14⟩

set_option maxRecDepth 10000 in
set_option maxHeartbeats 2000000 in
theorem call_pure (m : Module) (hw : wholeE m = 0) (inp : ByteArray) (fuel deep : Nat) (hfu : fuel ≤ 100000) (hde : deep ≤ 64) : ∀ (g : Nat) (w : Wd) (name : ByteArray) (args : List Int) (n : Nat) (f : Func), CallIn m fuel deep w name args n f → fuel < g + w.steps →
    APure Try.prog 25 [.agg (moduleC m), .agg (worldC w), .str inp, .str name, u64sD args, .int n, .int fuel, .int deep]
      (.tup [.agg (worldC (goF m inp fuel deep (enterW n w) f 0 0 args n).1), .u64 (goF m inp fuel deep (enterW n w) f 0 0 args n).2]) := by
  obtain ⟨hok, hmain, hthere⟩ := wholeE_zero.1 hw
  intro g
  induction g with
  | zero => intro w name args n f h hg; have := h.good.steps; omega
  | succ g ih =>
    intro w name args n f hc hg
    refine apureG _ _ Try.func25 (by kernel_rfl) t_marlineref07_call u_marlineref07_call rfl rfl (fun _ => ?_)
    simp [c_marlineref07_call, r_marlineref07_call]
    obtain ⟨k, hk, h1, h2⟩ | ⟨_, h2⟩ := leads_eq m name
    rotate_left
    · rw [hc.found] at h2; cases h2
    have hf : m.funcs[k] = f := by
      have := hc.found
      rw [h2] at this
      injection this
    have hfm : f ∈ m.funcs := by rw [← hf]; exact List.getElem_mem hk
    have hfo := hok.funcs f hfm
    have hn := hc.nd
    have hgood := hc.good.enter n
    have hst : (enterW n w).steps = w.steps := enterW_steps n w
    have hst0 := hc.good.steps
    have hR : ∃ R, goF m inp fuel deep (enterW n w) f 0 0 args n = R := ⟨_, rfl⟩
    obtain ⟨R, hR⟩ := hR
    rw [hR]
    obtain ⟨W, hW⟩ : ∃ W, enterW n w = W := ⟨_, rfl⟩
    have hW2 := hW
    rw [hW] at hgood hst hR
    unfold enterW at hW2
    refine ⟨fun hd => ?_, fun hd => ?_⟩
    all_goals (first | rw [if_pos hd] at hW2 | rw [if_neg (by omega)] at hW2)
    all_goals refine call_plain (ds := [.agg (moduleC m), .str name]) _ (by simp) (by simp) (fun _ => rfl) (fun _ => findFunc_pure m name) ?_
    all_goals simp
    all_goals rw [h1]
    all_goals simp only [Int.toNat_natCast, getD_some hk, hf]
    all_goals refine ⟨⟨by omega, by omega⟩, ?_⟩
    all_goals subst hW2
    all_goals
     refine loop_s (κ := Wd × Nat × List Int) (fun q => Good m fuel q.1 ∧ w.steps ≤ q.1.steps ∧ (∃ b, f.blocks[q.2.1]? = some b ∧ (q.2.2.length : Int) = b.params) ∧ (∀ v ∈ q.2.2, 0 ≤ v) ∧ goF m inp fuel deep q.1 f q.2.1 0 q.2.2 n = R) (fun q => fuel + 1 - q.1.steps)
       (fun q => [(sl 19, .int q.2.1), (sl 20, .d (u64sD q.2.2))])
       (fun q => [(1, .box ((worldC q.1).map .d)), (2, .box [.d (.bool false), .d (.u64 0), .d (.str ⟨#[]⟩), .d (.int 0), .d (.int 0), .d (.int 0), .d (.lit (.slice none 0 0)), .d (.int 0)])]) 3 (_, 0, args) (srcs [(1, .id 1), (2, .id 2)])
       ⟨hgood, Nat.le_of_eq hst.symm, ⟨_, List.getElem?_eq_getElem hc.has, by rw [funcOk_first hfo hc.has]; exact hc.len⟩, hc.pos, hR⟩ (by simp) ?_
     rintro ⟨w1, at1, vs1⟩ ⟨hg1, hst1, ⟨b, hb, hlen⟩, hpos, hR1⟩
     simp at hg1 hst1 hb hlen hpos hR1 ⊢
     have hat : at1 < f.blocks.length := (List.getElem?_eq_some_iff.1 hb).1
     have hbk : blockOk f b = true := by
       have := funcOk_block hfo hat
       rwa [(List.getElem?_eq_some_iff.1 hb).2] at this
     obtain ⟨hp0, hp6, hi32, hins, hend⟩ := blockOk_parts hbk
     have hbm : b ∈ f.blocks := List.mem_of_getElem? hb
     refine ⟨hat, ?_⟩
     simp only [hb, Option.getD_some]
     refine loop_s (κ := Nat × Wd × List Int) (fun q => q.1 ≤ b.ins.length ∧ Good m fuel q.2.1 ∧ w1.steps ≤ q.2.1.steps ∧ (q.2.2.length : Int) = b.params + q.1 ∧ (∀ v ∈ q.2.2, 0 ≤ v) ∧ goF m inp fuel deep q.2.1 f at1 q.1 q.2.2 n = R) (fun q => b.ins.length - q.1)
       (fun q => [(sl 22, .int q.1), (sl 20, .d (u64sD q.2.2))])
       (fun q => [(1, .box ((worldC q.2.1).map .d)), (2, .box [.d (.bool false), .d (.u64 0), .d (.str ⟨#[]⟩), .d (.int 0), .d (.int 0), .d (.int 0), .d (.lit (.slice none 0 0)), .d (.int 0)])]) 3 (0, w1, vs1) (srcs [(1, .id 1), (2, .id 2)])
       ⟨by simp, hg1, Nat.le_refl _, by simpa using hlen, hpos, hR1⟩ (by simp) ?_
     rintro ⟨i, w2, vs2⟩ ⟨hi, hg2, hst2, hlen2, hpos2, hR2⟩
     simp at hi hg2 hst2 hlen2 hpos2 hR2 ⊢
     have hs2 := hg2.steps
     refine ⟨fun hlt => ⟨hlt, ?_⟩, fun hge => ?_⟩
     · rw [getD_some hlt]
       obtain ⟨x, hx⟩ : ∃ x, b.ins[i] = x := ⟨_, rfl⟩
       have hx? : b.ins[i]? = some x := by rw [List.getElem?_eq_getElem hlt, hx]
       have hxi : x ∈ allIns f := List.mem_flatMap.2 ⟨b, hbm, List.mem_of_getElem? hx?⟩
       have hxo : instOk x vs2.length = true := by
         have := hins i hlt
         rw [hx] at this
         rw [hlen2]; exact this
       simp only [hx]
       refine call_plain (ds := [.agg (worldC w2), .int fuel]) _ (by simp) (by simp) (fun _ => by simp; rfl) (fun _ => step_pure w2 fuel (by omega)) ?_
       simp
       have hover : ¬ (stepW fuel w2).bad = 0 → R = (stepW fuel w2, 0) := fun h => by rw [← hR2]; exact goF_over hg2 ((stepW_bad hg2.bad).1 h)
       refine ⟨fun h => by rw [hover h]; exact DLe.refl _, fun hbad => ?_⟩
       have hs : ¬ w2.steps = fuel := fun h => (stepW_bad hg2.bad).2 h hbad
       have hg3 := hg2.step hs
       have hst3 : (stepW fuel w2).steps = w2.steps + 1 := by rw [stepW_go hs]
       have hp3 := step_pos hg2 hs
       refine ⟨fun h14 => ⟨fun hnd => ?_, fun hnd => ?_⟩, fun h14 => ?_⟩
       · have e := goF_deep (m := m) (inp := inp) (vals := vs2) hg2 hs hb hx? h14 (by omega : n = deep)
         rw [hR2] at e
         rw [e]
         exact DLe.refl _
       · refine call_plain (ds := [u64sD vs2, intsD x.args]) _ (by simp) (by simp) (fun _ => by simp) (fun _ => pick_pure vs2 x.args ?_ (by have := instOk_args hxo; omega)) ?_
         · intro v hv
           obtain ⟨j, hj, rfl⟩ := List.getElem_of_mem hv
           have hu := instOk_below hxo
           have hue : uses x = x.args := by unfold uses; rw [if_neg (by omega), if_neg (by omega), if_pos h14]
           rw [hue] at hu
           exact belowB_at hu hj
         simp
         obtain ⟨f', hf', hfn, hfp⟩ := hok.call (mem_insM hfm hxi) h14
         have hff : findF m x.name = some f' := by rw [← hfn]; exact findF_uniq hok hf'
         have hth := hthere x.name (List.mem_flatMap.2 ⟨f, hfm, List.mem_map.2 ⟨x, List.mem_filter.2 ⟨hxi, isNamed_iff.2 (.inr (.inr h14))⟩, rfl⟩⟩)
         have hbl : 0 < f'.blocks.length := by
           unfold thereB at hth
           rw [hff] at hth
           have : f'.blocks.length ≠ 0 := by simpa using hth
           omega
         have hfo' : funcOf m x.name = f' := by unfold funcOf; rw [hff]; rfl
         have hn1 := hc.n1
         have hcin : CallIn m fuel deep (stepW fuel w2) x.name (pickI vs2 x.args) (n + 1) f' := ⟨hg3, pickI_nonneg hpos2 _, by omega, by omega, hff, hbl, by rw [pickI_length]; exact hfp.symm⟩
         obtain ⟨r, hr⟩ : ∃ r, goF m inp fuel deep (enterW (n + 1) (stepW fuel w2)) f' 0 0 (pickI vs2 x.args) (n + 1) = r := ⟨_, rfl⟩
         have hcall := ih (stepW fuel w2) x.name (pickI vs2 x.args) (n + 1) f' hcin (by omega)
         rw [hr] at hcall
         refine call_plain (ds := [.agg (moduleC m), .agg (worldC (stepW fuel w2)), .str inp, .str x.name, u64sD (pickI vs2 x.args), .int ((n + 1 : Nat) : Int), .int fuel, .int deep]) _ (by simp) (by simp) (fun _ => by simp [wrap_succ (show n < 9223372036854775807 by omega)]; exact ⟨rfl, rfl⟩) (fun _ => hcall) ?_
         simp
         have hgood4 := goR_good (inp := inp) (deep := deep) (fuel + 1) (enterW (n + 1) (stepW fuel w2)) f' 0 0 (pickI vs2 x.args) (n + 1) (hg3.enter _) (pickI_nonneg hpos2 _)
         rw [show goR m inp fuel deep (fuel + 1) (enterW (n + 1) (stepW fuel w2)) f' 0 0 (pickI vs2 x.args) (n + 1) = r from hr] at hgood4
         rw [enterW_steps] at hgood4
         obtain ⟨a1, a2, a3, a4, a5⟩ := hgood4
         have hstepc := goF_call (m := m) (inp := inp) hg2 hpos2 hs hb hx? h14 (by omega : ¬ n = deep) (r := r) (by rw [hfo']; exact hr)
         rw [hR2] at hstepc
         refine ⟨fun hb2 => ?_, fun hb2 => ?_⟩
         · rw [if_pos hb2] at hstepc
           rw [hstepc]
           exact DLe.refl _
         · rw [if_neg (fun h => h hb2)] at hstepc
           refine ⟨by omega, by omega, i + 1, r.1, vs2 ++ [r.2], ⟨by omega, a3 hb2, by omega, by simp; omega, ?_, hstepc.symm⟩, by omega, srcs [(1, .id 1), (2, .id 2)], ?_⟩
           · intro v hv
             rcases List.mem_append.1 hv with hv | hv
             · exact hpos2 v hv
             · rw [List.mem_singleton.1 hv]; exact a4
           simp [SLeK]
           exact ⟨u64sD_snoc, DLe_int (wrap_succ (by omega))⟩
       · obtain ⟨c1, c2, c3⟩ := hg2.gives hs inp x hpos2
         have hstepc := goF_plain (m := m) (inp := inp) (deep := deep) (n := n) hg2 hpos2 hs hb hx? h14
         rw [hR2] at hstepc
         have hin : InstIn2 m x vs2.length := instIn2_of hok hfm hxi hxo h14
         refine call_plain (ds := [.agg (moduleC m), .agg (worldC (stepW fuel w2)), .str inp, .agg (instC x), u64sD vs2]) _ (by simp) (by simp) (fun _ => by simp; exact ⟨rfl, rfl, rfl⟩) (fun _ => gives_pure m (stepW fuel w2) inp x vs2 hin hpos2 hg3.globs hok.ng (by have := hg3.read; omega) (by have := hg3.out; omega)) ?_
         simp
         obtain ⟨r, hr⟩ : ∃ r, givesW m inp x vs2 (stepW fuel w2) = r := ⟨_, rfl⟩
         rw [hr] at c1 c2 c3 hstepc
         simp only [hr]
         refine ⟨by omega, by omega, i + 1, r.1, vs2 ++ [r.2], ⟨by omega, c1, by omega, by simp; omega, ?_, hstepc.symm⟩, by omega, srcs [(1, .id 1), (2, .id 2)], ?_⟩
         · intro v hv
           rcases List.mem_append.1 hv with hv | hv
           · exact hpos2 v hv
           · rw [List.mem_singleton.1 hv]; exact c2
         simp [SLeK]
         exact ⟨u64sD_snoc, DLe_int (wrap_succ (by omega))⟩
     · obtain rfl : i = b.ins.length := by omega
       refine call_plain (ds := [.agg (worldC w2), .int fuel]) _ (by simp) (by simp) (fun _ => by simp; rfl) (fun _ => step_pure w2 fuel (by omega)) ?_
       simp
       have hover : ¬ (stepW fuel w2).bad = 0 → R = (stepW fuel w2, 0) := fun h => by rw [← hR2]; exact goF_over hg2 ((stepW_bad hg2.bad).1 h)
       refine ⟨fun h => by rw [hover h]; exact DLe.refl _, fun hbad => ?_⟩
       have hs : ¬ w2.steps = fuel := fun h => (stepW_bad hg2.bad).2 h hbad
       have hg3 := hg2.step hs
       have hst3 : (stepW fuel w2).steps = w2.steps + 1 := by rw [stepW_go hs]
       have hp3 := step_pos hg2 hs
       have hends := endB_parts hend
       have hk2of : b.kind = 2 → 0 ≤ b.ta ∧ b.ta < b.params + b.ins.length ∧ goesB f b.to b.args (b.params + b.ins.length) = true ∧ goesB f b.els b.elses (b.params + b.ins.length) = true := fun h2 => by
         rcases hends with ⟨h, _⟩ | ⟨_, h⟩ | ⟨h, _⟩
         · omega
         · exact h
         · omega
       have hto : ¬ b.kind = 3 → goesB f b.to b.args (b.params + b.ins.length) = true := fun h3 => by
         rcases hends with ⟨_, h⟩ | ⟨_, _, _, h, _⟩ | ⟨h, _⟩
         · exact h
         · exact h
         · omega
       refine ⟨fun hk3 => ⟨?_, ?_⟩, fun hk3 => ⟨fun hk2 => ?_, fun hk2 hz => ?_, fun hz => ?_⟩⟩
       · rcases hends with ⟨h, _⟩ | ⟨h, _⟩ | ⟨_, h⟩
         · omega
         · omega
         · omega
       · have e := goF_ret (m := m) (inp := inp) (deep := deep) (n := n) (vals := vs2) hg2 hs hb (Nat.le_refl _) hk3
         rw [hR2] at e
         rw [e]
         exact DLe.refl _
       · have := hk2of hk2
         omega
       · obtain ⟨_, _, _, hgo⟩ := hk2of hk2
         obtain ⟨g0, g1, g2⟩ := goes_there hfo hgo
         have hbel := belowB_mem (goesB_belowB hgo)
         have g1' : ∃ b', f.blocks[b.els.toNat]? = some b' ∧ ((pickI vs2 b.elses).length : Int) = b'.params := by rw [pickI_length]; exact g1
         refine call_plain (ds := [u64sD vs2, intsD b.elses]) _ (by simp) (by simp) (fun _ => by simp) (fun _ => pick_pure vs2 b.elses (by rw [hlen2]; exact hbel) (by omega)) ?_
         simp
         refine ⟨stepW fuel w2, b.els.toNat, pickI vs2 b.elses, ⟨hg3, by omega, g1', pickI_nonneg hpos2 _, ?_⟩, by omega, srcs [(1, .id 1), (2, .id 2)], ?_⟩
         · rw [← hR2]
           exact (goF_else hg2 hpos2 hs hb (Nat.le_refl _) hk3 ⟨hk2, hz⟩).symm
         simp [SLeK]
         exact DLe_int (by omega)
       · have hgo := hto hk3
         obtain ⟨g0, g1, g2⟩ := goes_there hfo hgo
         have hbel := belowB_mem (goesB_belowB hgo)
         have g1' : ∃ b', f.blocks[b.to.toNat]? = some b' ∧ ((pickI vs2 b.args).length : Int) = b'.params := by rw [pickI_length]; exact g1
         refine call_plain (ds := [u64sD vs2, intsD b.args]) _ (by simp) (by simp) (fun _ => by simp) (fun _ => pick_pure vs2 b.args (by rw [hlen2]; exact hbel) (by omega)) ?_
         simp
         refine ⟨stepW fuel w2, b.to.toNat, pickI vs2 b.args, ⟨hg3, by omega, g1', pickI_nonneg hpos2 _, ?_⟩, by omega, srcs [(1, .id 1), (2, .id 2)], ?_⟩
         · rw [← hR2]
           exact (goF_to hg2 hpos2 hs hb (Nat.le_refl _) hk3 (fun h => hz h.1 h.2)).symm
         simp [SLeK]
         exact DLe_int (by omega)

end Go.Proofs.Ytpfokkfomgmibaa
