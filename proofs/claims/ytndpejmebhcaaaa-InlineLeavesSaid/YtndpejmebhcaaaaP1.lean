/- Plain laws of layer 7: two modules, of which one does what the other one does. -/
import Derived.Test.YtndpejmebhcaaaaP0
namespace Go.Proofs.Ytndpejmebhcaaaa
open Go.RowKit

/-- Two runs that did the same so far, the second in no more steps, no deeper. -/
structure WR (w w2 : Wd) : Prop where
  out : w2.out = w.out
  read : w2.read = w.read
  globs : w2.globs = w.globs
  steps : w2.steps ≤ w.steps
  deep : w2.deep ≤ w.deep

theorem WR.refl (w : Wd) : WR w w := ⟨rfl, rfl, rfl, Nat.le_refl _, Nat.le_refl _⟩

section
variable {m m2 : Module} {inp : ByteArray} {fuel deep : Nat} {w w2 : Wd}

theorem WR.lt (h : WR w w2) (hg : Good m fuel w) (hs : ¬ w.steps = fuel) : ¬ w2.steps = fuel := by
  have := h.steps
  have := hg.steps
  omega
theorem WR.step (h : WR w w2) (hs : ¬ w.steps = fuel) (hs2 : ¬ w2.steps = fuel) : WR (stepW fuel w) (stepW fuel w2) := by
  rw [stepW_go hs, stepW_go hs2]
  exact ⟨h.out, h.read, h.globs, by have := h.steps; simp only; omega, h.deep⟩
/-- A step that only the first one made. -/
theorem WR.stepL (h : WR w w2) (hs : ¬ w.steps = fuel) : WR (stepW fuel w) w2 := by
  rw [stepW_go hs]
  exact ⟨h.out, h.read, h.globs, by have := h.steps; simp only; omega, h.deep⟩
theorem WR.enter (h : WR w w2) (n : Nat) : WR (enterW n w) (enterW n w2) := by
  have hd := h.deep
  unfold enterW
  split
  · split
    · exact ⟨h.out, h.read, h.globs, h.steps, Nat.le_refl _⟩
    · exact ⟨h.out, h.read, h.globs, h.steps, by simp only; omega⟩
  · split
    · exact ⟨h.out, h.read, h.globs, h.steps, by simp only; omega⟩
    · exact h
theorem WR.enterL (h : WR w w2) (n : Nat) : WR (enterW n w) w2 := by
  have hd := h.deep
  unfold enterW
  split
  · exact ⟨h.out, h.read, h.globs, h.steps, by simp only; omega⟩
  · exact h
theorem globI_congr (hg : m2.globs = m.globs) (s : ByteArray) : globI m2 s = globI m s := by unfold globI; rw [hg]
theorem WR.gives (hg : m2.globs = m.globs) (h : WR w w2) (inp : ByteArray) {x x2 : Inst} {vals vals2 : List Int} (h1 : x2.op = x.op) (h2 : x2.name = x.name) (h3 : x2.k = x.k)
    (ha : isOne x.op = true → valAt vals2 x2.a = valAt vals x.a) (hb : isTwo x.op = true → valAt vals2 x2.b = valAt vals x.b) (hop : 1 ≤ x.op ∧ x.op ≤ 16 ∧ x.op ≠ 14) : WR (givesW m inp x vals w).1 (givesW m2 inp x2 vals2 w2).1 ∧ (givesW m2 inp x2 vals2 w2).2 = (givesW m inp x vals w).2 := by
  unfold givesW
  rw [h1, h2, h3, globI_congr hg]
  split
  · exact ⟨h, rfl⟩
  split
  · exact ⟨h, by rw [h.globs]⟩
  split
  · rename_i h13
    exact ⟨⟨h.out, h.read, by simp only; rw [h.globs, ha (by rw [h13]; rfl)], h.steps, h.deep⟩, rfl⟩
  split
  · rw [h.read]
    split
    · exact ⟨h, rfl⟩
    · exact ⟨⟨h.out, rfl, h.globs, h.steps, h.deep⟩, rfl⟩
  split
  · rename_i h16
    exact ⟨⟨by simp only; rw [h.out, ha (by rw [h16]; rfl)], h.read, h.globs, h.steps, h.deep⟩, rfl⟩
  · have h2 : 2 ≤ x.op ∧ x.op ≤ 11 := by omega
    exact ⟨h, by simp only; rw [ha ((isOne_iff _).2 (.inl h2)), hb ((isTwo_iff _).2 h2)]⟩
end

abbrev St4 := Func → Nat → Nat → List Int → Func → Nat → Nat → List Int → Prop

/-- A call that goes on at a place that there is. -/
structure Valid (m : Module) (f : Func) (at' i : Nat) (vals : List Int) (b : Block) : Prop where
  mem : f ∈ m.funcs
  blk : f.blocks[at']? = some b
  len : (vals.length : Int) = b.params + i
  le : i ≤ b.ins.length

def Pos (l : List Int) : Prop := ∀ v ∈ l, 0 ≤ v
theorem Pos.snoc {l : List Int} {v : Int} (h : Pos l) (hv : 0 ≤ v) : Pos (l ++ [v]) := fun x hx => by
  rcases List.mem_append.1 hx with hx | hx
  · exact h x hx
  · rw [List.mem_singleton.1 hx]; exact hv

/-- A relation of places that each step keeps. -/
structure SimOk (m m2 : Module) (inp : ByteArray) (fuel deep : Nat) (R : St4) : Prop where
  entry : ∀ (f : Func) (args : List Int), f ∈ m.funcs → 0 < f.blocks.length → (args.length : Int) = f.params → R f 0 0 args (funcOf m2 f.name) 0 0 args
  plain : ∀ {w w2 : Wd} {f : Func} {at' i : Nat} {vals : List Int} {f2 : Func} {at2 i2 : Nat} {vals2 : List Int} {n : Nat} {b : Block} {x : Inst}, R f at' i vals f2 at2 i2 vals2 → Valid m f at' i vals b → Pos vals → Pos vals2 → Good m fuel w → Good m2 fuel w2 → WR w w2 → b.ins[i]? = some x → ¬ x.op = 14 → ¬ w.steps = fuel →
    ∃ w2' i2' vals2', Good m2 fuel w2' ∧ Pos vals2' ∧ WR (givesW m inp x vals (stepW fuel w)).1 w2' ∧ R f at' (i + 1) (vals ++ [(givesW m inp x vals (stepW fuel w)).2]) f2 at2 i2' vals2' ∧ goF m2 inp fuel deep w2 f2 at2 i2 vals2 n = goF m2 inp fuel deep w2' f2 at2 i2' vals2' n
  call : ∀ {w w2 : Wd} {f : Func} {at' i : Nat} {vals : List Int} {f2 : Func} {at2 i2 : Nat} {vals2 : List Int} {n : Nat} {b : Block} {x : Inst}, R f at' i vals f2 at2 i2 vals2 → Valid m f at' i vals b → Pos vals → Pos vals2 → Good m fuel w → Good m2 fuel w2 → WR w w2 → b.ins[i]? = some x → x.op = 14 → ¬ w.steps = fuel → ¬ n = deep →
    (∃ b2 x2, f2.blocks[at2]? = some b2 ∧ b2.ins[i2]? = some x2 ∧ x2.op = 14 ∧ x2.name = x.name ∧ pickI vals2 x2.args = pickI vals x.args ∧ ∀ v, 0 ≤ v → R f at' (i + 1) (vals ++ [v]) f2 at2 (i2 + 1) (vals2 ++ [v])) ∨
    (∀ r, goF m inp fuel deep (enterW (n + 1) (stepW fuel w)) (funcOf m x.name) 0 0 (pickI vals x.args) (n + 1) = r → r.1.bad = 0 →
      ∃ w2' i2' vals2', Good m2 fuel w2' ∧ Pos vals2' ∧ WR r.1 w2' ∧ R f at' (i + 1) (vals ++ [r.2]) f2 at2 i2' vals2' ∧ goF m2 inp fuel deep w2 f2 at2 i2 vals2 n = goF m2 inp fuel deep w2' f2 at2 i2' vals2' n)
  ret : ∀ {w w2 : Wd} {f : Func} {at' i : Nat} {vals : List Int} {f2 : Func} {at2 i2 : Nat} {vals2 : List Int} {n : Nat} {b : Block}, R f at' i vals f2 at2 i2 vals2 → Valid m f at' i vals b → Pos vals → Pos vals2 → Good m fuel w → Good m2 fuel w2 → WR w w2 → i = b.ins.length → b.kind = 3 → ¬ w.steps = fuel →
    ∃ w2', Good m2 fuel w2' ∧ WR (stepW fuel w) w2' ∧ goF m2 inp fuel deep w2 f2 at2 i2 vals2 n = (w2', valAt vals b.ta)
  jump : ∀ {w w2 : Wd} {f : Func} {at' i : Nat} {vals : List Int} {f2 : Func} {at2 i2 : Nat} {vals2 : List Int} {n : Nat} {b : Block}, R f at' i vals f2 at2 i2 vals2 → Valid m f at' i vals b → Pos vals → Pos vals2 → Good m fuel w → Good m2 fuel w2 → WR w w2 → i = b.ins.length → ¬ b.kind = 3 → ¬ w.steps = fuel →
    ∀ to args, (if b.kind = 2 ∧ valAt vals b.ta = 0 then to = b.els ∧ args = b.elses else to = b.to ∧ args = b.args) →
    ∃ w2' at2' vals2', Good m2 fuel w2' ∧ Pos vals2' ∧ WR (stepW fuel w) w2' ∧ R f to.toNat 0 (pickI vals args) f2 at2' 0 vals2' ∧ goF m2 inp fuel deep w2 f2 at2 i2 vals2 n = goF m2 inp fuel deep w2' f2 at2' 0 vals2' n

theorem funcOf_of {m : Module} {s : ByteArray} {f : Func} (h : findF m s = some f) : funcOf m s = f := by unfold funcOf; rw [h]; rfl

theorem SimOk.go {m m2 : Module} {inp : ByteArray} {fuel deep : Nat} {R : St4} (h : SimOk m m2 inp fuel deep R) (hw : wholeE m = 0) :
    ∀ (g : Nat) (w w2 : Wd) (f : Func) (at' i : Nat) (vals : List Int) (f2 : Func) (at2 i2 : Nat) (vals2 : List Int) (n : Nat) (b : Block), fuel < g + w.steps → Good m fuel w → Good m2 fuel w2 → WR w w2 → Valid m f at' i vals b → Pos vals → Pos vals2 → R f at' i vals f2 at2 i2 vals2 →
      ∀ r, goR m inp fuel deep g w f at' i vals n = r → r.1.bad = 0 → ∃ w2', Good m2 fuel w2' ∧ WR r.1 w2' ∧ goF m2 inp fuel deep w2 f2 at2 i2 vals2 n = (w2', r.2) := by
  obtain ⟨hok, hmain, hthere⟩ := wholeE_zero.1 hw
  intro g
  induction g with
  | zero => intro w w2 f at' i vals f2 at2 i2 vals2 n b hg hgd; have := hgd.steps; omega
  | succ g ih =>
    intro w w2 f at' i vals f2 at2 i2 vals2 n b hg hgd hgd2 hwr hv hp hp2 hR r hr hb
    have hfo := hok.funcs f hv.mem
    have hat : at' < f.blocks.length := (List.getElem?_eq_some_iff.1 hv.blk).1
    have hbk : blockOk f b = true := by
      have := funcOk_block hfo hat
      rwa [(List.getElem?_eq_some_iff.1 hv.blk).2] at this
    obtain ⟨hp0, hp6, hi32, hins, hend⟩ := blockOk_parts hbk
    rw [goR] at hr
    simp only [hv.blk, Option.getD_some] at hr
    by_cases hs : w.steps = fuel
    · rw [if_pos ((stepW_bad hgd.bad).2 hs)] at hr
      subst hr
      exact absurd hb ((stepW_bad (fuel := fuel) hgd.bad).2 hs)
    rw [if_neg (goF_go hgd hs)] at hr
    have hs2 := hwr.lt hgd hs
    have hst : (stepW fuel w).steps = w.steps + 1 := by rw [stepW_go hs]
    have hgs := hgd.step hs
    have hgs2 := hgd2.step hs2
    by_cases hi : i < b.ins.length
    · rw [if_pos hi] at hr
      have hx? : b.ins[i]? = some b.ins[i] := List.getElem?_eq_getElem hi
      simp only [hx?, Option.getD_some] at hr
      have hxo := hins i hi
      generalize b.ins[i] = x at hx? hr hxo
      have hxi : x ∈ allIns f := List.mem_flatMap.2 ⟨b, List.mem_of_getElem? hv.blk, List.mem_of_getElem? hx?⟩
      by_cases h14 : x.op = 14
      · rw [if_pos h14] at hr
        by_cases hnd : n = deep
        · rw [if_pos hnd] at hr
          subst hr
          simp at hb
        rw [if_neg hnd] at hr
        obtain ⟨f', hf', hfn, hfp⟩ := hok.call (mem_insM hv.mem hxi) h14
        have hff : findF m x.name = some f' := by rw [← hfn]; exact findF_uniq hok hf'
        have hth := hthere x.name (List.mem_flatMap.2 ⟨f, hv.mem, List.mem_map.2 ⟨x, List.mem_filter.2 ⟨hxi, isNamed_iff.2 (.inr (.inr h14))⟩, rfl⟩⟩)
        have hbl : 0 < f'.blocks.length := by
          unfold thereB at hth
          rw [hff] at hth
          have : f'.blocks.length ≠ 0 := by simpa using hth
          omega
        rw [funcOf_of hff] at hr
        have hgce := hgs.enter (n + 1)
        have hpp := pickI_nonneg hp x.args
        obtain ⟨rc, hrc⟩ : ∃ rc, goR m inp fuel deep g (enterW (n + 1) (stepW fuel w)) f' 0 0 (pickI vals x.args) (n + 1) = rc := ⟨_, rfl⟩
        rw [hrc] at hr
        obtain ⟨a1, a2, a3, a4, a5⟩ := goR_good (inp := inp) (deep := deep) g (enterW (n + 1) (stepW fuel w)) f' 0 0 (pickI vals x.args) (n + 1) hgce hpp
        rw [hrc] at a1 a2 a3 a4
        rw [enterW_steps, hst] at a1
        by_cases hrb : ¬ rc.1.bad = 0
        · rw [if_pos hrb] at hr
          subst hr
          exact absurd hb hrb
        rw [if_neg hrb] at hr
        have hrb := Classical.not_not.1 hrb
        have hval' : ∀ v, Valid m f at' (i + 1) (vals ++ [v]) b := fun v => ⟨hv.mem, hv.blk, by have := hv.len; simp; omega, hi⟩
        rcases h.call (n := n) hR hv hp hp2 hgd hgd2 hwr hx? h14 hs hnd with ⟨b2, x2, e1, e2, e3, e4, e5, e6⟩ | hin
        · have hentry := h.entry f' (pickI vals x.args) hf' hbl (by rw [pickI_length]; exact hfp.symm)
          obtain ⟨w2', k1, k2, k3⟩ := ih (enterW (n + 1) (stepW fuel w)) (enterW (n + 1) (stepW fuel w2)) f' 0 0 (pickI vals x.args) (funcOf m2 f'.name) 0 0 (pickI vals x.args) (n + 1) f'.blocks[0] (by rw [enterW_steps]; omega)
            hgce (hgs2.enter _) ((hwr.step hs hs2).enter _) ⟨hf', List.getElem?_eq_getElem hbl, by rw [funcOk_first (hok.funcs f' hf') hbl, pickI_length]; omega, Nat.zero_le _⟩ hpp hpp hentry rc hrc hrb
          have hc := goF_call (m := m2) (inp := inp) (deep := deep) (n := n) hgd2 hp2 hs2 e1 e2 e3 hnd (r := (w2', rc.2)) (by rw [e4, e5, ← hfn]; exact k3)
          rw [if_neg (fun h => h k1.bad)] at hc
          obtain ⟨w3, j1, j2, j3⟩ := ih rc.1 w2' f at' (i + 1) (vals ++ [rc.2]) f2 at2 (i2 + 1) (vals2 ++ [rc.2]) n b (by omega) (a3 hrb) k1 k2 (hval' _) (Pos.snoc hp a4) (Pos.snoc hp2 a4) (e6 _ a4) r hr hb
          exact ⟨w3, j1, j2, by rw [hc]; exact j3⟩
        · have hrcF : goF m inp fuel deep (enterW (n + 1) (stepW fuel w)) (funcOf m x.name) 0 0 (pickI vals x.args) (n + 1) = rc := by
            rw [funcOf_of hff, ← hrc]
            exact goR_gas _ _ _ _ _ _ _ _ hgce hpp (by rw [enterW_steps]; omega) (by rw [enterW_steps]; omega)
          obtain ⟨w2', i2', vals2', k1, k2, k3, k4, k5⟩ := hin rc hrcF hrb
          obtain ⟨w3, j1, j2, j3⟩ := ih rc.1 w2' f at' (i + 1) (vals ++ [rc.2]) f2 at2 i2' vals2' n b (by omega) (a3 hrb) k1 k3 (hval' _) (Pos.snoc hp a4) k2 k4 r hr hb
          exact ⟨w3, j1, j2, by rw [k5]; exact j3⟩
      · rw [if_neg h14] at hr
        obtain ⟨c1, c2, c3⟩ := hgd.gives hs inp x hp
        obtain ⟨w2', i2', vals2', k1, k2, k3, k4, k5⟩ := h.plain (n := n) hR hv hp hp2 hgd hgd2 hwr hx? h14 hs
        obtain ⟨w3, j1, j2, j3⟩ := ih _ w2' f at' (i + 1) _ f2 at2 i2' vals2' n b (by omega) c1 k1 k3 ⟨hv.mem, hv.blk, by have := hv.len; simp; omega, hi⟩ (Pos.snoc hp c2) k2 k4 r hr hb
        exact ⟨w3, j1, j2, by rw [k5]; exact j3⟩
    · rw [if_neg hi] at hr
      have hi' : i = b.ins.length := by have := hv.le; omega
      by_cases hk3 : b.kind = 3
      · rw [if_pos hk3] at hr
        subst hr
        exact h.ret (n := n) hR hv hp hp2 hgd hgd2 hwr hi' hk3 hs
      · rw [if_neg hk3] at hr
        have hends := endB_parts hend
        have hgo : ∀ to args, goesB f to args (b.params + b.ins.length) = true → (if b.kind = 2 ∧ valAt vals b.ta = 0 then to = b.els ∧ args = b.elses else to = b.to ∧ args = b.args) → goR m inp fuel deep g (stepW fuel w) f to.toNat 0 (pickI vals args) n = r →
            ∃ w2', Good m2 fuel w2' ∧ WR r.1 w2' ∧ goF m2 inp fuel deep w2 f2 at2 i2 vals2 n = (w2', r.2) := by
          intro to args hgo hsel hr
          obtain ⟨g0, ⟨b', g1, g1'⟩, g2⟩ := goes_there hfo hgo
          obtain ⟨w2', at2', vals2', k1, k2, k3, k4, k5⟩ := h.jump (n := n) hR hv hp hp2 hgd hgd2 hwr hi' hk3 hs to args hsel
          obtain ⟨w3, j1, j2, j3⟩ := ih _ w2' f to.toNat 0 _ f2 at2' 0 vals2' n b' (by omega) hgs k1 k3 ⟨hv.mem, g1, by rw [pickI_length]; omega, Nat.zero_le _⟩ (pickI_nonneg hp _) k2 k4 r hr hb
          exact ⟨w3, j1, j2, by rw [k5]; exact j3⟩
        by_cases hk2 : b.kind = 2 ∧ valAt vals b.ta = 0
        · rw [if_pos hk2] at hr
          refine hgo b.els b.elses ?_ (by rw [if_pos hk2]; exact ⟨rfl, rfl⟩) hr
          rcases hends with ⟨h1, _⟩ | ⟨_, _, _, _, h1⟩ | ⟨h1, _⟩
          · have := hk2.1; omega
          · exact h1
          · exact absurd h1 hk3
        · rw [if_neg hk2] at hr
          refine hgo b.to b.args ?_ (by rw [if_neg hk2]; exact ⟨rfl, rfl⟩) hr
          rcases hends with ⟨_, h1⟩ | ⟨_, _, _, h1, _⟩ | ⟨h1, _⟩
          · exact h1
          · exact h1
          · exact absurd h1 hk3

/-- Where m ends, m2 does the same, in no more steps, no deeper. -/
def RunRel (m m2 : Module) : Prop := ∀ (inp : ByteArray) (fuel deep : Nat), (runR m inp fuel deep).bad = 0 →
  (runR m2 inp fuel deep).bad = 0 ∧ (runR m2 inp fuel deep).ended = true ∧ (runR m2 inp fuel deep).code = (runR m inp fuel deep).code ∧ (runR m2 inp fuel deep).out = (runR m inp fuel deep).out ∧ (runR m2 inp fuel deep).read = (runR m inp fuel deep).read ∧
  (runR m2 inp fuel deep).steps ≤ (runR m inp fuel deep).steps ∧ (runR m2 inp fuel deep).deep ≤ (runR m inp fuel deep).deep

theorem runR_ended {m : Module} {inp : ByteArray} {fuel deep : Nat} (h : (runR m inp fuel deep).bad = 0) : (runR m inp fuel deep).ended = true := by
  unfold runR at h ⊢
  simp only at h ⊢
  split at h
  · rename_i h'; exact absurd h h'
  · rename_i h'
    rw [if_neg h']
theorem RunRel.refl (m : Module) : RunRel m m := fun _ _ _ h => ⟨h, runR_ended h, rfl, rfl, rfl, Nat.le_refl _, Nat.le_refl _⟩
theorem RunRel.trans {m m2 m3 : Module} (h : RunRel m m2) (h' : RunRel m2 m3) : RunRel m m3 := fun inp fuel deep hb => by
  obtain ⟨a1, a2, a3, a4, a5, a6, a7⟩ := h inp fuel deep hb
  obtain ⟨b1, b2, b3, b4, b5, b6, b7⟩ := h' inp fuel deep a1
  exact ⟨b1, b2, b3.trans a3, b4.trans a4, b5.trans a5, Nat.le_trans b6 a6, Nat.le_trans b7 a7⟩

theorem main_in {m : Module} (hw : wholeE m = 0) : ∃ f, f ∈ m.funcs ∧ f.name = mainS ∧ findF m mainS = some f ∧ 0 < f.blocks.length ∧ f.params = 0 := by
  obtain ⟨hok, hmain, hthere⟩ := wholeE_zero.1 hw
  unfold mainB at hmain
  cases hf : findF m mainS with
  | none => rw [hf] at hmain; cases hmain
  | some f =>
    rw [hf] at hmain
    simp only [Bool.and_eq_true, decide_eq_true_eq] at hmain
    exact ⟨f, List.mem_of_find?_eq_some hf, by simpa using List.find?_some hf, rfl, by omega, hmain.2⟩

theorem SimOk.run {m m2 : Module} {R : ByteArray → Nat → Nat → St4} (h : ∀ inp fuel deep, SimOk m m2 inp fuel deep (R inp fuel deep)) (hw : wholeE m = 0) (hg : m2.globs = m.globs) : RunRel m m2 := by
  intro inp fuel deep hb
  obtain ⟨f, hf, hfn, hff, hbl, hpa⟩ := main_in hw
  have hok := (wholeE_zero.1 hw).1
  have hst : startW m2 = startW m := by unfold startW; rw [hg]
  obtain ⟨r, hr⟩ : ∃ r, goR m inp fuel deep (fuel + 1) (enterW 1 (startW m)) f 0 0 [] 1 = r := ⟨_, rfl⟩
  have hrun : runR m inp fuel deep = if r.1.bad ≠ 0 then r.1 else { r.1 with ended := true, code := r.2 } := by
    unfold runR; rw [funcOf_of hff, hr]
  have hrb : r.1.bad = 0 := by
    rw [hrun] at hb
    split at hb
    · rename_i h'; exact absurd hb h'
    · exact hb
  have hgd := (startW_good m fuel).enter 1
  have hgd2 := (startW_good m2 fuel).enter 1
  obtain ⟨w2', k1, k2, k3⟩ := (h inp fuel deep).go hw (fuel + 1) (enterW 1 (startW m)) (enterW 1 (startW m2)) f 0 0 [] (funcOf m2 f.name) 0 0 [] 1 f.blocks[0] (by omega) hgd hgd2 (by rw [hst]; exact WR.refl _)
    ⟨hf, List.getElem?_eq_getElem hbl, by rw [funcOk_first (hok.funcs f hf) hbl, hpa]; rfl, Nat.zero_le _⟩ (fun v hv => by cases hv) (fun v hv => by cases hv) ((h inp fuel deep).entry f [] hf hbl (by rw [hpa]; rfl)) r hr hrb
  rw [hfn] at k3
  have hrun2 : runR m2 inp fuel deep = { w2' with ended := true, code := r.2 } := by
    unfold runR
    have : goR m2 inp fuel deep (fuel + 1) (enterW 1 (startW m2)) (funcOf m2 mainS) 0 0 [] 1 = (w2', r.2) := k3
    rw [this]
    simp only [k1.bad]
    rw [if_neg (by simp)]
  rw [if_neg (fun h => h hrb)] at hrun
  rw [hrun2, hrun]
  exact ⟨k1.bad, rfl, rfl, k2.out, k2.read, k2.steps, k2.deep⟩

end Go.Proofs.Ytndpejmebhcaaaa
