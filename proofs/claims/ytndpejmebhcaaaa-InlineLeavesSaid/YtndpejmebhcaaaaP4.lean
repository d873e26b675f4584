/- Plain laws of layer 14: one block put in the place of one call: runs. -/
import Derived.Test.YtndpejmebhcaaaaP3
namespace Go.Proofs.Ytndpejmebhcaaaa
open Go.RowKit

section
variable {m : Module} {fi : Nat} {f0 : Func} {bi : Nat} {b0 : Block} {ak : Nat} {x0 : Inst} {g0 : Func} {l : Block} {P Q : Nat}

/-- Places in the two modules that stand for each other. -/
def PutR (f0 : Func) (bi : Nat) (b0 : Block) (ak : Nat) (l : Block) : St4 := fun f at' i vals f2 at2 i2 vals2 =>
  at2 = at' ∧ ((i2 = i ∧ vals2 = vals ∧ (f2 = f ∨ (f = f0 ∧ f2 = putF f0 bi b0 ak l ∧ (at' = bi → i ≤ ak)))) ∨
    (f = f0 ∧ f2 = putF f0 bi b0 ak l ∧ at' = bi ∧ ak < i ∧ i2 = i - 1 + l.ins.length ∧ (vals2.length : Int) = b0.params + i2 ∧ ∀ v, 0 ≤ v → v < b0.params + i → valAt vals2 (afterG b0 l ak v) = valAt vals v))

theorem putR_cases {f : Func} {at' i : Nat} {vals : List Int} {f2 : Func} {at2 i2 : Nat} {vals2 : List Int} {b : Block} (hR : PutR f0 bi b0 ak l f at' i vals f2 at2 i2 vals2) (h : OnePut m fi f0 bi b0 ak x0 g0 l) (hv : Valid m f at' i vals b) :
    (at2 = at' ∧ i2 = i ∧ vals2 = vals ∧ f2.blocks[at']? = some b ∧ (∀ j v2, PutR f0 bi b0 ak l f j 0 v2 f2 j 0 v2) ∧ ∀ v2, PutR f0 bi b0 ak l f at' (i + 1) v2 f2 at' (i + 1) v2) ∨
    (at2 = at' ∧ i2 = i ∧ vals2 = vals ∧ f = f0 ∧ f2 = putF f0 bi b0 ak l ∧ at' = bi ∧ b = b0 ∧ i < ak ∧ f2.blocks[at']? = some (putB b0 l ak) ∧ ∀ v2, PutR f0 bi b0 ak l f at' (i + 1) v2 f2 at' (i + 1) v2) ∨
    (at2 = at' ∧ i2 = i ∧ vals2 = vals ∧ f = f0 ∧ f2 = putF f0 bi b0 ak l ∧ at' = bi ∧ b = b0 ∧ i = ak ∧ f2.blocks[at']? = some (putB b0 l ak)) ∨
    (at2 = at' ∧ f = f0 ∧ f2 = putF f0 bi b0 ak l ∧ at' = bi ∧ b = b0 ∧ ak < i ∧ i2 = i - 1 + l.ins.length ∧ (vals2.length : Int) = b0.params + i2 ∧ (∀ v, 0 ≤ v → v < b0.params + i → valAt vals2 (afterG b0 l ak v) = valAt vals v) ∧ f2.blocks[at']? = some (putB b0 l ak)) := by
  obtain ⟨e1, hR⟩ := hR
  have hnew : (putF f0 bi b0 ak l).blocks[bi]? = some (putB b0 l ak) := by
    simp only [putF]
    rw [List.getElem?_set, if_pos rfl, if_pos (List.getElem?_eq_some_iff.1 h.hb).1]
  rcases hR with ⟨e2, e3, e4 | ⟨e4, e5, e6⟩⟩ | ⟨e2, e3, e4, e5, e6, e7, e8⟩
  · exact .inl ⟨e1, e2, e3, by rw [e4]; exact hv.blk, fun j v2 => ⟨rfl, .inl ⟨rfl, rfl, .inl e4⟩⟩, fun v2 => ⟨rfl, .inl ⟨rfl, rfl, .inl e4⟩⟩⟩
  · by_cases hbi : at' = bi
    · have hb : b = b0 := by
        have h1 := hv.blk
        rw [e4, hbi, h.hb] at h1
        injection h1 with h1
        exact h1.symm
      have := e6 hbi
      by_cases hi : i = ak
      · exact .inr (.inr (.inl ⟨e1, e2, e3, e4, e5, hbi, hb, hi, by rw [e5, hbi]; exact hnew⟩))
      · exact .inr (.inl ⟨e1, e2, e3, e4, e5, hbi, hb, by omega, by rw [e5, hbi]; exact hnew, fun v2 => ⟨rfl, .inl ⟨rfl, rfl, .inr ⟨e4, e5, fun _ => by omega⟩⟩⟩⟩)
    · refine .inl ⟨e1, e2, e3, ?_, fun j v2 => ⟨rfl, .inl ⟨rfl, rfl, .inr ⟨e4, e5, fun _ => Nat.zero_le _⟩⟩⟩, fun v2 => ⟨rfl, .inl ⟨rfl, rfl, .inr ⟨e4, e5, fun h => absurd h hbi⟩⟩⟩⟩
      rw [e5]
      simp only [putF]
      rw [List.getElem?_set, if_neg (fun h => hbi h.symm), ← e4]
      exact hv.blk
  · have hb : b = b0 := by
      have h1 := hv.blk
      rw [e2, e4, h.hb] at h1
      injection h1 with h1
      exact h1.symm
    exact .inr (.inr (.inr ⟨e1, e2, e3, e4, hb, e5, e6, e7, e8, by rw [e3, e4]; exact hnew⟩))

/-- Behind the leaf: one instruction more. -/
theorem putR_next (hP : b0.params = (P : Int)) (hF : PutFacts m f0 b0 ak x0 g0 l P Q) (h : OnePut m fi f0 bi b0 ak x0 g0 l) {i i2 : Nat} {vals vals2 : List Int} (hi : ak < i) (hi2 : i2 = i - 1 + l.ins.length) (hl : (vals.length : Int) = b0.params + i) (hl2 : (vals2.length : Int) = b0.params + i2)
    (hv : ∀ v, 0 ≤ v → v < b0.params + i → valAt vals2 (afterG b0 l ak v) = valAt vals v) (x : Int) :
    PutR f0 bi b0 ak l f0 bi (i + 1) (vals ++ [x]) (putF f0 bi b0 ak l) bi (i2 + 1) (vals2 ++ [x]) := by
  refine ⟨rfl, .inr ⟨rfl, rfl, rfl, by omega, by omega, by simp; omega, fun v h0 hlt => ?_⟩⟩
  by_cases e : v = b0.params + i
  · have : afterG b0 l ak v = vals2.length := by
      unfold afterG afterNum
      rw [if_neg (by omega), if_neg (by omega)]
      omega
    rw [this, valAt_last rfl, valAt_last (by omega)]
  · have hlt' : v < b0.params + i := by omega
    have hb := after_bound (b := b0) (l := l) hP hF.hQ h.hx hF.xOk h.h14 hF.len hF.ta hi h0 (by rw [hP] at hlt'; exact hlt')
    rw [valAt_lo hb.1 (by omega), valAt_lo h0 (by omega)]
    exact hv v h0 hlt'

theorem getD_get {α : Type} [Inhabited α] {xs : List α} {k : Nat} {y : α} (hk : k < xs.length) (h : xs[k]?.getD default = y) : xs[k]? = some y := by
  rw [List.getElem?_eq_getElem hk] at h ⊢
  exact congrArg some h

/-- The leaf's instructions, there and here. -/
theorem leaf_run {inp : ByteArray} {fuel deep n : Nat} (hok : ModOk m) (h : OnePut m fi f0 bi b0 ak x0 g0 l) (hF : PutFacts m f0 b0 ak x0 g0 l P Q) {vals : List Int} (hvl : (vals.length : Int) = P + ak) (hp : Pos vals) :
    ∀ (d j : Nat), j + d = l.ins.length → ∀ (wc w2 : Wd) (c : List Int) (r : Wd × Int), Good m fuel wc → Good (putM m fi f0 bi b0 ak l) fuel w2 → WR wc w2 → c.length = j → Pos c →
      goF m inp fuel deep wc g0 0 j (pickI vals x0.args ++ c) (n + 1) = r → r.1.bad = 0 →
      ∃ w2' c', Good (putM m fi f0 bi b0 ak l) fuel w2' ∧ c'.length = l.ins.length ∧ Pos c' ∧ WR r.1 w2' ∧ r.2 = valAt (pickI vals x0.args ++ c') l.ta ∧
        goF (putM m fi f0 bi b0 ak l) inp fuel deep w2 (putF f0 bi b0 ak l) bi (ak + j) (vals ++ c) n = goF (putM m fi f0 bi b0 ak l) inp fuel deep w2' (putF f0 bi b0 ak l) bi (ak + l.ins.length) (vals ++ c') n := by
  have hnew : (putF f0 bi b0 ak l).blocks[bi]? = some (putB b0 l ak) := by
    simp only [putF]
    rw [List.getElem?_set, if_pos rfl, if_pos (List.getElem?_eq_some_iff.1 h.hb).1]
  have hg0 : g0.blocks[0]? = some l := by rw [h.hl]; rfl
  have hu0 : uses x0 = x0.args := by have := h.h14; unfold uses; rw [if_neg (by omega), if_neg (by omega), if_pos this]
  have hargs : ∀ v ∈ x0.args, 0 ≤ v ∧ v < P + ak := by
    have := belowB_iff.1 (instOk_below hF.xOk)
    rw [hu0] at this
    exact this
  have hat : insAt b0 ak = x0 := by unfold insAt; rw [show (ak : Int).toNat = ak from rfl, h.hx]; rfl
  have hpl : (pickI vals x0.args).length = Q := by rw [pickI_length]; exact hF.len
  -- what a value of the leaf is
  have hval : ∀ (c : List Int) (u : Int), 0 ≤ u → u < Q + c.length → valAt (vals ++ c) (inG b0 l ak u) = valAt (pickI vals x0.args ++ c) u := by
    intro c u h0 hu
    unfold inG inNum
    rw [hat, hF.hP, hF.hQ]
    split
    · rename_i hlt
      have hk : u.toNat < x0.args.length := by have := hF.len; omega
      have ha := hargs _ (List.getElem_mem hk)
      rw [List.getElem?_eq_getElem hk]
      simp only [Option.getD_some]
      rw [valAt_lo ha.1 (by omega), valAt_lo h0 (by omega)]
      have := valAt_pick (vals := vals) hk
      rw [Int.toNat_of_nonneg h0] at this
      exact this.symm
    · rename_i hge
      rw [valAt_hi (u - Q).toNat (by omega), valAt_hi (l := pickI vals x0.args) (u - Q).toNat (by omega)]
  have hpp := pickI_nonneg hp x0.args
  intro d
  induction d with
  | zero =>
    intro j hj wc w2 c r hg hg2 hwr hc hpc hr hb
    obtain rfl : j = l.ins.length := by omega
    have hs : ¬ wc.steps = fuel := fun hs => by
      rw [goF_over hg hs] at hr
      subst hr
      exact absurd hb ((stepW_bad (fuel := fuel) hg.bad).2 hs)
    rw [goF_ret hg hs hg0 (Nat.le_refl _) h.hk] at hr
    subst hr
    exact ⟨w2, c, hg2, hc, hpc, hwr.stepL hs, rfl, rfl⟩
  | succ d ih =>
    intro j hj wc w2 c r hg hg2 hwr hc hpc hr hb
    have hs : ¬ wc.steps = fuel := fun hs => by
      rw [goF_over hg hs] at hr
      subst hr
      exact absurd hb ((stepW_bad (fuel := fuel) hg.bad).2 hs)
    have hs2 := hwr.lt hg hs
    have hjl : j < l.ins.length := by omega
    have hy? : l.ins[j]? = some l.ins[j] := List.getElem?_eq_getElem hjl
    have hyo := (blockOk_iff.1 hF.lOk).2.2.2.1 j hjl
    rw [hF.hQ] at hyo
    have hyn := h.hno _ (List.getElem_mem hjl)
    have hput := getD_get (by rw [put_length hF.lt, cnt_hi hF.lt]; have := hF.lt; omega) (put_leaf (leaf := l) hF.lt hjl)
    generalize l.ins[j] = y at hy? hyo hyn hput
    have hop := instOk_op hyo
    have hpos : Pos (pickI vals x0.args ++ c) := fun v hv => by
      rcases List.mem_append.1 hv with hv | hv
      · exact hpp v hv
      · exact hpc v hv
    have hpos2 : Pos (vals ++ c) := fun v hv => by
      rcases List.mem_append.1 hv with hv | hv
      · exact hp v hv
      · exact hpc v hv
    have hbel := belowB_iff.1 (instOk_below hyo)
    rw [goF_plain hg hpos hs hg0 hy? hyn] at hr
    have hwr' := (hwr.step hs hs2).gives (m := m) (m2 := putM m fi f0 bi b0 ak l) rfl inp (x := y) (x2 := mapInst (inG b0 l ak) y) (vals := pickI vals x0.args ++ c) (vals2 := vals ++ c) rfl rfl rfl
      (fun h1 => by
        have : y.a ∈ uses y := by rw [isOne_iff] at h1; unfold uses; split <;> (try split) <;> simp_all
        have := hbel _ this
        simp only [mapInst, h1, if_true]
        exact hval c y.a this.1 (by omega))
      (fun h1 => by
        have : y.b ∈ uses y := by rw [isTwo_iff] at h1; unfold uses; rw [if_pos h1]; simp
        have := hbel _ this
        simp only [mapInst, h1, if_true]
        exact hval c y.b this.1 (by omega)) ⟨hop.1, hop.2, hyn⟩
    obtain ⟨c1, c2, c3⟩ := hg.gives hs inp y hpos
    obtain ⟨c1', c2', c3'⟩ := hg2.gives hs2 inp (mapInst (inG b0 l ak) y) hpos2
    have hstep := goF_plain (m := putM m fi f0 bi b0 ak l) (inp := inp) (deep := deep) (n := n) hg2 hpos2 hs2 hnew hput hyn
    rw [List.append_assoc] at hr
    obtain ⟨w2', c', k1, k2, k3, k4, k5, k6⟩ := ih (j + 1) (by omega) _ _ (c ++ [(givesW m inp y (pickI vals x0.args ++ c) (stepW fuel wc)).2]) r c1 c1' hwr'.1 (by simp [hc]) (Pos.snoc hpc c2) hr hb
    refine ⟨w2', c', k1, k2, k3, k4, k5, ?_⟩
    rw [hstep, hwr'.2, List.append_assoc]
    exact k6

theorem putR_ok {inp : ByteArray} {fuel deep : Nat} (hok : ModOk m) (h : OnePut m fi f0 bi b0 ak x0 g0 l) : SimOk m (putM m fi f0 bi b0 ak l) inp fuel deep (PutR f0 bi b0 ak l) := by
  obtain ⟨P, Q, hF⟩ := h.facts hok
  have hins : ∀ {f : Func} {at' i : Nat} {vals : List Int} {b : Block} {x : Inst}, Valid m f at' i vals b → b.ins[i]? = some x → instOk x (b.params + i) = true := fun {f at' i vals b x} hv hx => by
    have hb := List.all_eq_true.1 (funcOk_all (hok.funcs f hv.mem)) b (List.mem_of_getElem? hv.blk)
    have hi := (List.getElem?_eq_some_iff.1 hx).1
    have := (blockOk_iff.1 hb).2.2.2.1 i hi
    rwa [(List.getElem?_eq_some_iff.1 hx).2] at this
  -- behind the leaf: an instruction with other numbers
  have hval : ∀ {i : Nat} {vals vals2 : List Int} {x : Inst}, instOk x (b0.params + i) = true → (∀ v, 0 ≤ v → v < b0.params + i → valAt vals2 (afterG b0 l ak v) = valAt vals v) → ∀ v ∈ uses x, valAt vals2 (afterG b0 l ak v) = valAt vals v := fun hxo hv v hvx => by
    have := belowB_iff.1 (instOk_below hxo) v hvx
    exact hv v this.1 this.2
  have hput : ∀ {i : Nat} {x : Inst}, ak < i → b0.ins[i]? = some x → (putB b0 l ak).ins[i - 1 + l.ins.length]? = some (mapInst (afterG b0 l ak) x) := fun {i x} hi hx => by
    have hlt := (List.getElem?_eq_some_iff.1 hx).1
    have := put_hi (leaf := l) hF.lt hi hlt
    rw [cnt_hi hi, (List.getElem?_eq_some_iff.1 hx).2] at this
    exact getD_get (by rw [put_length hF.lt, cnt_hi hF.lt]; omega) this
  have hputlo : ∀ {i : Nat} {x : Inst}, i < ak → b0.ins[i]? = some x → (putB b0 l ak).ins[i]? = some x := fun {i x} hi hx => by
    have := put_lo (leaf := l) hF.lt hi
    rw [(List.getElem?_eq_some_iff.1 hx).2] at this
    exact getD_get (by rw [put_length hF.lt, cnt_hi hF.lt]; have := hF.lt; omega) this
  constructor
  · intro f args hf hbl _
    refine ⟨rfl, .inl ⟨rfl, rfl, ?_⟩⟩
    unfold funcOf
    rw [findF_put h hok]
    by_cases e : f0.name = f.name
    · obtain rfl := name_uniq hok.fnodup hF.f0m hf e
      rw [if_pos rfl]
      exact .inr ⟨rfl, rfl, fun _ => Nat.zero_le _⟩
    · rw [if_neg e, findF_uniq hok hf]
      exact .inl rfl
  · intro w w2 f at' i vals f2 at2 i2 vals2 n b x hR hv hp hp2 hg hg2 hwr hx h14 hs
    have hs2 := hwr.lt hg hs
    have hxo := hins hv hx
    have hop := instOk_op hxo
    obtain ⟨c1, c2, c3⟩ := hg.gives hs inp x hp
    have same : ∀ b2, f2.blocks[at']? = some b2 → b2.ins[i]? = some x → at2 = at' → i2 = i → vals2 = vals → (∀ v2, PutR f0 bi b0 ak l f at' (i + 1) v2 f2 at' (i + 1) v2) →
        ∃ w2' i2' vals2', Good (putM m fi f0 bi b0 ak l) fuel w2' ∧ Pos vals2' ∧ WR (givesW m inp x vals (stepW fuel w)).1 w2' ∧ PutR f0 bi b0 ak l f at' (i + 1) (vals ++ [(givesW m inp x vals (stepW fuel w)).2]) f2 at2 i2' vals2' ∧ goF (putM m fi f0 bi b0 ak l) inp fuel deep w2 f2 at2 i2 vals2 n = goF (putM m fi f0 bi b0 ak l) inp fuel deep w2' f2 at2 i2' vals2' n := by
      rintro b2 hb2 hx2 rfl rfl rfl hnext
      obtain ⟨c1', c2', c3'⟩ := hg2.gives hs2 inp x hp2
      have hwr' := (hwr.step hs hs2).gives (m := m) (m2 := putM m fi f0 bi b0 ak l) rfl inp (x := x) (x2 := x) (vals := vals2) (vals2 := vals2) rfl rfl rfl (fun _ => rfl) (fun _ => rfl) ⟨hop.1, hop.2, h14⟩
      refine ⟨_, _, _, c1', Pos.snoc hp2 c2', hwr'.1, ?_, goF_plain hg2 hp2 hs2 hb2 hx2 h14⟩
      rw [hwr'.2]
      exact hnext _
    rcases putR_cases hR h hv with ⟨e1, e2, e3, e4, _, e6⟩ | ⟨e1, e2, e3, e4, e5, e6, e7, e8, e9, e10⟩ | ⟨e1, e2, e3, e4, e5, e6, e7, e8, e9⟩ | ⟨e1, e2, e3, e4, e5, e6, e7, e8, e9, e10⟩
    · exact same b e4 hx e1 e2 e3 e6
    · subst e7
      exact same _ e9 (hputlo e8 hx) e1 e2 e3 e10
    · subst e7
      rw [e8, h.hx] at hx
      injection hx with hx
      exact absurd (hx ▸ h.h14) h14
    · subst e1 e2 e3 e4 e5
      have hbel := hval hxo e9
      obtain ⟨c1', c2', c3'⟩ := hg2.gives hs2 inp (mapInst (afterG b l ak) x) hp2
      have hwr' := (hwr.step hs hs2).gives (m := m) (m2 := putM m fi f at2 b ak l) rfl inp (x := x) (x2 := mapInst (afterG b l ak) x) (vals := vals) (vals2 := vals2) rfl rfl rfl
        (fun h1 => by
          have : x.a ∈ uses x := by rw [isOne_iff] at h1; unfold uses; split <;> (try split) <;> simp_all
          simp only [mapInst, h1, if_true]
          exact hbel _ this)
        (fun h1 => by
          have : x.b ∈ uses x := by rw [isTwo_iff] at h1; unfold uses; rw [if_pos h1]; simp
          simp only [mapInst, h1, if_true]
          exact hbel _ this) ⟨hop.1, hop.2, h14⟩
      refine ⟨_, _, _, c1', Pos.snoc hp2 c2', hwr'.1, ?_, goF_plain hg2 hp2 hs2 e10 (e7 ▸ hput e6 hx) h14⟩
      rw [hwr'.2]
      exact putR_next hF.hP hF h e6 e7 hv.len e8 e9 _
  · intro w w2 f at' i vals f2 at2 i2 vals2 n b x hR hv hp hp2 hg hg2 hwr hx h14 hs hnd
    have hs2 := hwr.lt hg hs
    have hxo := hins hv hx
    rcases putR_cases hR h hv with ⟨e1, e2, e3, e4, _, e6⟩ | ⟨e1, e2, e3, e4, e5, e6, e7, e8, e9, e10⟩ | ⟨e1, e2, e3, e4, e5, e6, e7, e8, e9⟩ | ⟨e1, e2, e3, e4, e5, e6, e7, e8, e9, e10⟩
    · subst e1 e2 e3
      exact .inl ⟨b, x, e4, hx, h14, rfl, rfl, fun v _ => e6 _⟩
    · subst e1 e2 e3 e7
      exact .inl ⟨_, x, e9, hputlo e8 hx, h14, rfl, rfl, fun v _ => e10 _⟩
    · right
      subst e1 e2 e3 e4 e5 e6 e7 e8
      rw [h.hx] at hx
      injection hx with hx
      subst hx
      intro r hr hb
      rw [funcOf_of h.hg] at hr
      have hvl : (vals2.length : Int) = P + i2 := by have := hv.len; rw [hF.hP] at this; exact this
      have hl0 : 0 < l.ins.length ∨ l.ins.length = 0 := by omega
      obtain ⟨w2', c', k1, k2, k3, k4, k5, k6⟩ := leaf_run (inp := inp) (deep := deep) (n := n) hok h hF hvl hp2 l.ins.length 0 (by omega) _ w2 [] r ((hg.step hs).enter _) hg2 ((hwr.stepL hs).enterL _) rfl (fun v hv => by cases hv) (by rw [List.append_nil]; exact hr) hb
      refine ⟨w2', i2 + l.ins.length, vals2 ++ c', k1, fun v hv => ?_, k4, ⟨rfl, .inr ⟨rfl, rfl, rfl, by omega, by omega, ?_, fun v h0 hlt => ?_⟩⟩, ?_⟩
      · rcases List.mem_append.1 hv with hv | hv
        · exact hp2 v hv
        · exact k3 v hv
      · rw [List.length_append, k2, hF.hP]; omega
      · rw [hF.hP] at hlt
        unfold afterG afterNum
        rw [hF.hP, hF.hQ]
        by_cases h1 : v < (P : Int) + i2
        · rw [if_pos h1, valAt_lo h0 (by omega), valAt_lo h0 (by omega)]
        · have h2 : v = (P : Int) + i2 := by omega
          rw [if_neg h1, if_pos h2, valAt_last (by omega), k5]
          have hat : insAt b i2 = x0 := by unfold insAt; rw [show (i2 : Int).toNat = i2 from rfl, h.hx]; rfl
          have hta := hF.ta
          unfold inNum
          rw [hat]
          have hpl : (pickI vals2 x0.args).length = Q := by rw [pickI_length]; exact hF.len
          split
          · have hk : l.ta.toNat < x0.args.length := by have := hF.len; omega
            have hu0 : uses x0 = x0.args := by have := h.h14; unfold uses; rw [if_neg (by omega), if_neg (by omega), if_pos this]
            have ha := belowB_iff.1 (instOk_below hF.xOk) _ (by rw [hu0]; exact List.getElem_mem hk)
            rw [List.getElem?_eq_getElem hk]
            simp only [Option.getD_some]
            rw [valAt_lo ha.1 (by omega), valAt_lo hta.1 (by omega)]
            have := valAt_pick (vals := vals2) hk
            rw [Int.toNat_of_nonneg hta.1] at this
            exact this.symm
          · rw [valAt_hi (l.ta - Q).toNat (by omega), valAt_hi (l := pickI vals2 x0.args) (l.ta - Q).toNat (by omega)]
      · have := k6
        rw [List.append_nil, Nat.add_zero] at this
        exact this
    · subst e1 e2 e3 e4 e5
      have hbel := hval hxo e9
      have hu : uses x = x.args := by unfold uses; rw [if_neg (by omega), if_neg (by omega), if_pos h14]
      rw [hu] at hbel
      exact .inl ⟨_, mapInst (afterG b l ak) x, e10, e7 ▸ hput e6 hx, h14, rfl, pickI_map hbel, fun v _ => putR_next hF.hP hF h e6 e7 hv.len e8 e9 _⟩
  · intro w w2 f at' i vals f2 at2 i2 vals2 n b hR hv hp hp2 hg hg2 hwr hi hk3 hs
    have hs2 := hwr.lt hg hs
    rcases putR_cases hR h hv with ⟨e1, e2, e3, e4, _, e6⟩ | ⟨e1, e2, e3, e4, e5, e6, e7, e8, e9, e10⟩ | ⟨e1, e2, e3, e4, e5, e6, e7, e8, e9⟩ | ⟨e1, e2, e3, e4, e5, e6, e7, e8, e9, e10⟩
    · subst e1 e2 e3
      exact ⟨_, hg2.step hs2, hwr.step hs hs2, goF_ret hg2 hs2 e4 (by omega) hk3⟩
    · subst e7
      have := hF.lt
      omega
    · subst e7
      have := hF.lt
      omega
    · subst e1 e2 e3 e4 e5
      have hend := (blockOk_iff.1 hF.bOk).2.2.2.2
      refine ⟨_, hg2.step hs2, hwr.step hs hs2, ?_⟩
      rw [goF_ret hg2 hs2 e10 (by rw [put_length hF.lt, cnt_hi hF.lt]; omega) (by exact hk3)]
      have hta : 0 ≤ b.ta ∧ b.ta < b.params + b.ins.length := by
        rw [endB_iff] at hend
        rcases hend with ⟨h1, _⟩ | ⟨h1, _⟩ | ⟨_, h1, _⟩
        · omega
        · omega
        · exact h1
      rw [show (putB b l ak).ta = afterG b l ak b.ta from by simp [putB, hk3]]
      rw [e9 b.ta hta.1 (by rw [hi]; exact hta.2)]
  · intro w w2 f at' i vals f2 at2 i2 vals2 n b hR hv hp hp2 hg hg2 hwr hi hk3 hs to args hsel
    have hs2 := hwr.lt hg hs
    have hnext : ∀ (c2 : Block), f2.blocks[at']? = some c2 → c2.ins.length ≤ i2 → at2 = at' → c2.kind = b.kind → c2.to = b.to → c2.els = b.els → (b.kind = 2 → valAt vals2 c2.ta = valAt vals b.ta) → pickI vals2 c2.args = pickI vals b.args → pickI vals2 c2.elses = pickI vals b.elses →
        (∀ j v2, PutR f0 bi b0 ak l f j 0 v2 f2 j 0 v2) →
        ∃ w2' at2' vals2', Good (putM m fi f0 bi b0 ak l) fuel w2' ∧ Pos vals2' ∧ WR (stepW fuel w) w2' ∧ PutR f0 bi b0 ak l f to.toNat 0 (pickI vals args) f2 at2' 0 vals2' ∧ goF (putM m fi f0 bi b0 ak l) inp fuel deep w2 f2 at2 i2 vals2 n = goF (putM m fi f0 bi b0 ak l) inp fuel deep w2' f2 at2' 0 vals2' n := by
      intro c2 hb2 hle e1 q1 q2 q3 q4 q5 q6 hj
      subst e1
      refine ⟨stepW fuel w2, to.toNat, pickI vals args, hg2.step hs2, pickI_nonneg hp _, hwr.step hs hs2, hj _ _, ?_⟩
      by_cases hc : b.kind = 2 ∧ valAt vals b.ta = 0
      · rw [if_pos hc] at hsel
        obtain ⟨rfl, rfl⟩ := hsel
        rw [goF_else hg2 hp2 hs2 hb2 hle (by omega) ⟨by omega, by rw [q4 hc.1]; exact hc.2⟩, q3, q6]
      · rw [if_neg hc] at hsel
        obtain ⟨rfl, rfl⟩ := hsel
        rw [goF_to hg2 hp2 hs2 hb2 hle (by omega) (fun hc' => hc ⟨by omega, by rw [← q4 (by omega)]; exact hc'.2⟩), q2, q5]
    rcases putR_cases hR h hv with ⟨e1, e2, e3, e4, e5, e6⟩ | ⟨e1, e2, e3, e4, e5, e6, e7, e8, e9, e10⟩ | ⟨e1, e2, e3, e4, e5, e6, e7, e8, e9⟩ | ⟨e1, e2, e3, e4, e5, e6, e7, e8, e9, e10⟩
    · subst e2 e3
      exact hnext b e4 (by omega) e1 rfl rfl rfl (fun _ => rfl) rfl rfl e5
    · subst e7
      have := hF.lt
      omega
    · subst e7
      have := hF.lt
      omega
    · subst e5
      have hend := (blockOk_iff.1 hF.bOk).2.2.2.2
      have hmap : ∀ q : List Int, (∀ v ∈ q, 0 ≤ v ∧ v < b.params + b.ins.length) → pickI vals2 (q.map (afterG b l ak)) = pickI vals q := fun q hq => pickI_map fun v hv' => e9 v (hq v hv').1 (by rw [hi]; exact (hq v hv').2)
      have hargs : (∀ v ∈ b.args, 0 ≤ v ∧ v < b.params + b.ins.length) ∧ (∀ v ∈ b.elses, 0 ≤ v ∧ v < b.params + b.ins.length) ∧ (b.kind = 2 → 0 ≤ b.ta ∧ b.ta < b.params + b.ins.length) := by
        rw [endB_iff] at hend
        rcases hend with ⟨h1, h2, _, _, h5⟩ | ⟨h1, h2, h3, h4⟩ | ⟨h1, _⟩
        · exact ⟨(goesB_iff.1 h2).2.2, fun v hv' => (by rw [h5] at hv'; cases hv'), fun h => by omega⟩
        · exact ⟨(goesB_iff.1 h3).2.2, (goesB_iff.1 h4).2.2, fun _ => h2⟩
        · exact absurd h1 hk3
      refine hnext (putB b l ak) e10 (by rw [put_length hF.lt, cnt_hi hF.lt]; omega) e1 rfl rfl rfl (fun hk2 => ?_) (hmap _ hargs.1) (hmap _ hargs.2.1) (fun j v2 => ⟨rfl, .inl ⟨rfl, rfl, .inr ⟨e2, e3, fun _ => Nat.zero_le _⟩⟩⟩)
      rw [show (putB b l ak).ta = afterG b l ak b.ta from by simp [putB, hk2]]
      exact e9 b.ta (hargs.2.2 hk2).1 (by rw [hi]; exact (hargs.2.2 hk2).2)

theorem put_runs (hw : wholeE m = 0) (h : OnePut m fi f0 bi b0 ak x0 g0 l) : RunRel m (putM m fi f0 bi b0 ak l) :=
  SimOk.run (R := fun _ _ _ => PutR f0 bi b0 ak l) (fun _ _ _ => putR_ok (wholeE_zero.1 hw).1 h) hw rfl

end

end Go.Proofs.Ytndpejmebhcaaaa
