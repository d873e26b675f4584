/- Plain laws of layer 14: one block put in the place of one call: the module stays right. -/
import Derived.Test.YtndpejmebhcaaaaP1
import Derived.Test.YtndpejmebhcaaaaNumQ
namespace Go.Proofs.Ytndpejmebhcaaaa
open Go.RowKit

theorem belowB_iff {l : List Int} {n : Int} : belowB l n = true ↔ ∀ v ∈ l, 0 ≤ v ∧ v < n := by
  unfold belowB
  rw [List.all_eq_true]
  exact ⟨fun h v hv => by simpa using h v hv, fun h v hv => by simpa using h v hv⟩

theorem uses_map (g : Int → Int) (x : Inst) : uses (mapInst g x) = (uses x).map g := by
  unfold uses mapInst
  simp only
  split
  · rename_i h
    rw [if_pos ((isOne_iff _).2 (.inl h)), if_pos ((isTwo_iff _).2 h)]
    rfl
  · split
    · rename_i h
      rw [if_pos ((isOne_iff _).2 (.inr h))]
      rfl
    · split
      · rfl
      · rfl
theorem mapInst_ok {x : Inst} {n n' : Int} {g : Int → Int} (h : instOk x n = true) (hg : ∀ v, 0 ≤ v → v < n → 0 ≤ g v ∧ g v < n') : instOk (mapInst g x) n' = true := by
  unfold instOk at h ⊢
  simp only [Bool.and_eq_true, decide_eq_true_eq] at h ⊢
  obtain ⟨⟨⟨⟨⟨⟨⟨⟨h1, h2⟩, hb⟩, hA⟩, hB⟩, hK⟩, hN⟩, h6⟩, hNm⟩ := h
  refine ⟨⟨⟨⟨⟨⟨⟨⟨h1, h2⟩, ?_⟩, ?_⟩, ?_⟩, hK⟩, ?_⟩, ?_⟩, hNm⟩
  · rw [uses_map, belowB_iff]
    intro v hv
    obtain ⟨u, hu, rfl⟩ := List.mem_map.1 hv
    have := belowB_iff.1 hb u hu
    exact hg u this.1 this.2
  · cases h1 : isOne x.op
    · simpa [mapInst, h1] using hA
    · simp [mapInst, h1]
  · cases h1 : isTwo x.op
    · simpa [mapInst, h1] using hB
    · simp [mapInst, h1]
  · simpa [mapInst] using hN
  · simpa [mapInst] using h6

theorem goesB_iff {f : Func} {to : Int} {l : List Int} {n : Int} : goesB f to l n = true ↔ 0 ≤ to ∧ (∃ b, f.blocks[to.toNat]? = some b ∧ (l.length : Int) = b.params) ∧ ∀ v ∈ l, 0 ≤ v ∧ v < n := by
  constructor
  · intro h
    obtain ⟨h1, h2, h3⟩ := goesB_parts h
    have hlt : to.toNat < f.blocks.length := by omega
    rw [List.getElem?_eq_getElem hlt] at h3
    exact ⟨h1, ⟨_, List.getElem?_eq_getElem hlt, h3⟩, belowB_iff.1 (goesB_belowB h)⟩
  · rintro ⟨h1, ⟨b, h2, h3⟩, h4⟩
    have hlt := (List.getElem?_eq_some_iff.1 h2).1
    rw [goesB_in h1 (by omega) (by rw [h2]; exact h3)]
    exact belowB_iff.2 h4

/-- The blocks are handed as many values. -/
def SameParams (f f' : Func) : Prop := f'.blocks.length = f.blocks.length ∧ ∀ (k : Nat) (b : Block), f.blocks[k]? = some b → ∃ b' : Block, f'.blocks[k]? = some b' ∧ b'.params = b.params

theorem goesB_same {f f' : Func} (hs : SameParams f f') {to : Int} {l l' : List Int} {n n' : Int} (h : goesB f to l n = true) (hl : l'.length = l.length) (hb : (∀ v ∈ l, 0 ≤ v ∧ v < n) → ∀ v ∈ l', 0 ≤ v ∧ v < n') : goesB f' to l' n' = true := by
  obtain ⟨h1, ⟨b, h2, h3⟩, h4⟩ := goesB_iff.1 h
  obtain ⟨b', h5, h6⟩ := hs.2 _ b h2
  exact goesB_iff.2 ⟨h1, ⟨b', h5, by rw [h6, hl]; exact h3⟩, hb h4⟩

theorem endB_iff {f : Func} {b : Block} : endB f b = true ↔
    (b.kind = 1 ∧ goesB f b.to b.args (b.params + b.ins.length) = true ∧ b.ta = 0 ∧ b.els = 0 ∧ b.elses = []) ∨
    (b.kind = 2 ∧ (0 ≤ b.ta ∧ b.ta < b.params + b.ins.length) ∧ goesB f b.to b.args (b.params + b.ins.length) = true ∧ goesB f b.els b.elses (b.params + b.ins.length) = true) ∨
    (b.kind = 3 ∧ (0 ≤ b.ta ∧ b.ta < b.params + b.ins.length) ∧ b.to = 0 ∧ b.args = [] ∧ b.els = 0 ∧ b.elses = []) := by
  by_cases k1 : b.kind = 1
  · rw [endB_jump k1]
    simp [k1, and_assoc]
  · by_cases k2 : b.kind = 2
    · rw [endB_if k2]
      simp [k2, and_assoc]
    · rw [endB_other k1 k2]
      simp [k1, k2, and_assoc]

theorem blockOk_iff {f : Func} {b : Block} : blockOk f b = true ↔ 0 ≤ b.params ∧ b.params ≤ 6 ∧ b.ins.length ≤ 32 ∧ (∀ k (hk : k < b.ins.length), instOk b.ins[k] (b.params + k) = true) ∧ endB f b = true := by
  refine ⟨blockOk_parts, fun ⟨h0, h6, h32, hi, he⟩ => ?_⟩
  rw [blockOk_end h0 h6 h32 hi]
  exact he

theorem blockOk_same {f f' : Func} (hs : SameParams f f') {b : Block} (h : blockOk f b = true) : blockOk f' b = true := by
  rw [blockOk_iff] at h ⊢
  obtain ⟨h0, h6, h32, hi, he⟩ := h
  refine ⟨h0, h6, h32, hi, ?_⟩
  rw [endB_iff] at he ⊢
  rcases he with ⟨e1, e2, e3⟩ | ⟨e1, e2, e3, e4⟩ | he
  · exact .inl ⟨e1, goesB_same hs e2 rfl id, e3⟩
  · exact .inr (.inl ⟨e1, e2, goesB_same hs e3 rfl id, goesB_same hs e4 rfl id⟩)
  · exact .inr (.inr he)

/-- A block whose instructions are others, its end's values numbered anew. -/
theorem end_map {f f' : Func} (hs : SameParams f f') {b b' : Block} {g : Int → Int} (h : endB f b = true) (hk : b'.kind = b.kind) (hto : b'.to = b.to) (hels : b'.els = b.els) (hta : b'.ta = if b.kind = 1 then b.ta else g b.ta)
    (ha : b'.args = b.args.map g) (he : b'.elses = b.elses.map g) (hg : ∀ v, 0 ≤ v → v < b.params + b.ins.length → 0 ≤ g v ∧ g v < b'.params + b'.ins.length) : endB f' b' = true := by
  have hmap : ∀ l : List Int, (∀ v ∈ l, 0 ≤ v ∧ v < b.params + b.ins.length) → ∀ v ∈ l.map g, 0 ≤ v ∧ v < b'.params + b'.ins.length := fun l hl v hv => by
    obtain ⟨u, hu, rfl⟩ := List.mem_map.1 hv
    exact hg u (hl u hu).1 (hl u hu).2
  rw [endB_iff] at h ⊢
  rw [hk, hto, hels, hta, ha, he]
  rcases h with ⟨e1, e2, e3, e4, e5⟩ | ⟨e1, e2, e3, e4⟩ | ⟨e1, e2, e3, e4, e5, e6⟩
  · exact .inl ⟨e1, goesB_same hs e2 (by simp) (hmap _), by rw [if_pos e1]; exact e3, e4, by rw [e5]; rfl⟩
  · exact .inr (.inl ⟨e1, by rw [if_neg (by omega)]; exact hg _ e2.1 e2.2, goesB_same hs e3 (by simp) (hmap _), goesB_same hs e4 (by simp) (hmap _)⟩)
  · exact .inr (.inr ⟨e1, by rw [if_neg (by omega)]; exact hg _ e2.1 e2.2, e3, by rw [e4]; rfl, e5, by rw [e6]; rfl⟩)

section
variable {f f' : Func} {b l : Block} {ak P Q : Nat} {x : Inst}

theorem in_bound (hP : b.params = (P : Int)) (hQ : l.params = (Q : Int)) (hx : b.ins[ak]? = some x) (hxo : instOk x (P + ak) = true) (h14 : x.op = 14) (hlen : x.args.length = Q) {j : Nat} {v : Int} (h0 : 0 ≤ v) (hv : v < Q + j) : 0 ≤ inG b l ak v ∧ inG b l ak v < P + ak + j := by
  have hat : insAt b ak = x := by unfold insAt; rw [show (ak : Int).toNat = ak from rfl, hx]; rfl
  unfold inG inNum
  rw [hat, hP, hQ]
  split
  · rename_i h
    have hlt : v.toNat < x.args.length := by omega
    have hu : uses x = x.args := by unfold uses; rw [if_neg (by omega), if_neg (by omega), if_pos h14]
    have := belowB_iff.1 (instOk_below hxo) x.args[v.toNat] (by rw [hu]; exact List.getElem_mem hlt)
    rw [List.getElem?_eq_getElem hlt]
    simp only [Option.getD_some]
    omega
  · omega
theorem after_bound (hP : b.params = (P : Int)) (hQ : l.params = (Q : Int)) (hx : b.ins[ak]? = some x) (hxo : instOk x (P + ak) = true) (h14 : x.op = 14) (hlen : x.args.length = Q) (hta : 0 ≤ l.ta ∧ l.ta < Q + l.ins.length) {i : Nat} (hi : ak < i) {v : Int} (h0 : 0 ≤ v) (hv : v < P + i) :
    0 ≤ afterG b l ak v ∧ afterG b l ak v < P + ((i - 1 + l.ins.length : Nat) : Int) := by
  unfold afterG afterNum
  split
  · omega
  · split
    · have := in_bound (j := l.ins.length) hP hQ hx hxo h14 hlen hta.1 hta.2
      unfold inG at this
      rw [hP] at this ⊢
      omega
    · rw [hP] at *; omega

/-- A block with a leaf in the place of a call is right. -/
theorem putB_ok (hs : SameParams f f') (hb : blockOk f b = true) {g : Func} (hl : blockOk g l = true) (hk3 : l.kind = 3) (hP : b.params = (P : Int)) (hQ : l.params = (Q : Int)) (hx : b.ins[ak]? = some x) (h14 : x.op = 14) (hlen : x.args.length = Q) (h32 : b.ins.length - 1 + l.ins.length ≤ 32) :
    blockOk f' (putB b l ak) = true := by
  obtain ⟨h0, h6, _, hi, he⟩ := blockOk_iff.1 hb
  obtain ⟨l0, l6, _, li, le⟩ := blockOk_iff.1 hl
  have hak : ak < b.ins.length := (List.getElem?_eq_some_iff.1 hx).1
  have hxo : instOk x (P + ak) = true := by
    have := hi ak hak
    rw [(List.getElem?_eq_some_iff.1 hx).2, hP] at this
    exact this
  have hta : 0 ≤ l.ta ∧ l.ta < Q + l.ins.length := by
    rw [endB_iff] at le
    rw [← hQ]
    rcases le with ⟨e, _⟩ | ⟨e, _⟩ | ⟨_, e, _⟩
    · omega
    · omega
    · exact e
  have hL : (putB b l ak).ins.length = b.ins.length - 1 + l.ins.length := by rw [put_length hak, cnt_hi hak]
  have hat : ∀ {k : Nat} (hk : k < (putB b l ak).ins.length) {y : Inst}, (putB b l ak).ins[k]?.getD default = y → (putB b l ak).ins[k] = y := fun {k} hk {y} h => by rw [List.getElem?_eq_getElem hk] at h; exact h
  refine blockOk_iff.2 ⟨h0, h6, by omega, fun k hk => ?_, ?_⟩
  · have hp : (putB b l ak).params = b.params := rfl
    rw [hp]
    by_cases h1 : k < ak
    · rw [hat hk (put_lo hak h1)]
      exact hi k (by omega)
    · by_cases h2 : k < ak + l.ins.length
      · obtain ⟨j, rfl⟩ : ∃ j, k = ak + j := ⟨k - ak, by omega⟩
        have hj : j < l.ins.length := by omega
        rw [hat hk (put_leaf hak hj)]
        have := li j hj
        rw [hQ] at this
        refine mapInst_ok this fun v h0 hv => ?_
        have := in_bound (b := b) (j := j) hP hQ hx hxo h14 hlen h0 hv
        rw [hP]; omega
      · obtain ⟨i, hi1, hi2, hik⟩ : ∃ i, ak < i ∧ i < b.ins.length ∧ k = i - 1 + l.ins.length := ⟨k + 1 - l.ins.length, by omega, by omega, by omega⟩
        have hc : cntF ak l.ins.length i = k := by rw [cnt_hi hi1, hik]
        have := put_hi (leaf := l) hak hi1 hi2
        rw [hc] at this
        rw [hat hk this]
        have hio := hi i hi2
        rw [hP] at hio ⊢
        refine mapInst_ok hio fun v h0 hv => ?_
        have := after_bound hP hQ hx hxo h14 hlen hta hi1 h0 hv
        omega
  · refine end_map (g := afterG b l ak) hs he rfl rfl rfl rfl rfl rfl fun v h0 hv => ?_
    have := after_bound hP hQ hx hxo h14 hlen hta hak h0 (by rw [hP] at hv; exact hv)
    rw [hL]
    rw [show (putB b l ak).params = b.params from rfl, hP]
    exact this
end

theorem funcOk_new {f f' : Func} (hf : funcOk f = true) (hn : f'.name = f.name) (hb : f'.bind = f.bind) (hp : f'.params = f.params) (h16 : f'.blocks.length ≤ 16) {b : Block} (h0 : f'.blocks[0]? = some b) (hbp : b.params = f.params) (hall : f'.blocks.all (blockOk f') = true) : funcOk f' = true := by
  unfold funcOk at hf ⊢
  simp only [Bool.and_eq_true, decide_eq_true_eq] at hf
  obtain ⟨⟨⟨⟨⟨⟨h1, h2⟩, h3⟩, h4⟩, h5⟩, _⟩, _⟩ := hf
  rw [hn, hb, hp, h1, decide_eq_true h2, decide_eq_true h3, decide_eq_true h4, decide_eq_true h5, decide_eq_true h16]
  cases hbl : f'.blocks with
  | nil => rw [hbl] at h0; cases h0
  | cons c r =>
    rw [hbl] at h0 hall
    simp only [List.getElem?_cons_zero] at h0
    injection h0 with h0
    subst h0
    simp only [Bool.true_and, Bool.and_eq_true, beq_iff_eq]
    exact ⟨hbp, hall⟩
theorem funcOk_with {f f' : Func} (hf : funcOk f = true) (hs : SameParams f f') (hall : f'.blocks.all (blockOk f') = true) (hn : f'.name = f.name) (hb : f'.bind = f.bind) (hp : f'.params = f.params) (hl : 0 < f.blocks.length) : funcOk f' = true := by
  obtain ⟨b', h1, h2⟩ := hs.2 0 _ (List.getElem?_eq_getElem hl)
  exact funcOk_new hf hn hb hp (by rw [hs.1]; exact funcOk_len hf) h1 (h2.trans (funcOk_first hf hl)) hall

end Go.Proofs.Ytndpejmebhcaaaa
