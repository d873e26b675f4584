/- Texts of one kind, one behind the other (merged by program; the bodies of functions are printed by program). -/
import Derived.Test.YtgadlpdbkohlbaaGreatPQE
import Derived.Shelf.SlicesE.DeleteFunc
namespace Go.Proofs.YtgadlpdbkohlbaaGreat
def cntF (ak ln i : Nat) : Nat := if i ≤ ak then i else i - 1 + ln
theorem cnt_hi {ak ln i : Nat} (h : ak < i) : cntF ak ln i = i - 1 + ln := if_neg (by omega)
section
variable {b leaf : Block} {ak P : Nat}
theorem put_length (hk : ak < b.ins.length) : (putB b leaf ak).ins.length = cntF ak leaf.ins.length b.ins.length := by
 rw [cnt_hi hk]
 simp [putB]
 omega
theorem put_lo (hk : ak < b.ins.length) {i : Nat} (h : i < ak) : (putB b leaf ak).ins[i]?.getD default = b.ins[i] := by
 have h1 : i < b.ins.length := by omega
 simp only [putB]
 rw [show (ak : Int).toNat = ak from rfl, List.append_assoc, List.getElem?_append_left (by simp; omega), List.getElem?_take_of_lt h, List.getElem?_eq_getElem h1]
 rfl
theorem put_hi (hk : ak < b.ins.length) {i : Nat} (h : ak < i) (hi : i < b.ins.length) : (putB b leaf ak).ins[cntF ak leaf.ins.length i]?.getD default = mapInst (afterG b leaf ak) b.ins[i] := by
 rw [cnt_hi h]
 simp only [putB]
 rw [show (ak : Int).toNat = ak from rfl, List.getElem?_append_right (by simp; omega)]
 simp only [List.length_append, List.length_take, List.length_map, List.getElem?_map, List.getElem?_drop]
 rw [show ak + 1 + (i - 1 + leaf.ins.length - (min ak b.ins.length + leaf.ins.length)) = i by omega, List.getElem?_eq_getElem hi]
 rfl
theorem put_leaf (hk : ak < b.ins.length) {j : Nat} (h : j < leaf.ins.length) : (putB b leaf ak).ins[ak + j]?.getD default = mapInst (inG b leaf ak) leaf.ins[j] := by
 simp only [putB]
 rw [show (ak : Int).toNat = ak from rfl, List.append_assoc, List.getElem?_append_right (by simp; omega), List.getElem?_append_left (by simp; omega)]
 simp only [List.length_take, List.getElem?_map]
 rw [show ak + j - min ak b.ins.length = j by omega, List.getElem?_eq_getElem h]
 rfl
end
end Go.Proofs.YtgadlpdbkohlbaaGreat
namespace Go.Proofs.YtgadlpdbkohlbaaGreat
theorem belowB_in {l : List Int} {n : Int} (h : belowB l n = true) : AllIn (upTo n) l := by
 intro k hk
 unfold belowB at h
 rw [List.all_eq_true] at h
 have := h _ (List.getElem_mem hk)
 simpa [upTo] using this
theorem instOk_in {i : Inst} {n : Int} (h : instOk i n = true) : InstIn (upTo n) i ∧ i.args.length ≤ 6 := by
 unfold instOk at h
 simp only [Bool.and_eq_true, decide_eq_true_eq] at h
 obtain ⟨⟨⟨⟨⟨⟨⟨⟨h1, h2⟩, hb⟩, hA⟩, hB⟩, hK⟩, hN⟩, h6⟩, hNm⟩ := h
 have hb := belowB_in hb
 refine ⟨⟨fun e => ?_, fun e => ?_, ?_⟩, h6⟩
 ·rw [isOne_iff] at e
  by_cases h2 : 2 ≤ i.op ∧ i.op ≤ 11
  ·have := hb 0 (by unfold uses; rw [if_pos h2]; simp)
   simpa [uses, h2] using this
  ·have h3 : i.op = 13 ∨ i.op = 16 := by omega
   have e : uses i = [i.a] := by unfold uses; rw [if_neg h2, if_pos h3]
   rw [e] at hb
   exact hb 0 (by simp)
 ·rw [isTwo_iff] at e
  have := hb 1 (by unfold uses; rw [if_pos e]; simp)
  simpa [uses, e] using this
 ·by_cases h14 : i.op = 14
  ·have : uses i = i.args := by unfold uses; rw [if_neg (by omega), if_neg (by omega), if_pos h14]
   rw [this] at hb
   exact hb
  ·have : i.args.length = 0 := by simpa [h14] using hN
   intro k hk
   omega
theorem goesB_facts {f : Func} {to : Int} {args : List Int} {n : Int} (hf : ∀ b ∈ f.blocks, b.params ≤ 6) (h : goesB f to args n = true) : AllIn (upTo n) args ∧ args.length ≤ 6 := by
  unfold goesB at h
  simp only [Bool.and_eq_true, decide_eq_true_eq] at h
  obtain ⟨⟨h0, h1⟩, h2⟩ := h
  refine ⟨belowB_in h2, ?_⟩
  cases hb : f.blocks[to.toNat]? with
  | none => rw [hb] at h1; cases h1
  | some b =>
    rw [hb] at h1
    have := hf b (List.mem_of_getElem? hb)
    simp at h1
    omega
theorem all_nil {d : Int → Prop} {l : List Int} (h : l.length = 0) : AllIn d l := fun k hk => by omega
theorem blockOk_nums {f : Func} {b : Block} (hf : ∀ b ∈ f.blocks, b.params ≤ 6) (h : blockOk f b = true) : NumsOk b ∧ b.args.length ≤ 6 ∧ b.elses.length ≤ 6 := by
 unfold blockOk at h
 simp only [Bool.and_eq_true, decide_eq_true_eq] at h
 obtain ⟨⟨⟨⟨h1, h2⟩, h3⟩, h4⟩, h5⟩ := h
 rw [insFrom_iff] at h4
 have hends : (¬ b.kind = 1 → upTo (b.params + b.ins.length) b.ta) ∧ (AllIn (upTo (b.params + b.ins.length)) b.args ∧ b.args.length ≤ 6) ∧ (AllIn (upTo (b.params + b.ins.length)) b.elses ∧ b.elses.length ≤ 6) := by
  by_cases k1 : b.kind = 1
  ·rw [endB_jump k1] at h5
   simp only [Bool.and_eq_true, beq_iff_eq] at h5
   obtain ⟨⟨⟨g1, g2⟩, g3⟩, g4⟩ := h5
   exact ⟨fun h => absurd k1 h, goesB_facts hf g1, all_nil g4, by omega⟩
  ·by_cases k2 : b.kind = 2
   ·rw [endB_if k2] at h5
    simp only [Bool.and_eq_true, decide_eq_true_eq] at h5
    obtain ⟨⟨g1, g2⟩, g3⟩ := h5
    exact ⟨fun _ => g1, goesB_facts hf g2, goesB_facts hf g3⟩
   ·rw [endB_other k1 k2] at h5
    simp only [Bool.and_eq_true, beq_iff_eq, decide_eq_true_eq] at h5
    obtain ⟨⟨⟨⟨⟨g0, g1⟩, g2⟩, g3⟩, g4⟩, g5⟩ := h5
    exact ⟨fun _ => g1, ⟨all_nil g3, by omega⟩, all_nil g5, by omega⟩
 obtain ⟨e1, ⟨e2, e3⟩, e4, e5⟩ := hends
 exact ⟨⟨h1, h2, h3, fun k hk => (instOk_in (h4 k hk)).1, fun k hk => (instOk_in (h4 k hk)).2, e1, e2, e4, by omega, by omega⟩, e3, e5⟩
theorem funcOk_blocks {f : Func} (h : funcOk f = true) : ∀ b ∈ f.blocks, blockOk f b = true := by
  unfold funcOk at h
  simp only [Bool.and_eq_true] at h
  obtain ⟨_, h⟩ := h
  intro b hb
  cases hbl : f.blocks with
  | nil => rw [hbl] at hb; cases hb
  | cons b0 r =>
    rw [hbl] at h
    simp only [Bool.and_eq_true, List.all_eq_true] at h
    exact h.2 b (hbl ▸ hb)
end Go.Proofs.YtgadlpdbkohlbaaGreat
namespace Go.Proofs.YtgadlpdbkohlbaaGreat
open Go.RowKit
theorem belowB_iff {l : List Int} {n : Int} : belowB l n = true ↔ ∀ v ∈ l, 0 ≤ v ∧ v < n := by
 unfold belowB
 rw [List.all_eq_true]
 exact ⟨fun h v hv => by simpa using h v hv, fun h v hv => by simpa using h v hv⟩
theorem uses_map (g : Int → Int) (x : Inst) : uses (mapInst g x) = (uses x).map g := by
 unfold uses mapInst
 simp only
 split
 ·rename_i h
  rw [if_pos ((isOne_iff _).2 (.inl h)), if_pos ((isTwo_iff _).2 h)]
  rfl
 ·split
  ·rename_i h
   rw [if_pos ((isOne_iff _).2 (.inr h))]
   rfl
  ·split
   ·rfl
   ·rfl
theorem mapInst_ok {x : Inst} {n n' : Int} {g : Int → Int} (h : instOk x n = true) (hg : ∀ v, 0 ≤ v → v < n → 0 ≤ g v ∧ g v < n') : instOk (mapInst g x) n' = true := by
 unfold instOk at h ⊢
 simp only [Bool.and_eq_true, decide_eq_true_eq] at h ⊢
 obtain ⟨⟨⟨⟨⟨⟨⟨⟨h1, h2⟩, hb⟩, hA⟩, hB⟩, hK⟩, hN⟩, h6⟩, hNm⟩ := h
 refine ⟨⟨⟨⟨⟨⟨⟨⟨h1, h2⟩, ?_⟩, ?_⟩, ?_⟩, hK⟩, ?_⟩, ?_⟩, hNm⟩
 ·rw [uses_map, belowB_iff]
  intro v hv
  obtain ⟨u, hu, rfl⟩ := List.mem_map.1 hv
  have := belowB_iff.1 hb u hu
  exact hg u this.1 this.2
 ·cases h1 : isOne x.op
  ·simpa [mapInst, h1] using hA
  ·simp [mapInst, h1]
 ·cases h1 : isTwo x.op
  ·simpa [mapInst, h1] using hB
  ·simp [mapInst, h1]
 ·simpa [mapInst] using hN
 ·simpa [mapInst] using h6
theorem goesB_iff {f : Func} {to : Int} {l : List Int} {n : Int} : goesB f to l n = true ↔ 0 ≤ to ∧ (∃ b, f.blocks[to.toNat]? = some b ∧ (l.length : Int) = b.params) ∧ ∀ v ∈ l, 0 ≤ v ∧ v < n := by
 constructor
 ·intro h
  obtain ⟨h1, h2, h3⟩ := goesB_parts h
  have hlt : to.toNat < f.blocks.length := by omega
  rw [List.getElem?_eq_getElem hlt] at h3
  exact ⟨h1, ⟨_, List.getElem?_eq_getElem hlt, h3⟩, belowB_iff.1 (goesB_belowB h)⟩
 ·rintro ⟨h1, ⟨b, h2, h3⟩, h4⟩
  have hlt := (List.getElem?_eq_some_iff.1 h2).1
  rw [goesB_in h1 (by omega) (by rw [h2]; exact h3)]
  exact belowB_iff.2 h4
def SameParams (f f' : Func) : Prop := f'.blocks.length = f.blocks.length ∧ ∀ (k : Nat) (b : Block), f.blocks[k]? = some b → ∃ b' : Block, f'.blocks[k]? = some b' ∧ b'.params = b.params
theorem goesB_same {f f' : Func} (hs : SameParams f f') {to : Int} {l l' : List Int} {n n' : Int} (h : goesB f to l n = true) (hl : l'.length = l.length) (hb : (∀ v ∈ l, 0 ≤ v ∧ v < n) → ∀ v ∈ l', 0 ≤ v ∧ v < n') : goesB f' to l' n' = true := by
 obtain ⟨h1, ⟨b, h2, h3⟩, h4⟩ := goesB_iff.1 h
 obtain ⟨b', h5, h6⟩ := hs.2 _ b h2
 exact goesB_iff.2 ⟨h1, ⟨b', h5, by rw [h6, hl]; exact h3⟩, hb h4⟩
theorem endB_iff {f : Func} {b : Block} : endB f b = true ↔
  (b.kind = 1 ∧ goesB f b.to b.args (b.params + b.ins.length) = true ∧ b.ta = 0 ∧ b.els = 0 ∧ b.elses = []) ∨
  (b.kind = 2 ∧ (0 ≤ b.ta ∧ b.ta < b.params + b.ins.length) ∧ goesB f b.to b.args (b.params + b.ins.length) = true ∧ goesB f b.els b.elses (b.params + b.ins.length) = true) ∨
  (b.kind = 3 ∧ (0 ≤ b.ta ∧ b.ta < b.params + b.ins.length) ∧ b.to = 0 ∧ b.args = [] ∧ b.els = 0 ∧ b.elses = []) := by
 by_cases k1 : b.kind = 1
 ·rw [endB_jump k1]
  simp [k1, and_assoc]
 ·by_cases k2 : b.kind = 2
  ·rw [endB_if k2]
   simp [k2, and_assoc]
  ·rw [endB_other k1 k2]
   simp [k1, k2, and_assoc]
theorem blockOk_iff {f : Func} {b : Block} : blockOk f b = true ↔ 0 ≤ b.params ∧ b.params ≤ 6 ∧ b.ins.length ≤ 32 ∧ (∀ k (hk : k < b.ins.length), instOk b.ins[k] (b.params + k) = true) ∧ endB f b = true := by
 refine ⟨blockOk_parts, fun ⟨h0, h6, h32, hi, he⟩ => ?_⟩
 rw [blockOk_end h0 h6 h32 hi]
 exact he
theorem blockOk_same {f f' : Func} (hs : SameParams f f') {b : Block} (h : blockOk f b = true) : blockOk f' b = true := by
 rw [blockOk_iff] at h ⊢
 obtain ⟨h0, h6, h32, hi, he⟩ := h
 refine ⟨h0, h6, h32, hi, ?_⟩
 rw [endB_iff] at he ⊢
 rcases he with ⟨e1, e2, e3⟩ | ⟨e1, e2, e3, e4⟩ | he
 ·exact .inl ⟨e1, goesB_same hs e2 rfl id, e3⟩
 ·exact .inr (.inl ⟨e1, e2, goesB_same hs e3 rfl id, goesB_same hs e4 rfl id⟩)
 ·exact .inr (.inr he)
theorem end_map {f f' : Func} (hs : SameParams f f') {b b' : Block} {g : Int → Int} (h : endB f b = true) (hk : b'.kind = b.kind) (hto : b'.to = b.to) (hels : b'.els = b.els) (hta : b'.ta = if b.kind = 1 then b.ta else g b.ta)
  (ha : b'.args = b.args.map g) (he : b'.elses = b.elses.map g) (hg : ∀ v, 0 ≤ v → v < b.params + b.ins.length → 0 ≤ g v ∧ g v < b'.params + b'.ins.length) : endB f' b' = true := by
 have hmap : ∀ l : List Int, (∀ v ∈ l, 0 ≤ v ∧ v < b.params + b.ins.length) → ∀ v ∈ l.map g, 0 ≤ v ∧ v < b'.params + b'.ins.length := fun l hl v hv => by
  obtain ⟨u, hu, rfl⟩ := List.mem_map.1 hv
  exact hg u (hl u hu).1 (hl u hu).2
 rw [endB_iff] at h ⊢
 rw [hk, hto, hels, hta, ha, he]
 rcases h with ⟨e1, e2, e3, e4, e5⟩ | ⟨e1, e2, e3, e4⟩ | ⟨e1, e2, e3, e4, e5, e6⟩
 ·exact .inl ⟨e1, goesB_same hs e2 (by simp) (hmap _), by rw [if_pos e1]; exact e3, e4, by rw [e5]; rfl⟩
 ·exact .inr (.inl ⟨e1, by rw [if_neg (by omega)]; exact hg _ e2.1 e2.2, goesB_same hs e3 (by simp) (hmap _), goesB_same hs e4 (by simp) (hmap _)⟩)
 ·exact .inr (.inr ⟨e1, by rw [if_neg (by omega)]; exact hg _ e2.1 e2.2, e3, by rw [e4]; rfl, e5, by rw [e6]; rfl⟩)
section
variable {f f' : Func} {b l : Block} {ak P Q : Nat} {x : Inst}
theorem in_bound (hP : b.params = (P : Int)) (hQ : l.params = (Q : Int)) (hx : b.ins[ak]? = some x) (hxo : instOk x (P + ak) = true) (h14 : x.op = 14) (hlen : x.args.length = Q) {j : Nat} {v : Int} (h0 : 0 ≤ v) (hv : v < Q + j) : 0 ≤ inG b l ak v ∧ inG b l ak v < P + ak + j := by
 have hat : insAt b ak = x := by unfold insAt; rw [show (ak : Int).toNat = ak from rfl, hx]; rfl
 unfold inG inNum
 rw [hat, hP, hQ]
 split
 ·rename_i h
  have hlt : v.toNat < x.args.length := by omega
  have hu : uses x = x.args := by unfold uses; rw [if_neg (by omega), if_neg (by omega), if_pos h14]
  have := belowB_iff.1 (instOk_below hxo) x.args[v.toNat] (by rw [hu]; exact List.getElem_mem hlt)
  rw [List.getElem?_eq_getElem hlt]
  simp only [Option.getD_some]
  omega
 ·omega
theorem after_bound (hP : b.params = (P : Int)) (hQ : l.params = (Q : Int)) (hx : b.ins[ak]? = some x) (hxo : instOk x (P + ak) = true) (h14 : x.op = 14) (hlen : x.args.length = Q) (hta : 0 ≤ l.ta ∧ l.ta < Q + l.ins.length) {i : Nat} (hi : ak < i) {v : Int} (h0 : 0 ≤ v) (hv : v < P + i) :
  0 ≤ afterG b l ak v ∧ afterG b l ak v < P + ((i - 1 + l.ins.length : Nat) : Int) := by
 unfold afterG afterNum
 split
 ·omega
 ·split
  ·have := in_bound (j := l.ins.length) hP hQ hx hxo h14 hlen hta.1 hta.2
   unfold inG at this
   rw [hP] at this ⊢
   omega
  ·rw [hP] at *; omega
theorem putB_ok (hs : SameParams f f') (hb : blockOk f b = true) {g : Func} (hl : blockOk g l = true) (hk3 : l.kind = 3) (hP : b.params = (P : Int)) (hQ : l.params = (Q : Int)) (hx : b.ins[ak]? = some x) (h14 : x.op = 14) (hlen : x.args.length = Q) (h32 : b.ins.length - 1 + l.ins.length ≤ 32) :
  blockOk f' (putB b l ak) = true := by
 obtain ⟨h0, h6, _, hi, he⟩ := blockOk_iff.1 hb
 obtain ⟨l0, l6, _, li, le⟩ := blockOk_iff.1 hl
 have hak : ak < b.ins.length := (List.getElem?_eq_some_iff.1 hx).1
 have hxo : instOk x (P + ak) = true := by
  have := hi ak hak
  rw [(List.getElem?_eq_some_iff.1 hx).2, hP] at this
  exact this
 have hta : 0 ≤ l.ta ∧ l.ta < Q + l.ins.length := by
  rw [endB_iff] at le
  rw [← hQ]
  rcases le with ⟨e, _⟩ | ⟨e, _⟩ | ⟨_, e, _⟩
  ·omega
  ·omega
  ·exact e
 have hL : (putB b l ak).ins.length = b.ins.length - 1 + l.ins.length := by rw [put_length hak, cnt_hi hak]
 have hat : ∀ {k : Nat} (hk : k < (putB b l ak).ins.length) {y : Inst}, (putB b l ak).ins[k]?.getD default = y → (putB b l ak).ins[k] = y := fun {k} hk {y} h => by rw [List.getElem?_eq_getElem hk] at h; exact h
 refine blockOk_iff.2 ⟨h0, h6, by omega, fun k hk => ?_, ?_⟩
 ·have hp : (putB b l ak).params = b.params := rfl
  rw [hp]
  by_cases h1 : k < ak
  ·rw [hat hk (put_lo hak h1)]
   exact hi k (by omega)
  ·by_cases h2 : k < ak + l.ins.length
   ·obtain ⟨j, rfl⟩ : ∃ j, k = ak + j := ⟨k - ak, by omega⟩
    have hj : j < l.ins.length := by omega
    rw [hat hk (put_leaf hak hj)]
    have := li j hj
    rw [hQ] at this
    refine mapInst_ok this fun v h0 hv => ?_
    have := in_bound (b := b) (j := j) hP hQ hx hxo h14 hlen h0 hv
    rw [hP]; omega
   ·obtain ⟨i, hi1, hi2, hik⟩ : ∃ i, ak < i ∧ i < b.ins.length ∧ k = i - 1 + l.ins.length := ⟨k + 1 - l.ins.length, by omega, by omega, by omega⟩
    have hc : cntF ak l.ins.length i = k := by rw [cnt_hi hi1, hik]
    have := put_hi (leaf := l) hak hi1 hi2
    rw [hc] at this
    rw [hat hk this]
    have hio := hi i hi2
    rw [hP] at hio ⊢
    refine mapInst_ok hio fun v h0 hv => ?_
    have := after_bound hP hQ hx hxo h14 hlen hta hi1 h0 hv
    omega
 ·refine end_map (g := afterG b l ak) hs he rfl rfl rfl rfl rfl rfl fun v h0 hv => ?_
  have := after_bound hP hQ hx hxo h14 hlen hta hak h0 (by rw [hP] at hv; exact hv)
  rw [hL]
  rw [show (putB b l ak).params = b.params from rfl, hP]
  exact this
end
theorem funcOk_new {f f' : Func} (hf : funcOk f = true) (hn : f'.name = f.name) (hb : f'.bind = f.bind) (hp : f'.params = f.params) (h16 : f'.blocks.length ≤ 16) {b : Block} (h0 : f'.blocks[0]? = some b) (hbp : b.params = f.params) (hall : f'.blocks.all (blockOk f') = true) : funcOk f' = true := by
  unfold funcOk at hf ⊢
  simp only [Bool.and_eq_true, decide_eq_true_eq] at hf
  obtain ⟨⟨⟨⟨⟨⟨h1, h2⟩, h3⟩, h4⟩, h5⟩, _⟩, _⟩ := hf
  rw [hn, hb, hp, h1, decide_eq_true h2, decide_eq_true h3, decide_eq_true h4, decide_eq_true h5, decide_eq_true h16]
  cases hbl : f'.blocks with
  | nil => rw [hbl] at h0; cases h0
  | cons c r =>
    rw [hbl] at h0 hall
    simp only [List.getElem?_cons_zero] at h0
    injection h0 with h0
    subst h0
    simp only [Bool.true_and, Bool.and_eq_true, beq_iff_eq]
    exact ⟨hbp, hall⟩
theorem funcOk_with {f f' : Func} (hf : funcOk f = true) (hs : SameParams f f') (hall : f'.blocks.all (blockOk f') = true) (hn : f'.name = f.name) (hb : f'.bind = f.bind) (hp : f'.params = f.params) (hl : 0 < f.blocks.length) : funcOk f' = true := by
 obtain ⟨b', h1, h2⟩ := hs.2 0 _ (List.getElem?_eq_getElem hl)
 exact funcOk_new hf hn hb hp (by rw [hs.1]; exact funcOk_len hf) h1 (h2.trans (funcOk_first hf hl)) hall
end Go.Proofs.YtgadlpdbkohlbaaGreat
namespace Go.Proofs.YtgadlpdbkohlbaaGreat
open Go.RowKit
def mapM (F : Func → Func) (m : Module) : Module := { m with funcs := m.funcs.map F }
def FromF (f : Func) (x : Inst) : Prop := x.op = 12 ∨ x.op = 13 ∨ x.op = 14 → ∃ y ∈ allIns f, y.op = x.op ∧ y.name = x.name ∧ y.args.length = x.args.length
structure MapF (m : Module) (F : Func → Func) : Prop where
 name : ∀ f ∈ m.funcs, (F f).name = f.name
 params : ∀ f ∈ m.funcs, (F f).params = f.params
 ok : ∀ f ∈ m.funcs, funcOk (F f) = true
 blocks : ∀ f ∈ m.funcs, ((F f).blocks.length = 0 ↔ f.blocks.length = 0)
 ins : ∀ f ∈ m.funcs, ∀ x ∈ allIns (F f), FromF f x
theorem MapF.names {m : Module} {F : Func → Func} (h : MapF m F) : namesM (mapM F m) = namesM m := by
 unfold namesM fnames gnames mapM
 rw [List.map_map]
 congr 1
 exact List.map_congr_left fun f hf => h.name f hf
theorem MapF.okM {m : Module} {F : Func → Func} (h : MapF m F) (hok : ModOk m) : ModOk (mapM F m) := by
 have key : ∀ f ∈ (mapM F m).funcs, ∃ f0 ∈ m.funcs, F f0 = f := fun f hf => List.mem_map.1 hf
 refine .mk' (by simpa [mapM] using hok.nf) hok.ng (fun f hf => ?_) hok.globs (by rw [h.names]; exact hok.names) (fun f hf y hy h14 => ?_) (fun f hf y hy h12 => ?_)
 ·obtain ⟨f0, hf0, rfl⟩ := key f hf
  exact h.ok f0 hf0
 ·obtain ⟨f0, hf0, rfl⟩ := key f hf
  obtain ⟨x, hx, e1, e2, e3⟩ := h.ins f0 hf0 y hy (.inr (.inr h14))
  obtain ⟨g, hg, hgn, hgp⟩ := hok.call (mem_insM hf0 hx) (by omega)
  exact ⟨F g, List.mem_map.2 ⟨g, hg, rfl⟩, by rw [h.name g hg, hgn, e2], by rw [h.params g hg, hgp, e3]⟩
 ·obtain ⟨f0, hf0, rfl⟩ := key f hf
  obtain ⟨x, hx, e1, e2, e3⟩ := h.ins f0 hf0 y hy (by omega)
  obtain ⟨g, hg, hgn⟩ := hasG_iff.1 ((missI_false (hok.miss x (mem_insM hf0 hx))).2 (by omega))
  exact ⟨g, hg, by rw [hgn, e2]⟩
theorem MapF.find {m : Module} {F : Func → Func} (h : MapF m F) (s : ByteArray) : findF (mapM F m) s = (findF m s).map F := by
  unfold findF mapM
  have : ∀ l : List Func, (∀ f ∈ l, (F f).name = f.name) → (l.map F).find? (fun f => decide (f.name = s)) = (l.find? fun f => decide (f.name = s)).map F := by
    intro l
    induction l with
    | nil => intro _; rfl
    | cons f l ih =>
      intro hl
      simp only [List.map_cons, List.find?_cons, hl f (by simp)]
      by_cases e : f.name = s
      · simp [e]
      · simp only [decide_eq_false e]
        exact ih fun g hg => hl g (by simp [hg])
  exact this _ h.name
theorem MapF.there {m : Module} {F : Func → Func} (h : MapF m F) (s : ByteArray) : thereB (mapM F m) s = thereB m s := by
  unfold thereB
  rw [h.find]
  cases hf : findF m s with
  | none => rfl
  | some f =>
    have := h.blocks f (List.mem_of_find?_eq_some hf)
    simp only [Option.map_some]
    rw [decide_eq_decide]
    omega
theorem MapF.whole {m : Module} {F : Func → Func} (h : MapF m F) (hw : wholeE m = 0) : wholeE (mapM F m) = 0 := by
  obtain ⟨hok, hm, ht⟩ := wholeE_zero.1 hw
  refine wholeE_zero.2 ⟨h.okM hok, ?_, fun s hs => ?_⟩
  · unfold mainB at hm ⊢
    rw [h.find]
    cases hf : findF m mainS with
    | none => rw [hf] at hm; exact hm
    | some f =>
      rw [hf] at hm
      have hfm := List.mem_of_find?_eq_some hf
      have h1 := h.blocks f hfm
      have h2 := h.params f hfm
      simp only [Option.map_some, Bool.and_eq_true, decide_eq_true_eq] at hm ⊢
      exact ⟨by omega, by rw [h2]; exact hm.2⟩
  · rw [h.there]
    refine ht s ?_
    obtain ⟨f, hf, hs⟩ := List.mem_flatMap.1 hs
    obtain ⟨y, hy, rfl⟩ := List.mem_map.1 hs
    obtain ⟨hy1, hy2⟩ := List.mem_filter.1 hy
    obtain ⟨f0, hf0, rfl⟩ := List.mem_map.1 hf
    obtain ⟨x, hx, e1, e2, _⟩ := h.ins f0 hf0 y hy1 (isNamed_iff.1 hy2)
    exact List.mem_flatMap.2 ⟨f0, hf0, List.mem_map.2 ⟨x, List.mem_filter.2 ⟨hx, by rw [e1]; exact hy2⟩, e2⟩⟩
theorem MapF.funcOf {m : Module} {F : Func → Func} (h : MapF m F) (hok : ModOk m) {f : Func} (hf : f ∈ m.funcs) : funcOf (mapM F m) f.name = F f := by
 unfold Go.Proofs.YtgadlpdbkohlbaaGreat.funcOf
 rw [h.find, findF_uniq hok hf]
 rfl
theorem funcOk_mk {f f' : Func} (h : funcOk f = true) (h1 : f'.name = f.name) (h2 : f'.bind = f.bind) (h3 : f'.params = f.params) (h4 : f'.blocks.length ≤ f.blocks.length) (h5 : f'.blocks.length = 0 ↔ f.blocks.length = 0)
    (h6 : ∀ (b : Block), f'.blocks[0]? = some b → b.params = f.params) (h7 : ∀ b ∈ f'.blocks, blockOk f' b = true) : funcOk f' = true := by
  unfold funcOk at h ⊢
  obtain ⟨name, bind, params, blocks⟩ := f
  obtain ⟨name', bind', params', blocks'⟩ := f'
  simp only at *
  subst h1 h2 h3
  simp only [Bool.and_eq_true, decide_eq_true_eq] at h ⊢
  obtain ⟨⟨⟨⟨⟨⟨a1, a2⟩, a3⟩, a4⟩, a5⟩, a6⟩, a7⟩ := h
  refine ⟨⟨⟨⟨⟨⟨a1, a2⟩, a3⟩, a4⟩, a5⟩, by omega⟩, ?_⟩
  cases blocks' with
  | nil =>
    cases blocks with
    | nil => exact a7
    | cons b l => simp at h5
  | cons b' l' =>
    simp only [Bool.and_eq_true]
    exact ⟨by simpa using h6 b' rfl, List.all_eq_true.2 h7⟩
end Go.Proofs.YtgadlpdbkohlbaaGreat
namespace Go.Proofs.YtgadlpdbkohlbaaGreat
open Go.RowKit
def atO (l : List (Option Int)) (i : Int) : Option Int := if 0 ≤ i then (l[i.toNat]?).getD none else none
def foldV (l : List (Option Int)) (x : Inst) : Option Int :=
 if x.op = 1 then some x.k
 else if 2 ≤ x.op ∧ x.op ≤ 11 then (match atO l x.a, atO l x.b with
  | some p, some q => some (reckI x.op p q)
  | _, _ => none) else none
def foldL : List (Option Int) → List Inst → List (Option Int)
 | l, [] => l
 | l, x :: xs => foldL (l ++ [foldV l x]) xs
def noneL (b : Block) : List (Option Int) := List.replicate b.params.toNat none
def foldVals (b : Block) : List (Option Int) := foldL (noneL b) b.ins
def foldX (k : Option Int) (x : Inst) : Inst := match k with
 | some v => ⟨1, 0, 0, v.toNat, ⟨#[]⟩, []⟩
 | none => x
def foldIns (b : Block) : List Inst := List.zipWith foldX ((foldVals b).drop b.params.toNat) b.ins
def foldB (b : Block) : Block :=
 if b.kind = 2 then (match atO (foldVals b) b.ta with
  | some v => if v = 0 then ⟨b.params, foldIns b, 1, 0, b.els, b.elses, 0, []⟩ else ⟨b.params, foldIns b, 1, 0, b.to, b.args, 0, []⟩
  | none => { b with ins := foldIns b })
 else { b with ins := foldIns b }
def foldF (f : Func) : Func := { f with blocks := f.blocks.map foldB }
def foldM (m : Module) : Module := mapM foldF m
theorem foldL_append : ∀ (xs ys : List Inst) (l : List (Option Int)), foldL l (xs ++ ys) = foldL (foldL l xs) ys
 | [], _, _ => rfl
 | x :: xs, ys, l => foldL_append xs ys (l ++ [foldV l x])
theorem foldL_length : ∀ (xs : List Inst) (l : List (Option Int)), (foldL l xs).length = l.length + xs.length
  | [], _ => rfl
  | x :: xs, l => by
    show (foldL (l ++ [foldV l x]) xs).length = _
    rw [foldL_length xs, List.length_append, List.length_singleton, List.length_cons]
    omega
theorem foldL_pre : ∀ (xs : List Inst) (l : List (Option Int)) {i : Nat}, i < l.length → (foldL l xs)[i]? = l[i]?
  | [], _, _, _ => rfl
  | x :: xs, l, i, h => by
    show (foldL (l ++ [foldV l x]) xs)[i]? = _
    rw [foldL_pre xs _ (by rw [List.length_append]; omega), List.getElem?_append_left h]
theorem foldL_snoc {xs : List Inst} {l : List (Option Int)} {k : Nat} {x : Inst} (h : xs[k]? = some x) : foldL l (xs.take (k + 1)) = foldL l (xs.take k) ++ [foldV (foldL l (xs.take k)) x] := by
 have hk := (List.getElem?_eq_some_iff.1 h).1
 rw [List.take_succ_eq_append_getElem hk, (List.getElem?_eq_some_iff.1 h).2, foldL_append]
 rfl
theorem foldL_at {xs : List Inst} {l : List (Option Int)} {k : Nat} {x : Inst} (h : xs[k]? = some x) : (foldL l xs)[l.length + k]? = some (foldV (foldL l (xs.take k)) x) := by
 have hk := (List.getElem?_eq_some_iff.1 h).1
 have e : foldL l xs = foldL (foldL l (xs.take (k + 1))) (xs.drop (k + 1)) := by rw [← foldL_append, List.take_append_drop]
 have hl : (foldL l (xs.take k)).length = l.length + k := by rw [foldL_length, List.length_take]; omega
 rw [e, foldL_snoc h, foldL_pre _ _ (by rw [List.length_append, hl]; simp), List.getElem?_append_right (by omega), hl]
 simp
@[simp] theorem noneL_length (b : Block) : (noneL b).length = b.params.toNat := by simp [noneL]
theorem foldVals_length (b : Block) : (foldVals b).length = b.params.toNat + b.ins.length := by unfold foldVals; rw [foldL_length, noneL_length]
@[simp] theorem foldIns_length (b : Block) : (foldIns b).length = b.ins.length := by
 unfold foldIns
 rw [List.length_zipWith, List.length_drop, foldVals_length]
 omega
theorem foldIns_at {b : Block} {k : Nat} {x : Inst} (h : b.ins[k]? = some x) : (foldIns b)[k]? = some (foldX (foldV (foldL (noneL b) (b.ins.take k)) x) x) := by
 unfold foldIns foldVals
 have := foldL_at (l := noneL b) h
 rw [noneL_length] at this
 rw [List.getElem?_zipWith, List.getElem?_drop, this, h]
@[simp] theorem foldB_params (b : Block) : (foldB b).params = b.params := by
 unfold foldB
 repeat' split
 all_goals rfl
@[simp] theorem foldB_ins (b : Block) : (foldB b).ins = foldIns b := by
 unfold foldB
 repeat' split
 all_goals rfl
theorem foldF_at {f : Func} {k : Nat} {b : Block} (h : f.blocks[k]? = some b) : (foldF f).blocks[k]? = some (foldB b) := by
 show (f.blocks.map foldB)[k]? = _
 rw [List.getElem?_map, h]
 rfl
def KnownV (l : List (Option Int)) (vals : List Int) : Prop := ∀ (i : Nat) (v : Int), l[i]? = some (some v) → vals[i]? = some v
theorem KnownV.none (b : Block) (vals : List Int) : KnownV (noneL b) vals := fun i v h => by
 unfold noneL at h
 rw [List.getElem?_replicate] at h
 split at h <;> simp at h
theorem KnownV.at {l : List (Option Int)} {vals : List Int} (h : KnownV l vals) {i v : Int} (hv : atO l i = some v) : valAt vals i = v := by
  unfold atO at hv
  split at hv
  · cases hl : l[i.toNat]? with
    | none => rw [hl] at hv; cases hv
    | some o =>
      rw [hl] at hv
      have : o = some v := hv
      subst this
      unfold valAt
      rw [h _ _ hl]
      rfl
  · cases hv
theorem KnownV.snoc {l : List (Option Int)} {vals : List Int} (h : KnownV l vals) (hl : l.length = vals.length) {o : Option Int} {v : Int} (ho : ∀ u, o = some u → u = v) : KnownV (l ++ [o]) (vals ++ [v]) := fun i u hu => by
 rcases Nat.lt_trichotomy i l.length with hi | hi | hi
 ·rw [List.getElem?_append_left hi] at hu
  rw [List.getElem?_append_left (by omega)]
  exact h i u hu
 ·subst hi
  rw [List.getElem?_append_right (Nat.le_refl _)] at hu
  rw [List.getElem?_append_right (by omega), hl]
  simp only [Nat.sub_self, List.getElem?_cons_zero] at hu ⊢
  injection hu with hu
  rw [ho u hu]
 ·rw [List.getElem?_eq_none (by simp; omega)] at hu
  cases hu
theorem foldV_gives {m : Module} {inp : ByteArray} {l : List (Option Int)} {vals : List Int} {x : Inst} {w : Wd} (h : KnownV l vals) {u : Int} (hu : foldV l x = some u) : givesW m inp x vals w = (w, u) ∧ (x.op = 1 ∨ (2 ≤ x.op ∧ x.op ≤ 11)) := by
 unfold foldV at hu
 unfold givesW
 split at hu
 ·rename_i h1
  injection hu with hu
  rw [if_pos h1, hu]
  exact ⟨rfl, .inl h1⟩
 ·split at hu
  ·rename_i h1 h2
   rw [if_neg h1, if_neg (by omega), if_neg (by omega), if_neg (by omega), if_neg (by omega)]
   split at hu
   ·rename_i p q hp hq
    injection hu with hu
    rw [h.at hp, h.at hq, hu]
    exact ⟨rfl, .inr h2⟩
   ·cases hu
  ·cases hu
theorem foldX_some {u : Int} {x : Inst} (hu : 0 ≤ u) (m : Module) (inp : ByteArray) (vals : List Int) (w : Wd) : givesW m inp (foldX (some u) x) vals w = (w, u) := by
 show (w, ((u.toNat : Nat) : Int)) = (w, u)
 rw [Int.toNat_of_nonneg hu]
def RFold (f : Func) (at' i : Nat) (vals : List Int) (f2 : Func) (at2 i2 : Nat) (vals2 : List Int) : Prop :=
 f2 = foldF f ∧ at2 = at' ∧ i2 = i ∧ vals2 = vals ∧ ∀ b, f.blocks[at']? = some b → KnownV (foldL (noneL b) (b.ins.take i)) vals
theorem RFold.start (f : Func) (k : Nat) (vals : List Int) : RFold f k 0 vals (foldF f) k 0 vals := ⟨rfl, rfl, rfl, rfl, fun b _ => KnownV.none b vals⟩
section
variable {f : Func} {b : Block}
theorem fold_same (f : Func) : SameParams f (foldF f) := ⟨by simp [foldF], fun k b hb => ⟨foldB b, foldF_at hb, foldB_params b⟩⟩
theorem foldV_op {l : List (Option Int)} {x : Inst} (h1 : ¬ x.op = 1) (h2 : ¬ (2 ≤ x.op ∧ x.op ≤ 11)) : foldV l x = none := by
 unfold foldV
 rw [if_neg h1, if_neg h2]
theorem const_ok (k : Nat) (n : Int) : instOk ⟨1, 0, 0, k, ⟨#[]⟩, []⟩ n = true := by
 unfold instOk uses belowB isOne isTwo isNamed
 simp
 rfl
theorem foldX_ok {o : Option Int} {x : Inst} {n : Int} (h : instOk x n = true) : instOk (foldX o x) n = true := by
 cases o with
 | none => exact h
 | some v => exact const_ok _ _
theorem foldB_ok (h : blockOk f b = true) : blockOk (foldF f) (foldB b) = true := by
  rw [blockOk_iff] at h ⊢
  obtain ⟨h0, h6, h32, hi, he⟩ := h
  refine ⟨by simpa using h0, by simpa using h6, by simpa using h32, fun k hk => ?_, ?_⟩
  · simp only [foldB_ins, foldIns_length] at hk
    have hx : b.ins[k]? = some b.ins[k] := List.getElem?_eq_getElem hk
    have e := foldIns_at hx
    simp only [foldB_ins, foldB_params]
    rw [(List.getElem?_eq_some_iff.1 e).2]
    exact foldX_ok (hi k hk)
  · have hs := fold_same f
    have hg : ∀ (to : Int) (l : List Int), goesB f to l (b.params + b.ins.length) = true → goesB (foldF f) to l (b.params + (foldIns b).length) = true := fun to l h => goesB_same hs h rfl (fun h => by rw [foldIns_length]; exact h)
    rw [endB_iff] at he ⊢
    unfold foldB
    rcases he with ⟨e1, e2, e3⟩ | ⟨e1, e2, e3, e4⟩ | ⟨e1, e2, e3⟩
    · rw [if_neg (by omega)]
      exact .inl ⟨e1, hg _ _ e2, e3⟩
    · rw [if_pos e1]
      cases atO (foldVals b) b.ta with
      | none => exact .inr (.inl ⟨e1, by simpa using e2, hg _ _ e3, hg _ _ e4⟩)
      | some v =>
        simp only
        split
        · exact .inl ⟨rfl, hg _ _ e4, rfl, rfl, rfl⟩
        · exact .inl ⟨rfl, hg _ _ e3, rfl, rfl, rfl⟩
    · rw [if_neg (by omega)]
      exact .inr (.inr ⟨e1, by simpa using e2, e3⟩)
end
theorem fold_map {m : Module} (hok : ModOk m) : MapF m foldF where
  name _ _ := rfl
  params _ _ := rfl
  ok f hf := by
    have h := hok.funcs f hf
    refine funcOk_mk h rfl rfl rfl (by simp [foldF]) (by simp [foldF]) (fun b hb => ?_) (fun b hb => ?_)
    · have hb : (f.blocks.map foldB)[0]? = some b := hb
      rw [List.getElem?_map] at hb
      cases h0 : f.blocks[0]? with
      | none => rw [h0] at hb; cases hb
      | some c =>
        rw [h0] at hb
        injection hb with hb
        subst hb
        have hl := (List.getElem?_eq_some_iff.1 h0).1
        rw [foldB_params, ← (List.getElem?_eq_some_iff.1 h0).2]
        exact funcOk_first h hl
    · obtain ⟨c, hc, rfl⟩ := List.mem_map.1 hb
      exact foldB_ok (List.all_eq_true.1 (funcOk_all h) c hc)
  blocks f _ := by simp [foldF]
  ins f _ x hx hop := by
    obtain ⟨b', hb', hx⟩ := List.mem_flatMap.1 hx
    obtain ⟨b, hb, rfl⟩ := List.mem_map.1 hb'
    rw [foldB_ins] at hx
    obtain ⟨k, hk, rfl⟩ := List.getElem_of_mem hx
    have hk' : k < b.ins.length := by simpa using hk
    have hy : b.ins[k]? = some b.ins[k] := List.getElem?_eq_getElem hk'
    have e := (List.getElem?_eq_some_iff.1 (foldIns_at hy)).2
    rw [e] at hop ⊢
    refine ⟨b.ins[k], List.mem_flatMap.2 ⟨b, hb, List.getElem_mem hk'⟩, ?_⟩
    cases ho : foldV (foldL (noneL b) (b.ins.take k)) b.ins[k] with
    | none => exact ⟨rfl, rfl, rfl⟩
    | some u =>
      rw [ho] at hop
      have : (1 : Int) = 12 ∨ (1 : Int) = 13 ∨ (1 : Int) = 14 := hop
      omega
theorem fold_ok {m : Module} (h : ModOk m) : ModOk (foldM m) := (fold_map h).okM h
theorem fold_whole {m : Module} (hw : wholeE m = 0) : wholeE (foldM m) = 0 := (fold_map (wholeE_zero.1 hw).1).whole hw
theorem fold_runs {m : Module} (hw : wholeE m = 0) : RunRel m (foldM m) := by
  have hok := (wholeE_zero.1 hw).1
  refine SimOk.run (R := fun _ _ _ => RFold) (fun inp fuel deep => ?_) hw rfl
  refine ⟨fun f args hf hbl hl => ?_, ?_, ?_, ?_, ?_⟩
  · rw [show foldM m = mapM foldF m from rfl, (fold_map hok).funcOf hok hf]
    exact RFold.start f 0 args
  · rintro w w2 f at' i vals f2 at2 i2 vals2 n b x ⟨rfl, rfl, rfl, rfl, hkn⟩ hv hp hp2 hg hg2 hwr hx h14 hs
    have hkn := hkn b hv.blk
    have hs2 := hwr.lt hg hs
    have hbf := foldF_at hv.blk
    have hxf : (foldB b).ins[i2]? = some (foldX (foldV (foldL (noneL b) (b.ins.take i2)) x) x) := by rw [foldB_ins]; exact foldIns_at hx
    have hlen : (foldL (noneL b) (b.ins.take i2)).length = vals2.length := by
      rw [foldL_length, noneL_length, List.length_take]
      have h1 := hv.len
      have h2 := hv.le
      have h3 := (blockOk_parts (by have := funcOk_block (hok.funcs f hv.mem) (List.getElem?_eq_some_iff.1 hv.blk).1; rwa [(List.getElem?_eq_some_iff.1 hv.blk).2] at this)).1
      omega
    have hwr' := hwr.step hs hs2
    cases ho : foldV (foldL (noneL b) (b.ins.take i2)) x with
    | none =>
      rw [ho] at hxf
      have hxf : (foldB b).ins[i2]? = some x := hxf
      have hop : 1 ≤ x.op ∧ x.op ≤ 16 := by
        have hbk := blockOk_parts (by have := funcOk_block (hok.funcs f hv.mem) (List.getElem?_eq_some_iff.1 hv.blk).1; rwa [(List.getElem?_eq_some_iff.1 hv.blk).2] at this)
        have hi := (List.getElem?_eq_some_iff.1 hx).1
        have := hbk.2.2.2.1 i2 hi
        rw [(List.getElem?_eq_some_iff.1 hx).2] at this
        exact instOk_op this
      obtain ⟨r1, r2⟩ := hwr'.gives (m := m) (m2 := foldM m) rfl inp (x := x) (x2 := x) (vals := vals2) (vals2 := vals2) rfl rfl rfl (fun _ => rfl) (fun _ => rfl) ⟨hop.1, hop.2, h14⟩
      obtain ⟨c1, c2, c3⟩ := hg2.gives hs2 inp x hp2
      refine ⟨_, i2 + 1, vals2 ++ [(givesW m inp x vals2 (stepW fuel w)).2], c1, Pos.snoc hp2 (by rw [← r2]; exact c2), r1, ⟨rfl, rfl, rfl, rfl, fun b' hb' => ?_⟩, ?_⟩
      · obtain rfl : b = b' := by rw [hv.blk] at hb'; injection hb'
        rw [foldL_snoc hx, ho]
        exact hkn.snoc hlen (fun u h => by cases h)
      · rw [goF_plain hg2 hp2 hs2 hbf hxf h14, r2]
    | some u =>
      obtain ⟨e1, e2⟩ := foldV_gives (m := m) (inp := inp) (w := stepW fuel w) hkn ho
      rw [ho] at hxf
      have hu : 0 ≤ u := by
        have := (hg.gives hs inp x hp).2.1
        rw [e1] at this
        exact this
      rw [e1]
      refine ⟨stepW fuel w2, i2 + 1, vals2 ++ [u], hg2.step hs2, Pos.snoc hp2 hu, hwr', ⟨rfl, rfl, rfl, rfl, fun b' hb' => ?_⟩, ?_⟩
      · obtain rfl : b = b' := by rw [hv.blk] at hb'; injection hb'
        rw [foldL_snoc hx, ho]
        exact hkn.snoc hlen (fun u' h => by injection h with h; exact h.symm)
      · rw [goF_plain hg2 hp2 hs2 hbf hxf (by show ¬ (1 : Int) = 14; omega), foldX_some hu]
  · rintro w w2 f at' i vals f2 at2 i2 vals2 n b x ⟨rfl, rfl, rfl, rfl, hkn⟩ hv hp hp2 hg hg2 hwr hx h14 hs hnd
    have hkn := hkn b hv.blk
    have ho : foldV (foldL (noneL b) (b.ins.take i2)) x = none := foldV_op (by omega) (by omega)
    have hxf : (foldB b).ins[i2]? = some (foldX (foldV (foldL (noneL b) (b.ins.take i2)) x) x) := by rw [foldB_ins]; exact foldIns_at hx
    rw [ho] at hxf
    have hlen : (foldL (noneL b) (b.ins.take i2)).length = vals2.length := by
      rw [foldL_length, noneL_length, List.length_take]
      have h1 := hv.len
      have h2 := hv.le
      have h3 := (blockOk_parts (by have := funcOk_block (hok.funcs f hv.mem) (List.getElem?_eq_some_iff.1 hv.blk).1; rwa [(List.getElem?_eq_some_iff.1 hv.blk).2] at this)).1
      omega
    refine .inl ⟨foldB b, x, foldF_at hv.blk, hxf, h14, rfl, rfl, fun v _ => ⟨rfl, rfl, rfl, rfl, fun b' hb' => ?_⟩⟩
    obtain rfl : b = b' := by rw [hv.blk] at hb'; injection hb'
    rw [foldL_snoc hx, ho]
    exact hkn.snoc hlen (fun u h => by cases h)
  · rintro w w2 f at' i vals f2 at2 i2 vals2 n b ⟨rfl, rfl, rfl, rfl, hkn⟩ hv hp hp2 hg hg2 hwr hi hk3 hs
    have hs2 := hwr.lt hg hs
    have e : foldB b = { b with ins := foldIns b } := by unfold foldB; rw [if_neg (by omega)]
    refine ⟨stepW fuel w2, hg2.step hs2, hwr.step hs hs2, ?_⟩
    rw [goF_ret hg2 hs2 (foldF_at hv.blk) (by rw [foldB_ins, foldIns_length]; omega) (by rw [e]; exact hk3), e]
  · rintro w w2 f at' i vals f2 at2 i2 vals2 n b ⟨rfl, rfl, rfl, rfl, hkn⟩ hv hp hp2 hg hg2 hwr hi hk3 hs to args hsel
    have hkn := hkn b hv.blk
    rw [hi, List.take_length] at hkn
    have hs2 := hwr.lt hg hs
    have hle : (foldB b).ins.length ≤ i2 := by rw [foldB_ins, foldIns_length]; omega
    refine ⟨stepW fuel w2, to.toNat, pickI vals2 args, hg2.step hs2, pickI_nonneg hp2 _, hwr.step hs hs2, RFold.start f to.toNat _, ?_⟩
    by_cases hk2 : b.kind = 2
    · cases hat : atO (foldVals b) b.ta with
      | none =>
        have e : foldB b = { b with ins := foldIns b } := by unfold foldB; rw [if_pos hk2, hat]
        by_cases hz : b.kind = 2 ∧ valAt vals2 b.ta = 0
        · rw [if_pos hz] at hsel
          rw [goF_else hg2 hp2 hs2 (foldF_at hv.blk) hle (by rw [e]; exact hk3) (by rw [e]; exact hz), e, hsel.1, hsel.2]
        · rw [if_neg hz] at hsel
          rw [goF_to hg2 hp2 hs2 (foldF_at hv.blk) hle (by rw [e]; exact hk3) (by rw [e]; exact hz), e, hsel.1, hsel.2]
      | some v =>
        have hvv := hkn.at hat
        by_cases hz : v = 0
        · have e : foldB b = ⟨b.params, foldIns b, 1, 0, b.els, b.elses, 0, []⟩ := by unfold foldB; rw [if_pos hk2, hat]; simp only; rw [if_pos hz]
          rw [if_pos ⟨hk2, by rw [hvv, hz]⟩] at hsel
          rw [goF_to hg2 hp2 hs2 (foldF_at hv.blk) hle (by rw [e]; simp) (by rw [e]; simp), e, hsel.1, hsel.2]
        · have e : foldB b = ⟨b.params, foldIns b, 1, 0, b.to, b.args, 0, []⟩ := by unfold foldB; rw [if_pos hk2, hat]; simp only; rw [if_neg hz]
          rw [if_neg (fun h => hz (by rw [← hvv]; exact h.2))] at hsel
          rw [goF_to hg2 hp2 hs2 (foldF_at hv.blk) hle (by rw [e]; simp) (by rw [e]; simp), e, hsel.1, hsel.2]
    · have e : foldB b = { b with ins := foldIns b } := by unfold foldB; rw [if_neg hk2]
      rw [if_neg (fun h => hk2 h.1)] at hsel
      rw [goF_to hg2 hp2 hs2 (foldF_at hv.blk) hle (by rw [e]; exact hk3) (by rw [e]; exact fun h => hk2 h.1), e, hsel.1, hsel.2]
end Go.Proofs.YtgadlpdbkohlbaaGreat
namespace Go.Proofs.YtgadlpdbkohlbaaGreat
def sel {α : Type} : List Bool → List α → List α
 | true :: l, x :: xs => x :: sel l xs
 | false :: l, _ :: xs => sel l xs
 | _, _ => []
def nst (l : List Bool) (k : Nat) : Nat := (l.take k).countP id
@[simp] theorem nst_zero (l : List Bool) : nst l 0 = 0 := rfl
theorem nst_cons (s : Bool) (l : List Bool) (k : Nat) : nst (s :: l) (k + 1) = (if s = true then 1 else 0) + nst l k := by
 unfold nst
 rw [List.take_succ_cons, List.countP_cons]
 simp only [id]
 omega
theorem nst_snoc {l : List Bool} {k : Nat} {s : Bool} (h : l[k]? = some s) : nst l (k + 1) = nst l k + (if s = true then 1 else 0) := by
 have hk := (List.getElem?_eq_some_iff.1 h).1
 unfold nst
 rw [List.take_succ_eq_append_getElem hk, (List.getElem?_eq_some_iff.1 h).2, List.countP_append, List.countP_singleton]
 rfl
theorem nst_mono {l : List Bool} {i j : Nat} (h : i ≤ j) : nst l i ≤ nst l j := by
 unfold nst
 exact (List.take_sublist_take_left h).countP_le
theorem nst_le (l : List Bool) (k : Nat) : nst l k ≤ k := by
 unfold nst
 exact Nat.le_trans List.countP_le_length (by rw [List.length_take]; omega)
theorem nst_lt {l : List Bool} {i j : Nat} (h : l[i]? = some true) (hij : i < j) : nst l i < nst l j := by
 have h1 := nst_snoc h
 have h2 := nst_mono (l := l) (show i + 1 ≤ j by omega)
 rw [if_pos rfl] at h1
 omega
theorem nst_append_le {l l' : List Bool} {k : Nat} : nst (l ++ l') (l.length + k) = nst l l.length + nst l' k := by
 unfold nst
 rw [List.take_length_add_append, List.countP_append, List.take_length]
theorem nst_all {l : List Bool} : ∀ {k : Nat}, k ≤ l.length → (∀ i, i < k → l[i]? = some true) → nst l k = k
 | 0, _, _ => rfl
 | k + 1, hk, h => by rw [nst_snoc (h k (by omega)), if_pos rfl, nst_all (by omega) fun i hi => h i (by omega)]
section
variable {α : Type}
@[simp] theorem sel_nil (l : List Bool) : sel l ([] : List α) = [] := by
 cases l with
 | nil => rfl
 | cons s l => cases s <;> rfl
theorem sel_at : ∀ {l : List Bool} {xs : List α} {k : Nat} {x : α}, l[k]? = some true → xs[k]? = some x → (sel l xs)[nst l k]? = some x
  | [], _, _, _, h, _ => by simp at h
  | _ :: _, [], _, _, _, h => by simp at h
  | s :: l, y :: xs, 0, x, h, h' => by
    simp only [List.getElem?_cons_zero] at h h'
    injection h with h
    subst h
    simp [sel, h']
  | s :: l, y :: xs, k + 1, x, h, h' => by
    simp only [List.getElem?_cons_succ] at h h'
    have ih := sel_at h h'
    rw [nst_cons]
    cases s with
    | true => simp only [sel, if_pos]; rw [Nat.add_comm, List.getElem?_cons_succ]; exact ih
    | false => simp only [sel]; rw [if_neg (by simp), Nat.zero_add]; exact ih
theorem sel_length : ∀ {l : List Bool} {xs : List α}, xs.length ≤ l.length → (sel l xs).length = nst l xs.length
  | l, [], _ => by simp
  | [], _ :: _, h => by simp at h
  | s :: l, y :: xs, h => by
    have ih := sel_length (l := l) (xs := xs) (by simpa using h)
    rw [List.length_cons, nst_cons, ← ih]
    cases s with
    | true => simp [sel, Nat.add_comm]
    | false => simp [sel]
theorem sel_of : ∀ {l : List Bool} {xs : List α} {j : Nat} {x : α}, (sel l xs)[j]? = some x → ∃ k : Nat, l[k]? = some true ∧ xs[k]? = some x ∧ nst l k = j
  | l, [], j, x, h => by simp at h
  | [], _ :: _, j, x, h => by simp [sel] at h
  | true :: l, y :: xs, 0, x, h => ⟨0, rfl, by simpa [sel] using h, rfl⟩
  | true :: l, y :: xs, j + 1, x, h => by
    simp only [sel, List.getElem?_cons_succ] at h
    obtain ⟨k, h1, h2, h3⟩ := sel_of h
    exact ⟨k + 1, by simpa using h1, by simpa using h2, by rw [nst_cons, if_pos rfl, h3]; omega⟩
  | false :: l, y :: xs, j, x, h => by
    simp only [sel] at h
    obtain ⟨k, h1, h2, h3⟩ := sel_of h
    exact ⟨k + 1, by simpa using h1, by simpa using h2, by rw [nst_cons, if_neg (by simp), h3]; omega⟩
theorem sel_mem {l : List Bool} {xs : List α} {x : α} (h : x ∈ sel l xs) : ∃ k : Nat, l[k]? = some true ∧ xs[k]? = some x := by
 obtain ⟨j, hj, rfl⟩ := List.getElem_of_mem h
 obtain ⟨k, h1, h2, _⟩ := sel_of (List.getElem?_eq_getElem hj)
 exact ⟨k, h1, h2⟩
theorem sel_all : ∀ {l : List Bool} {xs : List α}, (∀ i, i < xs.length → l[i]? = some true) → sel l xs = xs
  | l, [], _ => by simp
  | [], _ :: _, h => by have := h 0 (by simp); simp at this
  | s :: l, y :: xs, h => by
    have h0 := h 0 (by simp)
    simp only [List.getElem?_cons_zero] at h0
    injection h0 with h0
    subst h0
    simp only [sel]
    rw [sel_all fun i hi => by have := h (i + 1) (by simp; omega); simpa using this]
theorem sel_snoc : ∀ {l : List Bool} {xs : List α} {x : α} {s : Bool}, l[xs.length]? = some s → sel l (xs ++ [x]) = sel l xs ++ (if s = true then [x] else [])
  | [], _, _, _, h => by simp at h
  | t :: l, [], x, s, h => by
    simp only [List.length_nil, List.getElem?_cons_zero] at h
    injection h with h
    subst h
    cases t <;> simp [sel]
  | t :: l, y :: xs, x, s, h => by
    simp only [List.length_cons, List.getElem?_cons_succ] at h
    have ih := sel_snoc (xs := xs) (x := x) h
    cases t with
    | true => simp only [sel, List.cons_append]; rw [ih]
    | false => simp only [sel, List.cons_append]; rw [ih]
end
end Go.Proofs.YtgadlpdbkohlbaaGreat
namespace Go.Proofs.YtgadlpdbkohlbaaGreat
open Go.RowKit
def doesB (op : Int) : Bool := op == 13 || op == 14 || op == 15 || op == 16
def markL (u : List Bool) (l : List Int) : List Bool := l.foldl (fun u v => u.set v.toNat true) u
def endsL (b : Block) : List Int := b.args ++ b.elses ++ (if b.kind = 1 then [] else [b.ta])
def usedK (b : Block) : Nat → List Bool → List Bool
  | 0, u => u
  | k + 1, u => match b.ins[k]? with
    | none => usedK b k u
    | some x => if doesB x.op = true ∨ u[b.params.toNat + k]? = some true then usedK b k (markL u (uses x)) else usedK b k u
def usedL (b : Block) : List Bool := usedK b b.ins.length (markL (List.replicate (b.params.toNat + b.ins.length) false) (endsL b))
def stayL (b : Block) : List Bool := List.replicate b.params.toNat true ++ List.zipWith (fun (x : Inst) u => doesB x.op || u) b.ins ((usedL b).drop b.params.toNat)
def gT (b : Block) (v : Int) : Int := nst (stayL b) v.toNat
def trimIns (b : Block) : List Inst := (sel ((stayL b).drop b.params.toNat) b.ins).map (mapInst (gT b))
def trimB (b : Block) : Block := ⟨b.params, trimIns b, b.kind, if b.kind = 1 then b.ta else gT b b.ta, b.to, b.args.map (gT b), b.els, b.elses.map (gT b)⟩
theorem doesB_iff {op : Int} : doesB op = true ↔ op = 13 ∨ op = 14 ∨ op = 15 ∨ op = 16 := by simp [doesB, or_assoc]
@[simp] theorem markL_length : ∀ (l : List Int) (u : List Bool), (markL u l).length = u.length
  | [], _ => rfl
  | v :: l, u => by
    show (markL (u.set v.toNat true) l).length = _
    rw [markL_length l, List.length_set]
theorem markL_mono : ∀ {l : List Int} {u : List Bool} {i : Nat}, u[i]? = some true → (markL u l)[i]? = some true
  | [], _, _, h => h
  | v :: l, u, i, h => by
    refine markL_mono (l := l) (u := u.set v.toNat true) ?_
    rw [List.getElem?_set]
    have hi := (List.getElem?_eq_some_iff.1 h).1
    split
    · rename_i e; subst e; rw [if_pos hi]
    · exact h
theorem markL_in : ∀ {l : List Int} {u : List Bool} {v : Int}, v ∈ l → v.toNat < u.length → (markL u l)[v.toNat]? = some true
  | [], _, _, h, _ => by cases h
  | w :: l, u, v, h, hv => by
    rcases List.mem_cons.1 h with h | h
    · subst h
      exact markL_mono (l := l) (by rw [List.getElem?_set, if_pos rfl, if_pos hv])
    · exact markL_in (l := l) (u := u.set w.toNat true) h (by rw [List.length_set]; exact hv)
theorem markL_out : ∀ {l : List Int} {u : List Bool} {i : Nat}, (∀ v ∈ l, v.toNat ≠ i) → (markL u l)[i]? = u[i]?
  | [], _, _, _ => rfl
  | v :: l, u, i, h => by
    show (markL (u.set v.toNat true) l)[i]? = _
    rw [markL_out fun w hw => h w (by simp [hw]), List.getElem?_set, if_neg (h v (by simp))]
structure BlkFit (b : Block) : Prop where
 params : 0 ≤ b.params
 ins : ∀ (k : Nat) (x : Inst), b.ins[k]? = some x → ∀ v ∈ uses x, 0 ≤ v ∧ v < b.params + k
 ends : ∀ v ∈ endsL b, 0 ≤ v ∧ v < b.params + b.ins.length
theorem blkFit {f : Func} {b : Block} (h : blockOk f b = true) : BlkFit b := by
 obtain ⟨h0, h6, h32, hi, he⟩ := blockOk_iff.1 h
 refine ⟨h0, fun k x hx => ?_, fun v hv => ?_⟩
 ·have hk := (List.getElem?_eq_some_iff.1 hx).1
  have := hi k hk
  rw [(List.getElem?_eq_some_iff.1 hx).2] at this
  exact belowB_iff.1 (instOk_below this)
 ·unfold endsL at hv
  rcases endB_iff.1 he with ⟨e1, e2, e3, e4, e5⟩ | ⟨e1, e2, e3, e4⟩ | ⟨e1, e2, e3, e4, e5, e6⟩
  ·rw [if_pos e1, e5] at hv
   simp only [List.append_nil] at hv
   exact (goesB_iff.1 e2).2.2 v hv
  ·rw [if_neg (by omega)] at hv
   rcases List.mem_append.1 hv with hv | hv
   ·rcases List.mem_append.1 hv with hv | hv
    ·exact (goesB_iff.1 e3).2.2 v hv
    ·exact (goesB_iff.1 e4).2.2 v hv
   ·rw [List.mem_singleton.1 hv]; exact e2
  ·rw [if_neg (by omega), e4, e6] at hv
   simp only [List.nil_append, List.mem_singleton] at hv
   rw [hv]; exact e2
section
variable {b : Block}
@[simp] theorem usedK_length : ∀ (k : Nat) (u : List Bool), (usedK b k u).length = u.length
  | 0, _ => rfl
  | k + 1, u => by
    unfold usedK
    split
    · exact usedK_length k u
    · split
      · rw [usedK_length k, markL_length]
      · exact usedK_length k u
theorem usedK_mono : ∀ {k : Nat} {u : List Bool} {i : Nat}, u[i]? = some true → (usedK b k u)[i]? = some true
  | 0, _, _, h => h
  | k + 1, u, i, h => by
    unfold usedK
    split
    · exact usedK_mono h
    · split
      · exact usedK_mono (markL_mono h)
      · exact usedK_mono h
theorem usedK_out (hb : BlkFit b) : ∀ {k : Nat} {u : List Bool} {i : Nat}, b.params.toNat + k ≤ i + 1 → (usedK b k u)[i]? = u[i]?
  | 0, _, _, _ => rfl
  | k + 1, u, i, h => by
    unfold usedK
    split
    · exact usedK_out hb (by omega)
    · rename_i x hx
      split
      · rw [usedK_out hb (by omega), markL_out]
        intro v hv
        have := hb.ins k x hx v hv
        have := hb.params
        omega
      · exact usedK_out hb (by omega)
theorem usedK_uses (hb : BlkFit b) : ∀ {k : Nat} {u : List Bool} {j : Nat} {x : Inst}, b.params.toNat + k ≤ u.length → j < k → b.ins[j]? = some x → (doesB x.op = true ∨ (usedK b k u)[b.params.toNat + j]? = some true) → ∀ v ∈ uses x, (usedK b k u)[v.toNat]? = some true
  | 0, _, _, _, _, h, _, _ => by omega
  | k + 1, u, j, x, hl, hj, hx, hd => by
    intro v hv
    by_cases hjk : j = k
    · subst hjk
      unfold usedK at hd ⊢
      rw [hx] at hd ⊢
      simp only at hd ⊢
      have hvb := hb.ins j x hx v hv
      have hp := hb.params
      have key : doesB x.op = true ∨ u[b.params.toNat + j]? = some true := by
        rcases hd with hd | hd
        · exact .inl hd
        · split at hd
          · rename_i h; exact h
          · rw [usedK_out hb (by omega)] at hd
            exact .inr hd
      rw [if_pos key]
      exact usedK_mono (markL_in hv (by omega))
    · unfold usedK at hd ⊢
      cases hxk : b.ins[k]? with
      | none =>
        rw [hxk] at hd
        exact usedK_uses hb (by omega) (by omega) hx hd v hv
      | some y =>
        rw [hxk] at hd
        simp only at hd ⊢
        split
        · rename_i h
          rw [if_pos h] at hd
          exact usedK_uses hb (by rw [markL_length]; omega) (by omega) hx hd v hv
        · rename_i h
          rw [if_neg h] at hd
          exact usedK_uses hb (by omega) (by omega) hx hd v hv
@[simp] theorem usedL_length (b : Block) : (usedL b).length = b.params.toNat + b.ins.length := by unfold usedL; simp
theorem usedL_ends (hb : BlkFit b) {v : Int} (hv : v ∈ endsL b) : (usedL b)[v.toNat]? = some true := by
 have := hb.ends v hv
 have := hb.params
 exact usedK_mono (markL_in hv (by simp; omega))
theorem usedL_uses (hb : BlkFit b) {k : Nat} {x : Inst} (hx : b.ins[k]? = some x) (h : doesB x.op = true ∨ (usedL b)[b.params.toNat + k]? = some true) {v : Int} (hv : v ∈ uses x) : (usedL b)[v.toNat]? = some true :=
 usedK_uses hb (by simp) (List.getElem?_eq_some_iff.1 hx).1 hx h v hv
theorem stayL_length (b : Block) : (stayL b).length = b.params.toNat + b.ins.length := by
 unfold stayL
 rw [List.length_append, List.length_replicate, List.length_zipWith, List.length_drop, usedL_length]
 omega
theorem stayL_param {i : Nat} (h : i < b.params.toNat) : (stayL b)[i]? = some true := by
 unfold stayL
 rw [List.getElem?_append_left (by simpa using h), List.getElem?_replicate, if_pos h]
theorem stayL_ins {k : Nat} {x : Inst} (hx : b.ins[k]? = some x) : (stayL b)[b.params.toNat + k]? = some (doesB x.op || ((usedL b)[b.params.toNat + k]?).getD false) := by
 have hk := (List.getElem?_eq_some_iff.1 hx).1
 have hu : (usedL b)[b.params.toNat + k]? = some ((usedL b)[b.params.toNat + k]'(by simp; omega)) := List.getElem?_eq_getElem _
 unfold stayL
 rw [List.getElem?_append_right (by simp), List.length_replicate, Nat.add_sub_cancel_left, List.getElem?_zipWith, hx, List.getElem?_drop, hu]
 rfl
theorem stayL_used {i : Nat} (h : (usedL b)[i]? = some true) : (stayL b)[i]? = some true := by
 have hi := (List.getElem?_eq_some_iff.1 h).1
 rw [usedL_length] at hi
 by_cases hp : i < b.params.toNat
 ·exact stayL_param hp
 ·obtain ⟨k, rfl⟩ : ∃ k, i = b.params.toNat + k := ⟨i - b.params.toNat, by omega⟩
  have hk : k < b.ins.length := by omega
  rw [stayL_ins (List.getElem?_eq_getElem hk), h]
  simp
theorem stayL_uses (hb : BlkFit b) {k : Nat} {x : Inst} (hx : b.ins[k]? = some x) (h : (stayL b)[b.params.toNat + k]? = some true) {v : Int} (hv : v ∈ uses x) : (stayL b)[v.toNat]? = some true := by
 rw [stayL_ins hx] at h
 refine stayL_used (usedL_uses hb hx ?_ hv)
 injection h with h
 rw [Bool.or_eq_true] at h
 refine h.elim Or.inl fun h => Or.inr ?_
 cases hu : (usedL b)[b.params.toNat + k]? with
 | none => rw [hu] at h; cases h
 | some s => rw [hu] at h; exact congrArg some h
theorem stayL_ends (hb : BlkFit b) {v : Int} (hv : v ∈ endsL b) : (stayL b)[v.toNat]? = some true := stayL_used (usedL_ends hb hv)
theorem nst_ins (b : Block) (k : Nat) : nst (stayL b) (b.params.toNat + k) = b.params.toNat + nst ((stayL b).drop b.params.toNat) k := by
 have e : stayL b = (stayL b).take b.params.toNat ++ (stayL b).drop b.params.toNat := (List.take_append_drop _ _).symm
 have hl : ((stayL b).take b.params.toNat).length = b.params.toNat := by rw [List.length_take, stayL_length]; omega
 have h := nst_append_le (l := (stayL b).take b.params.toNat) (l' := (stayL b).drop b.params.toNat) (k := k)
 rw [← e, hl] at h
 rw [h]
 congr 1
 refine nst_all (by omega) fun i hi => ?_
 rw [List.getElem?_take, if_pos hi]
 exact stayL_param hi
theorem trimIns_length (b : Block) : (trimIns b).length = nst ((stayL b).drop b.params.toNat) b.ins.length := by
 unfold trimIns
 rw [List.length_map, sel_length (by rw [List.length_drop, stayL_length]; omega)]
theorem trimIns_le (b : Block) : (trimIns b).length ≤ b.ins.length := by rw [trimIns_length]; exact nst_le _ _
theorem trimIns_at {k : Nat} {x : Inst} (hx : b.ins[k]? = some x) (h : (stayL b)[b.params.toNat + k]? = some true) : (trimIns b)[nst ((stayL b).drop b.params.toNat) k]? = some (mapInst (gT b) x) := by
 unfold trimIns
 rw [List.getElem?_map, sel_at (x := x) (by rw [List.getElem?_drop]; exact h) hx]
 rfl
theorem trimIns_of {j : Nat} {y : Inst} (h : (trimIns b)[j]? = some y) : ∃ k x, b.ins[k]? = some x ∧ (stayL b)[b.params.toNat + k]? = some true ∧ nst ((stayL b).drop b.params.toNat) k = j ∧ y = mapInst (gT b) x := by
  unfold trimIns at h
  rw [List.getElem?_map] at h
  cases hs : (sel ((stayL b).drop b.params.toNat) b.ins)[j]? with
  | none => rw [hs] at h; cases h
  | some x =>
    rw [hs] at h
    obtain ⟨k, h1, h2, h3⟩ := sel_of hs
    rw [List.getElem?_drop] at h1
    injection h with h
    exact ⟨k, x, h2, h1, h3, h.symm⟩
theorem gT_lt {v : Int} {k : Nat} (h : (stayL b)[v.toNat]? = some true) (hv : 0 ≤ v ∧ v < b.params + k) (hp : 0 ≤ b.params) : 0 ≤ gT b v ∧ gT b v < b.params + nst ((stayL b).drop b.params.toNat) k := by
 have h1 := nst_lt h (show v.toNat < b.params.toNat + k by omega)
 rw [nst_ins] at h1
 unfold gT
 omega
theorem gT_ins {v : Int} {k : Nat} {x : Inst} (hb : BlkFit b) (hx : b.ins[k]? = some x) (h : (stayL b)[b.params.toNat + k]? = some true) (hv : v ∈ uses x) : 0 ≤ gT b v ∧ gT b v < b.params + nst ((stayL b).drop b.params.toNat) k :=
 gT_lt (stayL_uses hb hx h hv) (hb.ins k x hx v hv) hb.params
theorem gT_ends {v : Int} (hb : BlkFit b) (hv : v ∈ endsL b) : 0 ≤ gT b v ∧ gT b v < b.params + (trimIns b).length := by
 rw [trimIns_length]
 exact gT_lt (stayL_ends hb hv) (hb.ends v hv) hb.params
end
theorem mapInst_ok' {x : Inst} {n n' : Int} {g : Int → Int} (h : instOk x n = true) (hg : ∀ v ∈ uses x, 0 ≤ g v ∧ g v < n') : instOk (mapInst g x) n' = true := by
 unfold instOk at h ⊢
 simp only [Bool.and_eq_true, decide_eq_true_eq] at h ⊢
 obtain ⟨⟨⟨⟨⟨⟨⟨⟨h1, h2⟩, hb⟩, hA⟩, hB⟩, hK⟩, hN⟩, h6⟩, hNm⟩ := h
 refine ⟨⟨⟨⟨⟨⟨⟨⟨h1, h2⟩, ?_⟩, ?_⟩, ?_⟩, hK⟩, ?_⟩, ?_⟩, hNm⟩
 ·rw [uses_map, belowB_iff]
  intro v hv
  obtain ⟨u, hu, rfl⟩ := List.mem_map.1 hv
  exact hg u hu
 ·cases h1 : isOne x.op
  ·simpa [mapInst, h1] using hA
  ·simp [mapInst, h1]
 ·cases h1 : isTwo x.op
  ·simpa [mapInst, h1] using hB
  ·simp [mapInst, h1]
 ·simpa [mapInst] using hN
 ·simpa [mapInst] using h6
end Go.Proofs.YtgadlpdbkohlbaaGreat
namespace Go.Proofs.YtgadlpdbkohlbaaGreat
open Go.RowKit
inductive RchB (f : Func) : Nat → Prop
 | first (h : 0 < f.blocks.length) : RchB f 0
 | to {k : Nat} {b : Block} (h : RchB f k) (hb : f.blocks[k]? = some b) (hk : ¬ b.kind = 3) : RchB f b.to.toNat
 | els {k : Nat} {b : Block} (h : RchB f k) (hb : f.blocks[k]? = some b) (hk : b.kind = 2) : RchB f b.els.toNat
def stepB (f : Func) (u : List Bool) (k : Nat) : List Bool := match f.blocks[k]? with
 | none => u
 | some b => if u[k]? = some true then (if b.kind = 3 then u else if b.kind = 2 then (u.set b.to.toNat true).set b.els.toNat true else u.set b.to.toNat true) else u
def stepsB (f : Func) (u : List Bool) (n : Nat) : List Bool := (List.range n).foldl (stepB f) u
def roundB (f : Func) (u : List Bool) : List Bool := stepsB f (u.set 0 true) f.blocks.length
def roundsB (f : Func) : Nat → List Bool
 | 0 => List.replicate f.blocks.length false
 | n + 1 => roundB f (roundsB f n)
def inBL (f : Func) : List Bool := roundsB f f.blocks.length
def LeB (u v : List Bool) : Prop := v.length = u.length ∧ ∀ i : Nat, u[i]? = some true → v[i]? = some true
theorem LeB.refl (u : List Bool) : LeB u u := ⟨rfl, fun _ h => h⟩
theorem LeB.trans {u v w : List Bool} (h : LeB u v) (h' : LeB v w) : LeB u w := ⟨h'.1.trans h.1, fun i hi => h'.2 i (h.2 i hi)⟩
theorem LeB.set (u : List Bool) (k : Nat) : LeB u (u.set k true) := ⟨List.length_set, fun i h => by
 rw [List.getElem?_set]
 have hi := (List.getElem?_eq_some_iff.1 h).1
 split
 ·rename_i e; subst e; rw [if_pos hi]
 ·exact h⟩
theorem LeB.eq_of_count {u v : List Bool} (h : LeB u v) (hc : v.countP id ≤ u.countP id) : v = u := by
  obtain ⟨hl, hm⟩ := h
  induction u generalizing v with
  | nil => cases v with
    | nil => rfl
    | cons _ _ => simp at hl
  | cons s u ih =>
    cases v with
    | nil => simp at hl
    | cons t v =>
      have hm' : LeB u v := ⟨by simpa using hl, fun i hi => by have := hm (i + 1) (by simpa using hi); simpa using this⟩
      have hle : ∀ {u v : List Bool}, LeB u v → u.countP id ≤ v.countP id := by
        intro u
        induction u with
        | nil => intro v _; simp
        | cons s u ih =>
          intro v h
          cases v with
          | nil => have := h.1; simp at this
          | cons t v =>
            have h1 := ih (v := v) ⟨by simpa using h.1, fun i hi => by have := h.2 (i + 1) (by simpa using hi); simpa using this⟩
            rw [List.countP_cons, List.countP_cons]
            cases s with
            | false => cases t <;> simp <;> omega
            | true =>
              have : t = true := by have := h.2 0 rfl; simpa using this
              subst this
              simp; omega
      have h1 := hle hm'
      rw [List.countP_cons, List.countP_cons] at hc
      cases s with
      | false =>
        cases t with
        | false =>
          simp at hc
          rw [ih (v := v) (by simpa using hc) hm'.1 hm'.2]
        | true => simp at hc; omega
      | true =>
        have : t = true := by have := hm 0 rfl; simpa using this
        subst this
        simp at hc
        rw [ih (v := v) (by simpa using hc) hm'.1 hm'.2]
section
variable {f : Func}
theorem stepB_le (u : List Bool) (k : Nat) : LeB u (stepB f u k) := by
 unfold stepB
 split
 ·exact LeB.refl u
 ·split
  ·split
   ·exact LeB.refl u
   ·split
    ·exact (LeB.set u _).trans (LeB.set _ _)
    ·exact LeB.set u _
  ·exact LeB.refl u
theorem stepsB_succ (u : List Bool) (n : Nat) : stepsB f u (n + 1) = stepB f (stepsB f u n) n := by
 unfold stepsB
 rw [List.range_succ, List.foldl_append]
 rfl
theorem stepsB_le (u : List Bool) : ∀ n, LeB u (stepsB f u n)
 | 0 => LeB.refl u
 | n + 1 => by rw [stepsB_succ]; exact (stepsB_le u n).trans (stepB_le _ _)
theorem stepsB_mono (u : List Bool) {i n : Nat} (h : i ≤ n) : LeB (stepsB f u i) (stepsB f u n) := by
  induction n with
  | zero => obtain rfl : i = 0 := by omega
            exact LeB.refl _
  | succ n ih =>
    rcases Nat.lt_or_ge i (n + 1) with hi | hi
    · rw [stepsB_succ]; exact (ih (by omega)).trans (stepB_le _ _)
    · obtain rfl : i = n + 1 := by omega
      exact LeB.refl _
theorem roundB_le (u : List Bool) : LeB u (roundB f u) := (LeB.set u 0).trans (stepsB_le _ _)
@[simp] theorem roundsB_length (f : Func) : ∀ n, (roundsB f n).length = f.blocks.length
 | 0 => by simp [roundsB]
 | n + 1 => by show (roundB f (roundsB f n)).length = _; rw [(roundB_le _).1, roundsB_length f n]
@[simp] theorem inBL_length (f : Func) : (inBL f).length = f.blocks.length := roundsB_length f _
theorem stepB_rch {u : List Bool} (h : ∀ i : Nat, u[i]? = some true → RchB f i) (k : Nat) : ∀ i : Nat, (stepB f u k)[i]? = some true → RchB f i := by
 intro i hi
 unfold stepB at hi
 split at hi
 ·exact h i hi
 ·rename_i b hb
  split at hi
  ·rename_i hu
   split at hi
   ·exact h i hi
   ·rename_i h3
    split at hi
    ·rename_i h2
     rw [List.getElem?_set] at hi
     split at hi
     ·rename_i e; rw [← e]; exact .els (h k hu) hb h2
     ·rw [List.getElem?_set] at hi
      split at hi
      ·rename_i e; rw [← e]; exact .to (h k hu) hb h3
      ·exact h i hi
    ·rw [List.getElem?_set] at hi
     split at hi
     ·rename_i e; rw [← e]; exact .to (h k hu) hb h3
     ·exact h i hi
  ·exact h i hi
theorem stepsB_rch {u : List Bool} (h : ∀ i : Nat, u[i]? = some true → RchB f i) : ∀ n, ∀ i : Nat, (stepsB f u n)[i]? = some true → RchB f i
 | 0 => h
 | n + 1 => by rw [stepsB_succ]; exact stepB_rch (stepsB_rch h n) n
theorem roundsB_rch : ∀ n, ∀ i : Nat, (roundsB f n)[i]? = some true → RchB f i
  | 0, i, h => by
    unfold roundsB at h
    rw [List.getElem?_replicate] at h
    split at h <;> simp at h
  | n + 1, i, h => by
    refine stepsB_rch (fun i hi => ?_) _ i h
    rw [List.getElem?_set] at hi
    split at hi
    · rename_i e
      subst e
      split at hi
      · rename_i hl; exact .first (by rw [roundsB_length] at hl; exact hl)
      · cases hi
    · exact roundsB_rch n i hi
structure ClosedB (f : Func) (u : List Bool) : Prop where
 len : u.length = f.blocks.length
 first : 0 < f.blocks.length → u[0]? = some true
 next : ∀ (k : Nat), stepB f u k = u
theorem closed_of (hl : ∀ u : List Bool, u.length = f.blocks.length → True) {u : List Bool} (hu : u.length = f.blocks.length) (h : roundB f u = u) : ClosedB f u := by
  have h0 : LeB (u.set 0 true) u := by
    have := stepsB_le (f := f) (u.set 0 true) f.blocks.length
    rwa [show stepsB f (u.set 0 true) f.blocks.length = u from h] at this
  have e0 : u.set 0 true = u := by
    apply List.ext_getElem?
    intro i
    rw [List.getElem?_set]
    split
    · rename_i e
      subst e
      split
      · rename_i hl
        have := h0.2 0 (by rw [List.getElem?_set, if_pos rfl, if_pos hl])
        rw [this]
      · rename_i hl
        rw [List.getElem?_eq_none (by omega)]
    · rfl
  have hs : ∀ n, n ≤ f.blocks.length → stepsB f u n = u := by
    intro n hn
    have h1 := stepsB_le (f := f) u n
    have h2 := stepsB_mono (f := f) u hn
    rw [show stepsB f u f.blocks.length = u by have := h; unfold roundB at this; rwa [e0] at this] at h2
    apply List.ext_getElem?
    intro i
    cases hi : u[i]? with
    | none =>
      have := List.getElem?_eq_none_iff.1 hi
      rw [List.getElem?_eq_none (by rw [h1.1]; exact this)]
    | some s =>
      have hi' := (List.getElem?_eq_some_iff.1 hi).1
      have hi2 : (stepsB f u n)[i]? = some ((stepsB f u n)[i]'(by rw [h1.1]; exact hi')) := List.getElem?_eq_getElem _
      cases s with
      | true => exact h1.2 i hi
      | false =>
        rw [hi2]
        cases hv : (stepsB f u n)[i]'(by rw [h1.1]; exact hi') with
        | false => rfl
        | true =>
          rw [hv] at hi2
          have := h2.2 i hi2
          rw [hi] at this
          cases this
  refine ⟨hu, fun hl => ?_, fun k => ?_⟩
  · have := h0.2 0 (by rw [List.getElem?_set, if_pos rfl, if_pos (by omega)])
    exact this
  · by_cases hk : k < f.blocks.length
    · have h1 := hs k (by omega)
      have h2 := hs (k + 1) (by omega)
      rw [stepsB_succ, h1] at h2
      exact h2
    · unfold stepB
      rw [List.getElem?_eq_none (by omega)]
theorem ClosedB.round {u : List Bool} (h : ClosedB f u) : roundB f u = u := by
 have e0 : u.set 0 true = u := by
  apply List.ext_getElem?
  intro i
  rw [List.getElem?_set]
  split
  ·rename_i e
   subst e
   split
   ·rename_i hl
    rw [h.first (by rw [← h.len]; exact hl)]
   ·rw [List.getElem?_eq_none (by omega)]
  ·rfl
 unfold roundB
 rw [e0]
 have : ∀ n, stepsB f u n = u := by
  intro n
  induction n with
  | zero => rfl
  | succ n ih => rw [stepsB_succ, ih, h.next]
 exact this _
theorem roundsB_closed (f : Func) : ∀ n, ClosedB f (roundsB f n) ∨ n ≤ (roundsB f n).countP id
  | 0 => .inr (Nat.zero_le _)
  | n + 1 => by
    show ClosedB f (roundB f (roundsB f n)) ∨ n + 1 ≤ (roundB f (roundsB f n)).countP id
    rcases roundsB_closed f n with h | h
    · rw [h.round]; exact .inl h
    · by_cases e : roundB f (roundsB f n) = roundsB f n
      · rw [e]; exact .inl (closed_of (fun _ _ => trivial) (roundsB_length f n) e)
      · refine .inr (Nat.succ_le_of_lt (Nat.lt_of_le_of_lt h (Nat.lt_of_not_le fun hc => e ((roundB_le _).eq_of_count hc))))
theorem all_of_count : ∀ {u : List Bool}, u.length ≤ u.countP id → ∀ i, i < u.length → u[i]? = some true
  | [], _, _, h => by simp at h
  | s :: u, h, i, hi => by
    have hle : u.countP id ≤ u.length := List.countP_le_length
    rw [List.countP_cons, List.length_cons] at h
    cases s with
    | false => simp at h; omega
    | true =>
      simp at h
      cases i with
      | zero => rfl
      | succ i => exact all_of_count h i (by simpa using hi)
theorem set_same {u : List Bool} {k : Nat} (h : u[k]? = some true) : u.set k true = u := by
 apply List.ext_getElem?
 intro i
 rw [List.getElem?_set]
 split
 ·rename_i e; subst e; rw [if_pos (List.getElem?_eq_some_iff.1 h).1, h]
 ·rfl
def EndsIn (f : Func) : Prop := ∀ b ∈ f.blocks, (¬ b.kind = 3 → b.to.toNat < f.blocks.length) ∧ (b.kind = 2 → b.els.toNat < f.blocks.length)
theorem inBL_closed (he : EndsIn f) : ClosedB f (inBL f) := by
 rcases roundsB_closed f f.blocks.length with h | h
 ·exact h
 ·have hall := all_of_count (u := inBL f) (by rw [inBL_length]; exact h)
  rw [inBL_length] at hall
  refine ⟨inBL_length f, fun hl => hall 0 hl, fun k => ?_⟩
  unfold stepB
  split
  ·rfl
  ·rename_i b hb
   have hbe := he b (List.mem_of_getElem? hb)
   split
   ·split
    ·rfl
    ·rename_i h3
     have e1 := set_same (hall _ (hbe.1 h3))
     split
     ·rename_i h2
      rw [e1, set_same (hall _ (hbe.2 h2))]
     ·exact e1
   ·rfl
theorem inBL_iff (he : EndsIn f) (k : Nat) : (inBL f)[k]? = some true ↔ RchB f k := by
  have hc := inBL_closed he
  refine ⟨roundsB_rch _ k, fun h => ?_⟩
  induction h with
  | first h => exact hc.first h
  | @to k b h hb hk ih =>
    have := hc.next k
    unfold stepB at this
    rw [hb] at this
    simp only at this
    rw [if_pos ih, if_neg hk] at this
    have hbe := (he b (List.mem_of_getElem? hb)).1 hk
    rw [← this]
    split
    · refine (LeB.set _ _).2 _ ?_
      rw [List.getElem?_set, if_pos rfl, if_pos (by rw [inBL_length]; exact hbe)]
    · rw [List.getElem?_set, if_pos rfl, if_pos (by rw [inBL_length]; exact hbe)]
  | @els k b h hb hk ih =>
    have := hc.next k
    unfold stepB at this
    rw [hb] at this
    simp only at this
    rw [if_pos ih, if_neg (by omega), if_pos hk] at this
    have hbe := (he b (List.mem_of_getElem? hb)).2 hk
    rw [← this, List.getElem?_set, if_pos rfl, if_pos (by rw [List.length_set, inBL_length]; exact hbe)]
end
end Go.Proofs.YtgadlpdbkohlbaaGreat
namespace Go.Proofs.YtgadlpdbkohlbaaGreat
open Go.RowKit
def gB (f : Func) (v : Int) : Int := nst (inBL f) v.toNat
def endT (f : Func) (b : Block) : Block := { b with to := if b.kind = 3 then b.to else gB f b.to, els := if b.kind = 2 then gB f b.els else b.els }
def trimF (f : Func) : Func := { f with blocks := (sel (inBL f) f.blocks).map fun b => endT f (trimB b) }
def trimM (m : Module) : Module := mapM trimF m
theorem endsIn {f : Func} (h : funcOk f = true) : EndsIn f := fun b hb => by
 have hbk := (blockOk_iff.1 (List.all_eq_true.1 (funcOk_all h) b hb)).2.2.2.2
 have hg : ∀ (to : Int) (l : List Int) (n : Int), goesB f to l n = true → to.toNat < f.blocks.length := fun to l n hg => by
  obtain ⟨_, ⟨c, hc, _⟩, _⟩ := goesB_iff.1 hg
  exact (List.getElem?_eq_some_iff.1 hc).1
 rcases endB_iff.1 hbk with ⟨e1, e2, _⟩ | ⟨e1, _, e3, e4⟩ | ⟨e1, _⟩
 ·exact ⟨fun _ => hg _ _ _ e2, fun h => by omega⟩
 ·exact ⟨fun _ => hg _ _ _ e3, fun _ => hg _ _ _ e4⟩
 ·exact ⟨fun h => absurd e1 h, fun h => by omega⟩
section
variable {f : Func}
theorem trimF_at (h : funcOk f = true) {k : Nat} {b : Block} (hr : RchB f k) (hb : f.blocks[k]? = some b) : (trimF f).blocks[nst (inBL f) k]? = some (endT f (trimB b)) := by
 show ((sel (inBL f) f.blocks).map fun b => endT f (trimB b))[nst (inBL f) k]? = _
 rw [List.getElem?_map, sel_at ((inBL_iff (endsIn h) k).2 hr) hb]
 rfl
theorem trimF_of (h : funcOk f = true) {b' : Block} (hb : b' ∈ (trimF f).blocks) : ∃ k b, RchB f k ∧ f.blocks[k]? = some b ∧ b' = endT f (trimB b) := by
 obtain ⟨b, hb2, rfl⟩ := List.mem_map.1 hb
 obtain ⟨k, h1, h2⟩ := sel_mem hb2
 exact ⟨k, b, (inBL_iff (endsIn h) k).1 h1, h2, rfl⟩
@[simp] theorem endT_params (b : Block) : (endT f (trimB b)).params = b.params := rfl
@[simp] theorem endT_ins (b : Block) : (endT f (trimB b)).ins = trimIns b := rfl
@[simp] theorem endT_kind (b : Block) : (endT f (trimB b)).kind = b.kind := rfl
@[simp] theorem endT_ta (b : Block) : (endT f (trimB b)).ta = if b.kind = 1 then b.ta else gT b b.ta := rfl
@[simp] theorem endT_to (b : Block) : (endT f (trimB b)).to = if b.kind = 3 then b.to else gB f b.to := rfl
@[simp] theorem endT_els (b : Block) : (endT f (trimB b)).els = if b.kind = 2 then gB f b.els else b.els := rfl
@[simp] theorem endT_args (b : Block) : (endT f (trimB b)).args = b.args.map (gT b) := rfl
@[simp] theorem endT_elses (b : Block) : (endT f (trimB b)).elses = b.elses.map (gT b) := rfl
theorem gB_nat (f : Func) (v : Int) : (gB f v).toNat = nst (inBL f) v.toNat := by unfold gB; omega
theorem trim_goes (h : funcOk f = true) {b : Block} (hb : blockOk f b = true) {to : Int} {l : List Int} (hr : RchB f to.toNat) (hg : goesB f to l (b.params + b.ins.length) = true) (hl : ∀ v ∈ l, v ∈ endsL b) : goesB (trimF f) (gB f to) (l.map (gT b)) (b.params + (trimIns b).length) = true := by
 obtain ⟨h1, ⟨c, h2, h3⟩, h4⟩ := goesB_iff.1 hg
 refine goesB_iff.2 ⟨by unfold gB; omega, ⟨_, by rw [gB_nat]; exact trimF_at h hr h2, by simpa using h3⟩, fun v hv => ?_⟩
 obtain ⟨u, hu, rfl⟩ := List.mem_map.1 hv
 exact gT_ends (blkFit hb) (hl u hu)
theorem trim_block (h : funcOk f = true) {k : Nat} {b : Block} (hr : RchB f k) (hb : f.blocks[k]? = some b) : blockOk (trimF f) (endT f (trimB b)) = true := by
 have hbk : blockOk f b = true := List.all_eq_true.1 (funcOk_all h) b (List.mem_of_getElem? hb)
 have hfit := blkFit hbk
 obtain ⟨h0, h6, h32, hi, he⟩ := blockOk_iff.1 hbk
 refine blockOk_iff.2 ⟨h0, h6, Nat.le_trans (trimIns_le b) h32, fun j hj => ?_, ?_⟩
 ·simp only [endT_ins, endT_params] at hj ⊢
  obtain ⟨i, x, hx, hs, hn, hy⟩ := trimIns_of (List.getElem?_eq_getElem hj)
  rw [hy]
  have hik := (List.getElem?_eq_some_iff.1 hx).1
  have hxo := hi i hik
  rw [(List.getElem?_eq_some_iff.1 hx).2] at hxo
  refine mapInst_ok' hxo fun v hv => ?_
  have := gT_ins hfit hx hs hv
  rw [hn] at this
  exact this
 ·rw [endB_iff] at he ⊢
  simp only [endT_kind, endT_params, endT_ins, endT_ta, endT_to, endT_els, endT_args, endT_elses]
  rcases he with ⟨e1, e2, e3, e4, e5⟩ | ⟨e1, e2, e3, e4⟩ | ⟨e1, e2, e3, e4, e5, e6⟩
  ·rw [if_neg (by omega), if_pos e1, if_neg (by omega)]
   exact .inl ⟨e1, trim_goes h hbk (.to hr hb (by omega)) e2 (fun v hv => by unfold endsL; simp [hv]), e3, e4, by rw [e5]; rfl⟩
  ·rw [if_neg (by omega), if_neg (by omega), if_pos e1]
   exact .inr (.inl ⟨e1, gT_ends hfit (by unfold endsL; rw [if_neg (by omega)]; simp), trim_goes h hbk (.to hr hb (by omega)) e3 (fun v hv => by unfold endsL; simp [hv]), trim_goes h hbk (.els hr hb e1) e4 (fun v hv => by unfold endsL; simp [hv])⟩)
  ·rw [if_pos e1, if_neg (by omega), if_neg (by omega)]
   exact .inr (.inr ⟨e1, gT_ends hfit (by unfold endsL; rw [if_neg (by omega)]; simp), e3, by rw [e4]; rfl, e5, by rw [e6]; rfl⟩)
end
theorem trim_map {m : Module} (hok : ModOk m) : MapF m trimF where
 name _ _ := rfl
 params _ _ := rfl
 ok f hf := by
  have h := hok.funcs f hf
  have hlen : (trimF f).blocks.length ≤ f.blocks.length := by
   show ((sel (inBL f) f.blocks).map _).length ≤ _
   rw [List.length_map, sel_length (by simp)]
   exact nst_le _ _
  have hz : (trimF f).blocks.length = 0 ↔ f.blocks.length = 0 := by
   constructor
   ·intro h0
    refine Classical.byContradiction fun hne => ?_
    have hp : 0 < f.blocks.length := by omega
    have := trimF_at h (.first hp) (List.getElem?_eq_getElem hp)
    have := (List.getElem?_eq_some_iff.1 this).1
    omega
   ·omega
  refine funcOk_mk h rfl rfl rfl hlen hz (fun b hb => ?_) (fun b hb => ?_)
  ·have hp : 0 < f.blocks.length := by
    have := (List.getElem?_eq_some_iff.1 hb).1
    omega
   have e := trimF_at h (.first hp) (List.getElem?_eq_getElem hp)
   rw [nst_zero, hb] at e
   injection e with e
   rw [e, endT_params]
   exact funcOk_first h hp
  ·obtain ⟨k, c, hr, hc, rfl⟩ := trimF_of h hb
   exact trim_block h hr hc
 blocks f hf := by
  have h := hok.funcs f hf
  constructor
  ·intro h0
   refine Classical.byContradiction fun hne => ?_
   have hp : 0 < f.blocks.length := by omega
   have := trimF_at h (.first hp) (List.getElem?_eq_getElem hp)
   have := (List.getElem?_eq_some_iff.1 this).1
   omega
  ·intro h0
   show ((sel (inBL f) f.blocks).map _).length = 0
   rw [List.length_eq_zero_iff.1 h0]
   simp
 ins f hf x hx _ := by
  obtain ⟨b', hb', hx⟩ := List.mem_flatMap.1 hx
  obtain ⟨k, b, _, hb, rfl⟩ := trimF_of (hok.funcs f hf) hb'
  rw [endT_ins] at hx
  obtain ⟨j, hj, rfl⟩ := List.getElem_of_mem hx
  obtain ⟨i, y, hy, _, _, e⟩ := trimIns_of (List.getElem?_eq_getElem hj)
  rw [e]
  exact ⟨y, List.mem_flatMap.2 ⟨b, List.mem_of_getElem? hb, List.mem_of_getElem? hy⟩, rfl, rfl, by simp [mapInst]⟩
theorem trim_ok {m : Module} (h : ModOk m) : ModOk (trimM m) := (trim_map h).okM h
theorem trim_whole {m : Module} (hw : wholeE m = 0) : wholeE (trimM m) = 0 := (trim_map (wholeE_zero.1 hw).1).whole hw
def RTrim (f : Func) (at' i : Nat) (vals : List Int) (f2 : Func) (at2 i2 : Nat) (vals2 : List Int) : Prop :=
 f2 = trimF f ∧ RchB f at' ∧ at2 = nst (inBL f) at' ∧ ∀ b, f.blocks[at']? = some b → i2 = nst ((stayL b).drop b.params.toNat) i ∧ vals2 = sel (stayL b) vals
theorem valAt_sel {b : Block} {vals : List Int} {v : Int} (h : (stayL b)[v.toNat]? = some true) (hv : v.toNat < vals.length) : valAt (sel (stayL b) vals) (gT b v) = valAt vals v := by
 have hx : vals[v.toNat]? = some vals[v.toNat] := List.getElem?_eq_getElem hv
 have := sel_at h hx
 unfold valAt gT
 rw [Int.toNat_natCast, this, hx]
theorem pickI_sel {b : Block} {vals : List Int} {l : List Int} (h : ∀ v ∈ l, (stayL b)[v.toNat]? = some true ∧ v.toNat < vals.length) : pickI (sel (stayL b) vals) (l.map (gT b)) = pickI vals l := by
 unfold pickI
 rw [List.map_map]
 exact List.map_congr_left fun v hv => valAt_sel (h v hv).1 (h v hv).2
theorem RTrim.start {f : Func} (h : funcOk f = true) {k : Nat} (hr : RchB f k) {vals : List Int} (hl : ∀ b, f.blocks[k]? = some b → (vals.length : Int) = b.params) : RTrim f k 0 vals (trimF f) (nst (inBL f) k) 0 vals :=
 ⟨rfl, hr, rfl, fun b hb => ⟨rfl, (sel_all fun i hi => stayL_param (by have := hl b hb; omega)).symm⟩⟩
theorem trim_runs {m : Module} (hw : wholeE m = 0) : RunRel m (trimM m) := by
  have hok := (wholeE_zero.1 hw).1
  have hblk : ∀ {f : Func} {at' : Nat} {b : Block}, f ∈ m.funcs → f.blocks[at']? = some b → blockOk f b = true := fun hf hb => List.all_eq_true.1 (funcOk_all (hok.funcs _ hf)) _ (List.mem_of_getElem? hb)
  refine SimOk.run (R := fun _ _ _ => RTrim) (fun inp fuel deep => ?_) hw rfl
  refine ⟨fun f args hf hbl hl => ?_, ?_, ?_, ?_, ?_⟩
  · rw [show trimM m = mapM trimF m from rfl, (trim_map hok).funcOf hok hf]
    exact RTrim.start (hok.funcs f hf) (.first hbl) (fun b hb => by
      rw [← (List.getElem?_eq_some_iff.1 hb).2, funcOk_first (hok.funcs f hf) hbl]; exact hl)
  · rintro w w2 f at' i vals f2 at2 i2 vals2 n b x ⟨rfl, hr, rfl, hR⟩ hv hp hp2 hg hg2 hwr hx h14 hs
    obtain ⟨rfl, rfl⟩ := hR b hv.blk
    have hbk := hblk hv.mem hv.blk
    have hfit := blkFit hbk
    have hfo := hok.funcs f hv.mem
    have hs2 := hwr.lt hg hs
    have hbt := trimF_at hfo hr hv.blk
    have hik := (List.getElem?_eq_some_iff.1 hx).1
    have hxo := (blockOk_iff.1 hbk).2.2.2.1 i hik
    rw [(List.getElem?_eq_some_iff.1 hx).2] at hxo
    have hop := instOk_op hxo
    have hP := hfit.params
    have hlen : vals.length = b.params.toNat + i := by have := hv.len; omega
    have hst := stayL_ins hx
    have hwr' := hwr.step hs hs2
    obtain ⟨s, hss⟩ : ∃ s, (doesB x.op || ((usedL b)[b.params.toNat + i]?).getD false) = s := ⟨_, rfl⟩
    rw [hss] at hst
    have hnst : nst ((stayL b).drop b.params.toNat) (i + 1) = nst ((stayL b).drop b.params.toNat) i + (if s = true then 1 else 0) := nst_snoc (by rw [List.getElem?_drop]; exact hst)
    have hsel : ∀ v : Int, sel (stayL b) (vals ++ [v]) = sel (stayL b) vals ++ (if s = true then [v] else []) := fun v => sel_snoc (by rw [hlen]; exact hst)
    have hR' : ∀ (v : Int) (i2' : Nat) (vals2' : List Int), i2' = nst ((stayL b).drop b.params.toNat) (i + 1) → vals2' = sel (stayL b) (vals ++ [v]) → RTrim f at' (i + 1) (vals ++ [v]) (trimF f) (nst (inBL f) at') i2' vals2' := fun v i2' vals2' h1 h2 =>
      ⟨rfl, hr, rfl, fun b' hb' => by
        obtain rfl : b = b' := by rw [hv.blk] at hb'; injection hb'
        exact ⟨h1, h2⟩⟩
    cases s with
    | true =>
      have huse : ∀ v ∈ uses x, valAt (sel (stayL b) vals) (gT b v) = valAt vals v := fun v hvu => valAt_sel (stayL_uses hfit hx hst hvu) (by have := hfit.ins i x hx v hvu; omega)
      have hxt : (endT f (trimB b)).ins[nst ((stayL b).drop b.params.toNat) i]? = some (mapInst (gT b) x) := by rw [endT_ins]; exact trimIns_at hx hst
      obtain ⟨r1, r2⟩ := hwr'.gives (m := m) (m2 := trimM m) rfl inp (x := x) (x2 := mapInst (gT b) x) (vals := vals) (vals2 := sel (stayL b) vals) rfl rfl rfl
        (fun h1 => by
          simp only [mapInst, if_pos h1]
          refine huse _ ?_
          unfold uses
          rcases (isOne_iff _).1 h1 with h | h
          · rw [if_pos h]; simp
          · rw [if_neg (by omega), if_pos h]; simp)
        (fun h2 => by
          simp only [mapInst, if_pos h2]
          refine huse _ ?_
          unfold uses
          rw [if_pos ((isTwo_iff _).1 h2)]; simp) ⟨hop.1, hop.2, h14⟩
      obtain ⟨c1, c2, c3⟩ := hg2.gives hs2 inp (mapInst (gT b) x) hp2
      refine ⟨_, nst ((stayL b).drop b.params.toNat) i + 1, sel (stayL b) vals ++ [(givesW m inp x vals (stepW fuel w)).2], c1, Pos.snoc hp2 (by rw [← r2]; exact c2), r1, hR' _ _ _ (by rw [hnst, if_pos rfl]) (by rw [hsel, if_pos rfl]), ?_⟩
      rw [goF_plain hg2 hp2 hs2 hbt hxt (by exact h14), r2]
    | false =>
      rw [Bool.or_eq_false_iff] at hss
      have hnd : ¬ (x.op = 13 ∨ x.op = 14 ∨ x.op = 15 ∨ x.op = 16) := fun h => by rw [doesB_iff.2 h] at hss; cases hss.1
      have hw' : (givesW m inp x vals (stepW fuel w)).1 = stepW fuel w := by
        unfold givesW
        split
        · rfl
        split
        · rfl
        rw [if_neg (by omega), if_neg (by omega), if_neg (by omega)]
      refine ⟨w2, nst ((stayL b).drop b.params.toNat) i, sel (stayL b) vals, hg2, hp2, by rw [hw']; exact hwr.stepL hs, hR' _ _ _ (by rw [hnst]; simp) (by rw [hsel]; simp), rfl⟩
  · rintro w w2 f at' i vals f2 at2 i2 vals2 n b x ⟨rfl, hr, rfl, hR⟩ hv hp hp2 hg hg2 hwr hx h14 hs hnd
    obtain ⟨rfl, rfl⟩ := hR b hv.blk
    have hfit := blkFit (hblk hv.mem hv.blk)
    have hP := hfit.params
    have hlen : vals.length = b.params.toNat + i := by have := hv.len; omega
    have hst := stayL_ins hx
    rw [show doesB x.op = true from doesB_iff.2 (.inr (.inl h14)), Bool.true_or] at hst
    have hnst : nst ((stayL b).drop b.params.toNat) (i + 1) = nst ((stayL b).drop b.params.toNat) i + 1 := by
      rw [nst_snoc (s := true) (by rw [List.getElem?_drop]; exact hst), if_pos rfl]
    refine .inl ⟨_, mapInst (gT b) x, trimF_at (hok.funcs f hv.mem) hr hv.blk, by rw [endT_ins]; exact trimIns_at hx hst, h14, rfl, ?_, fun v _ => ⟨rfl, hr, rfl, fun b' hb' => ?_⟩⟩
    · show pickI (sel (stayL b) vals) (x.args.map (gT b)) = pickI vals x.args
      refine pickI_sel fun v hvm => ?_
      have hu : uses x = x.args := by unfold uses; rw [if_neg (by omega), if_neg (by omega), if_pos h14]
      exact ⟨stayL_uses hfit hx hst (by rw [hu]; exact hvm), by have := hfit.ins i x hx v (by rw [hu]; exact hvm); omega⟩
    · obtain rfl : b = b' := by rw [hv.blk] at hb'; injection hb'
      exact ⟨hnst.symm, by rw [sel_snoc (s := true) (by rw [hlen]; exact hst), if_pos rfl]⟩
  · rintro w w2 f at' i vals f2 at2 i2 vals2 n b ⟨rfl, hr, rfl, hR⟩ hv hp hp2 hg hg2 hwr hi hk3 hs
    obtain ⟨rfl, rfl⟩ := hR b hv.blk
    have hfit := blkFit (hblk hv.mem hv.blk)
    have hP := hfit.params
    have hs2 := hwr.lt hg hs
    have hend : b.ta ∈ endsL b := by unfold endsL; rw [if_neg (by omega)]; simp
    have hlen : vals.length = b.params.toNat + b.ins.length := by have := hv.len; omega
    refine ⟨stepW fuel w2, hg2.step hs2, hwr.step hs hs2, ?_⟩
    rw [goF_ret hg2 hs2 (trimF_at (hok.funcs f hv.mem) hr hv.blk) (by rw [endT_ins, trimIns_length, hi]; exact Nat.le_refl _) hk3, endT_ta, if_neg (by omega), valAt_sel (stayL_ends hfit hend) (by have := hfit.ends _ hend; omega)]
  · rintro w w2 f at' i vals f2 at2 i2 vals2 n b ⟨rfl, hr, rfl, hR⟩ hv hp hp2 hg hg2 hwr hi hk3 hs to args hsel
    obtain ⟨rfl, rfl⟩ := hR b hv.blk
    have hbk := hblk hv.mem hv.blk
    have hfit := blkFit hbk
    have hP := hfit.params
    have hfo := hok.funcs f hv.mem
    have hs2 := hwr.lt hg hs
    have hlen : vals.length = b.params.toNat + b.ins.length := by have := hv.len; omega
    have hbt := trimF_at hfo hr hv.blk
    have hle : (endT f (trimB b)).ins.length ≤ nst ((stayL b).drop b.params.toNat) i := by rw [endT_ins, trimIns_length, hi]; exact Nat.le_refl _
    have hpk : ∀ l : List Int, (∀ v ∈ l, v ∈ endsL b) → pickI (sel (stayL b) vals) (l.map (gT b)) = pickI vals l := fun l hl => pickI_sel fun v hvm => ⟨stayL_ends hfit (hl v hvm), by have := hfit.ends v (hl v hvm); omega⟩
    have hargs : ∀ v ∈ b.args, v ∈ endsL b := fun v hv => by unfold endsL; simp [hv]
    have helses : ∀ v ∈ b.elses, v ∈ endsL b := fun v hv => by unfold endsL; simp [hv]
    have he := endB_iff.1 (blockOk_iff.1 hbk).2.2.2.2
    have hgoes : ∀ {to : Int} {l : List Int}, goesB f to l (b.params + b.ins.length) = true → ∀ c, f.blocks[to.toNat]? = some c → ((pickI vals l).length : Int) = c.params := fun hg c hc => by
      obtain ⟨_, ⟨c', hc', hl⟩, _⟩ := goesB_iff.1 hg
      rw [hc'] at hc
      injection hc with hc
      rw [pickI_length, ← hc]; exact hl
    have hta : b.kind = 2 → valAt (sel (stayL b) vals) (gT b b.ta) = valAt vals b.ta := fun h2 => by
      have hend : b.ta ∈ endsL b := by unfold endsL; rw [if_neg (by omega)]; simp
      exact valAt_sel (stayL_ends hfit hend) (by have := hfit.ends _ hend; omega)
    by_cases hz : b.kind = 2 ∧ valAt vals b.ta = 0
    · rw [if_pos hz] at hsel
      obtain ⟨rfl, rfl⟩ := hsel
      have hg' : goesB f b.els b.elses (b.params + b.ins.length) = true := by
        rcases he with ⟨e1, _⟩ | ⟨_, _, _, e4⟩ | ⟨e1, _⟩
        · omega
        · exact e4
        · omega
      refine ⟨stepW fuel w2, _, _, hg2.step hs2, ?_, hwr.step hs hs2, RTrim.start hfo (.els hr hv.blk hz.1) (hgoes hg'), ?_⟩
      · exact pickI_nonneg hp _
      · rw [goF_else hg2 hp2 hs2 hbt hle (by exact hk3) ⟨by exact hz.1, by rw [endT_ta, if_neg (by omega), hta hz.1]; exact hz.2⟩, endT_els, if_pos hz.1, gB_nat, endT_elses, hpk _ helses]
    · rw [if_neg hz] at hsel
      obtain ⟨rfl, rfl⟩ := hsel
      have hg' : goesB f b.to b.args (b.params + b.ins.length) = true := by
        rcases he with ⟨_, e2, _⟩ | ⟨_, _, e3, _⟩ | ⟨e1, _⟩
        · exact e2
        · exact e3
        · omega
      refine ⟨stepW fuel w2, _, _, hg2.step hs2, ?_, hwr.step hs hs2, RTrim.start hfo (.to hr hv.blk hk3) (hgoes hg'), ?_⟩
      · exact pickI_nonneg hp _
      · rw [goF_to hg2 hp2 hs2 hbt hle (by exact hk3) (fun h => hz ⟨h.1, by
          have h2 := h.2
          have h1 : b.kind = 2 := h.1
          rw [endT_ta, if_neg (by omega), hta h1] at h2
          exact h2⟩), endT_to, if_neg hk3, gB_nat, endT_args, hpk _ hargs]
end Go.Proofs.YtgadlpdbkohlbaaGreat
namespace Go.Proofs.YtgadlpdbkohlbaaGreat
open Go.RowKit
theorem valAt_lo {l l' : List Int} {v : Int} (h0 : 0 ≤ v) (h : v < l.length) : valAt (l ++ l') v = valAt l v := by
 unfold valAt
 rw [List.getElem?_append_left (by omega)]
theorem valAt_hi {l l' : List Int} {v : Int} (k : Nat) (h : v = l.length + k) : valAt (l ++ l') v = valAt l' k := by
 unfold valAt
 rw [List.getElem?_append_right (by omega)]
 congr 2
 omega
theorem valAt_last {l : List Int} {x v : Int} (h : v = l.length) : valAt (l ++ [x]) v = x := by
 rw [valAt_hi 0 (by omega)]; rfl
theorem valAt_pick {vals args : List Int} {u : Nat} (h : u < args.length) : valAt (pickI vals args) u = valAt vals (args[u]) := by
 unfold pickI
 conv => lhs; unfold valAt
 simp [h]
 rfl
theorem pickI_map {vals vals2 args : List Int} {g : Int → Int} (h : ∀ v ∈ args, valAt vals2 (g v) = valAt vals v) : pickI vals2 (args.map g) = pickI vals args := by
 unfold pickI
 rw [List.map_map]
 exact List.map_congr_left h
structure OnePut (m : Module) (fi : Nat) (f0 : Func) (bi : Nat) (b0 : Block) (ak : Nat) (x0 : Inst) (g0 : Func) (l : Block) : Prop where
 hf : m.funcs[fi]? = some f0
 hb : f0.blocks[bi]? = some b0
 hx : b0.ins[ak]? = some x0
 h14 : x0.op = 14
 hg : findF m x0.name = some g0
 hl : g0.blocks = [l]
 hk : l.kind = 3
 hno : ∀ i ∈ l.ins, ¬ i.op = 14
 h32 : b0.ins.length - 1 + l.ins.length ≤ 32
def putF (f0 : Func) (bi : Nat) (b0 : Block) (ak : Nat) (l : Block) : Func := { f0 with blocks := f0.blocks.set bi (putB b0 l ak) }
def putM (m : Module) (fi : Nat) (f0 : Func) (bi : Nat) (b0 : Block) (ak : Nat) (l : Block) : Module := { m with funcs := m.funcs.set fi (putF f0 bi b0 ak l) }
section
variable {m : Module} {fi : Nat} {f0 : Func} {bi : Nat} {b0 : Block} {ak : Nat} {x0 : Inst} {g0 : Func} {l : Block}
structure PutFacts (m : Module) (f0 : Func) (b0 : Block) (ak : Nat) (x0 : Inst) (g0 : Func) (l : Block) (P Q : Nat) : Prop where
 f0m : f0 ∈ m.funcs
 b0m : b0 ∈ f0.blocks
 x0m : x0 ∈ allIns f0
 g0m : g0 ∈ m.funcs
 g0n : g0.name = x0.name
 lm : l ∈ g0.blocks
 hP : b0.params = (P : Int)
 hQ : l.params = (Q : Int)
 len : x0.args.length = Q
 bOk : blockOk f0 b0 = true
 lOk : blockOk g0 l = true
 xOk : instOk x0 (P + ak) = true
 ta : 0 ≤ l.ta ∧ l.ta < Q + l.ins.length
 lt : ak < b0.ins.length
theorem OnePut.facts (h : OnePut m fi f0 bi b0 ak x0 g0 l) (hok : ModOk m) : ∃ P Q, PutFacts m f0 b0 ak x0 g0 l P Q := by
 have hfm := List.mem_of_getElem? h.hf
 have hbm := List.mem_of_getElem? h.hb
 have hxm : x0 ∈ allIns f0 := List.mem_flatMap.2 ⟨b0, hbm, List.mem_of_getElem? h.hx⟩
 have hgm := List.mem_of_find?_eq_some h.hg
 have hgn : g0.name = x0.name := by simpa using List.find?_some h.hg
 have hlm : l ∈ g0.blocks := by rw [h.hl]; simp
 have hbo := List.all_eq_true.1 (funcOk_all (hok.funcs f0 hfm)) b0 hbm
 have hlo := List.all_eq_true.1 (funcOk_all (hok.funcs g0 hgm)) l hlm
 obtain ⟨p0, p6, _, hins, _⟩ := blockOk_iff.1 hbo
 obtain ⟨l0, l6, _, _, le⟩ := blockOk_iff.1 hlo
 obtain ⟨P, hP⟩ := Int.eq_ofNat_of_zero_le p0
 obtain ⟨Q, hQ⟩ := Int.eq_ofNat_of_zero_le l0
 have hlt : ak < b0.ins.length := (List.getElem?_eq_some_iff.1 h.hx).1
 obtain ⟨g', hg', hgn', hgp'⟩ := hok.call (mem_insM hfm hxm) h.h14
 have e : g' = g0 := name_uniq hok.fnodup hg' hgm (hgn'.trans hgn.symm)
 subst e
 have hq : l.params = g'.params := by
  have := funcOk_first (hok.funcs g' hgm) (by rw [h.hl]; simp)
  simpa [h.hl] using this
 refine ⟨P, Q, hfm, hbm, hxm, hgm, hgn, hlm, hP, hQ, by omega, hbo, hlo, ?_, ?_, hlt⟩
 ·have := hins ak hlt
  rw [(List.getElem?_eq_some_iff.1 h.hx).2, hP] at this
  exact this
 ·have hk := h.hk
  rw [endB_iff] at le
  rcases le with ⟨e, _⟩ | ⟨e, _⟩ | ⟨_, e, _⟩
  ·omega
  ·omega
  ·rw [hQ] at e; exact e
theorem putF_same (h : OnePut m fi f0 bi b0 ak x0 g0 l) : SameParams f0 (putF f0 bi b0 ak l) := by
 refine ⟨by simp [putF], fun k b hb => ?_⟩
 simp only [putF]
 rw [List.getElem?_set]
 by_cases hk : bi = k
 ·subst hk
  rw [h.hb] at hb
  injection hb with hb
  subst hb
  rw [if_pos rfl, if_pos (List.getElem?_eq_some_iff.1 h.hb).1]
  exact ⟨_, rfl, rfl⟩
 ·rw [if_neg hk]
  exact ⟨b, hb, rfl⟩
theorem putF_blocks (h : OnePut m fi f0 bi b0 ak x0 g0 l) {b : Block} (hb : b ∈ (putF f0 bi b0 ak l).blocks) : b ∈ f0.blocks ∨ b = putB b0 l ak := List.mem_or_eq_of_mem_set hb
theorem putF_ok (h : OnePut m fi f0 bi b0 ak x0 g0 l) (hok : ModOk m) : funcOk (putF f0 bi b0 ak l) = true := by
 obtain ⟨P, Q, hF⟩ := h.facts hok
 have hf := hok.funcs f0 hF.f0m
 have hs := putF_same h
 have hbl := (List.getElem?_eq_some_iff.1 h.hb).1
 have hall : (putF f0 bi b0 ak l).blocks.all (blockOk (putF f0 bi b0 ak l)) = true := List.all_eq_true.2 fun b hb => by
  rcases putF_blocks h hb with hb | rfl
  ·exact blockOk_same hs (List.all_eq_true.1 (funcOk_all hf) b hb)
  ·exact putB_ok hs hF.bOk hF.lOk h.hk hF.hP hF.hQ h.hx h.h14 hF.len h.h32
 exact funcOk_with hf hs hall rfl rfl rfl (by omega)
theorem put_from (h : OnePut m fi f0 bi b0 ak x0 g0 l) (hok : ModOk m) {y : Inst} (hy : y ∈ allIns (putF f0 bi b0 ak l)) : ∃ f ∈ m.funcs, ∃ x ∈ allIns f, y.op = x.op ∧ y.name = x.name ∧ y.args.length = x.args.length := by
 obtain ⟨P, Q, hF⟩ := h.facts hok
 obtain ⟨b, hb, hyb⟩ := List.mem_flatMap.1 hy
 rcases putF_blocks h hb with hb | rfl
 ·exact ⟨f0, hF.f0m, y, List.mem_flatMap.2 ⟨b, hb, hyb⟩, rfl, rfl, rfl⟩
 ·have hin : ∀ x ∈ b0.ins, x ∈ allIns f0 := fun x hx => List.mem_flatMap.2 ⟨b0, hF.b0m, hx⟩
  simp only [putB, List.mem_append, List.mem_map] at hyb
  rcases hyb with (hyb | ⟨x, hx, rfl⟩) | ⟨x, hx, rfl⟩
  ·exact ⟨f0, hF.f0m, y, hin y (List.mem_of_mem_take hyb), rfl, rfl, rfl⟩
  ·exact ⟨g0, hF.g0m, x, List.mem_flatMap.2 ⟨l, hF.lm, hx⟩, rfl, rfl, by simp [mapInst]⟩
  ·exact ⟨f0, hF.f0m, x, hin x (List.mem_of_mem_drop hx), rfl, rfl, by simp [mapInst]⟩
theorem put_funcs (h : OnePut m fi f0 bi b0 ak x0 g0 l) {f : Func} (hf : f ∈ (putM m fi f0 bi b0 ak l).funcs) : f ∈ m.funcs ∨ f = putF f0 bi b0 ak l := List.mem_or_eq_of_mem_set hf
theorem find?_set {α β : Type} [DecidableEq β] (key : α → β) (s : β) : ∀ (xs : List α) (i : Nat) (x y : α), xs[i]? = some x → key y = key x → (xs.map key).Nodup →
    (xs.set i y).find? (fun a => decide (key a = s)) = if key x = s then some y else xs.find? (fun a => decide (key a = s))
  | [], _, _, _, h, _, _ => by simp at h
  | a :: xs, 0, x, y, h, hk, _ => by
    simp only [List.getElem?_cons_zero] at h
    injection h with h
    subst h
    by_cases e : key a = s
    · simp [e, hk]
    · simp [e, hk]
  | a :: xs, i + 1, x, y, h, hk, hn => by
    simp only [List.getElem?_cons_succ] at h
    simp only [List.map_cons, List.nodup_cons] at hn
    have ih := find?_set key s xs i x y h hk hn.2
    have hne : key a ≠ key x := fun e => hn.1 (by rw [e]; exact List.mem_map.2 ⟨x, List.mem_of_getElem? h, rfl⟩)
    by_cases e : key a = s
    · have : ¬ key x = s := fun e' => hne (e.trans e'.symm)
      simp [e, this]
    · simp only [List.set_cons_succ, List.find?_cons, decide_eq_false e, ih]
theorem findF_put (h : OnePut m fi f0 bi b0 ak x0 g0 l) (hok : ModOk m) (s : ByteArray) : findF (putM m fi f0 bi b0 ak l) s = if f0.name = s then some (putF f0 bi b0 ak l) else findF m s := by
 unfold findF putM
 exact find?_set (fun f : Func => f.name) s m.funcs fi f0 _ h.hf rfl hok.fnodup
theorem put_names (h : OnePut m fi f0 bi b0 ak x0 g0 l) : namesM (putM m fi f0 bi b0 ak l) = namesM m := by
 have : (m.funcs.set fi (putF f0 bi b0 ak l)).map (·.name) = m.funcs.map (·.name) := by
  apply List.ext_getElem?
  intro k
  simp only [List.getElem?_map, List.getElem?_set]
  by_cases hk : fi = k
  ·subst hk
   rw [if_pos rfl, if_pos (List.getElem?_eq_some_iff.1 h.hf).1, h.hf]
   rfl
  ·rw [if_neg hk]
 unfold namesM fnames gnames putM
 rw [this]
theorem put_mem (h : OnePut m fi f0 bi b0 ak x0 g0 l) (hok : ModOk m) {g : Func} (hg : g ∈ m.funcs) : ∃ g' ∈ (putM m fi f0 bi b0 ak l).funcs, g'.name = g.name ∧ g'.params = g.params := by
 have hf0m := List.mem_of_getElem? h.hf
 by_cases e : g.name = f0.name
 ·obtain rfl := name_uniq hok.fnodup hg hf0m e
  exact ⟨putF g bi b0 ak l, List.mem_of_getElem? (i := fi) (by simp only [putM]; rw [List.getElem?_set, if_pos rfl, if_pos (List.getElem?_eq_some_iff.1 h.hf).1]), rfl, rfl⟩
 ·obtain ⟨k, hk, rfl⟩ := List.getElem_of_mem hg
  refine ⟨m.funcs[k], List.mem_of_getElem? (i := k) ?_, rfl, rfl⟩
  simp only [putM]
  rw [List.getElem?_set, if_neg, List.getElem?_eq_getElem hk]
  rintro rfl
  have := h.hf
  rw [List.getElem?_eq_getElem hk] at this
  injection this with this
  exact e (by rw [this])
theorem put_ok (h : OnePut m fi f0 bi b0 ak x0 g0 l) (hok : ModOk m) : ModOk (putM m fi f0 bi b0 ak l) := by
 have hfrom : ∀ f ∈ (putM m fi f0 bi b0 ak l).funcs, ∀ y ∈ allIns f, ∃ f' ∈ m.funcs, ∃ x ∈ allIns f', y.op = x.op ∧ y.name = x.name ∧ y.args.length = x.args.length := fun f hf y hy => by
  rcases put_funcs h hf with hf | rfl
  ·exact ⟨f, hf, y, hy, rfl, rfl, rfl⟩
  ·exact put_from h hok hy
 refine .mk' (by simpa [putM] using hok.nf) hok.ng (fun f hf => ?_) hok.globs (by rw [put_names h]; exact hok.names) (fun f hf y hy h14 => ?_) (fun f hf y hy h12 => ?_)
 ·rcases put_funcs h hf with hf | rfl
  ·exact hok.funcs f hf
  ·exact putF_ok h hok
 ·obtain ⟨f', hf', x, hx, e1, e2, e3⟩ := hfrom f hf y hy
  obtain ⟨g, hg, hgn, hgp⟩ := hok.call (mem_insM hf' hx) (by omega)
  obtain ⟨g', hg', hn, hp⟩ := put_mem h hok hg
  exact ⟨g', hg', by rw [hn, hgn, e2], by rw [hp, hgp, e3]⟩
 ·obtain ⟨f', hf', x, hx, e1, e2, e3⟩ := hfrom f hf y hy
  obtain ⟨g, hg, hgn⟩ := hasG_iff.1 ((missI_false (hok.miss x (mem_insM hf' hx))).2 (by rw [← e1]; exact h12))
  exact ⟨g, hg, by rw [hgn, e2]⟩
theorem thereB_put (h : OnePut m fi f0 bi b0 ak x0 g0 l) (hok : ModOk m) (s : ByteArray) : thereB (putM m fi f0 bi b0 ak l) s = thereB m s := by
 have hf0m := List.mem_of_getElem? h.hf
 unfold thereB
 rw [findF_put h hok]
 by_cases e : f0.name = s
 ·rw [if_pos e, ← e, findF_uniq hok hf0m]
  simp [putF]
 ·rw [if_neg e]
  rfl
theorem put_whole (h : OnePut m fi f0 bi b0 ak x0 g0 l) (hw : wholeE m = 0) : wholeE (putM m fi f0 bi b0 ak l) = 0 := by
 obtain ⟨hok, hm, ht⟩ := wholeE_zero.1 hw
 have hf0m := List.mem_of_getElem? h.hf
 refine wholeE_zero.2 ⟨put_ok h hok, ?_, fun s hs => ?_⟩
 ·unfold mainB at hm ⊢
  rw [findF_put h hok]
  by_cases e : f0.name = mainS
  ·rw [if_pos e]
   rw [← e, findF_uniq hok hf0m] at hm
   have e1 : (putF f0 bi b0 ak l).blocks.length = f0.blocks.length := by simp [putF]
   show (decide ((putF f0 bi b0 ak l).blocks.length ≠ 0) && decide ((putF f0 bi b0 ak l).params = 0)) = true
   rw [e1]
   exact hm
  ·rw [if_neg e]
   exact hm
 ·rw [thereB_put h hok]
  refine ht s ?_
  obtain ⟨f, hf, hs⟩ := List.mem_flatMap.1 hs
  obtain ⟨y, hy, rfl⟩ := List.mem_map.1 hs
  obtain ⟨hy1, hy2⟩ := List.mem_filter.1 hy
  have : ∃ f' ∈ m.funcs, ∃ x ∈ allIns f', y.op = x.op ∧ y.name = x.name ∧ y.args.length = x.args.length := by
   rcases put_funcs h hf with hf | rfl
   ·exact ⟨f, hf, y, hy1, rfl, rfl, rfl⟩
   ·exact put_from h hok hy1
  obtain ⟨f', hf', x, hx, e1, e2, _⟩ := this
  exact List.mem_flatMap.2 ⟨f', hf', List.mem_map.2 ⟨x, List.mem_filter.2 ⟨hx, by rw [← e1]; exact hy2⟩, e2.symm⟩⟩
end
end Go.Proofs.YtgadlpdbkohlbaaGreat
namespace Go.Proofs.YtgadlpdbkohlbaaGreat
open Go.RowKit
section
variable {m : Module} {fi : Nat} {f0 : Func} {bi : Nat} {b0 : Block} {ak : Nat} {x0 : Inst} {g0 : Func} {l : Block} {P Q : Nat}
def PutR (f0 : Func) (bi : Nat) (b0 : Block) (ak : Nat) (l : Block) : St4 := fun f at' i vals f2 at2 i2 vals2 =>
 at2 = at' ∧ ((i2 = i ∧ vals2 = vals ∧ (f2 = f ∨ (f = f0 ∧ f2 = putF f0 bi b0 ak l ∧ (at' = bi → i ≤ ak)))) ∨
  (f = f0 ∧ f2 = putF f0 bi b0 ak l ∧ at' = bi ∧ ak < i ∧ i2 = i - 1 + l.ins.length ∧ (vals2.length : Int) = b0.params + i2 ∧ ∀ v, 0 ≤ v → v < b0.params + i → valAt vals2 (afterG b0 l ak v) = valAt vals v))
theorem putR_cases {f : Func} {at' i : Nat} {vals : List Int} {f2 : Func} {at2 i2 : Nat} {vals2 : List Int} {b : Block} (hR : PutR f0 bi b0 ak l f at' i vals f2 at2 i2 vals2) (h : OnePut m fi f0 bi b0 ak x0 g0 l) (hv : Valid m f at' i vals b) :
  (at2 = at' ∧ i2 = i ∧ vals2 = vals ∧ f2.blocks[at']? = some b ∧ (∀ j v2, PutR f0 bi b0 ak l f j 0 v2 f2 j 0 v2) ∧ ∀ v2, PutR f0 bi b0 ak l f at' (i + 1) v2 f2 at' (i + 1) v2) ∨
  (at2 = at' ∧ i2 = i ∧ vals2 = vals ∧ f = f0 ∧ f2 = putF f0 bi b0 ak l ∧ at' = bi ∧ b = b0 ∧ i < ak ∧ f2.blocks[at']? = some (putB b0 l ak) ∧ ∀ v2, PutR f0 bi b0 ak l f at' (i + 1) v2 f2 at' (i + 1) v2) ∨
  (at2 = at' ∧ i2 = i ∧ vals2 = vals ∧ f = f0 ∧ f2 = putF f0 bi b0 ak l ∧ at' = bi ∧ b = b0 ∧ i = ak ∧ f2.blocks[at']? = some (putB b0 l ak)) ∨
  (at2 = at' ∧ f = f0 ∧ f2 = putF f0 bi b0 ak l ∧ at' = bi ∧ b = b0 ∧ ak < i ∧ i2 = i - 1 + l.ins.length ∧ (vals2.length : Int) = b0.params + i2 ∧ (∀ v, 0 ≤ v → v < b0.params + i → valAt vals2 (afterG b0 l ak v) = valAt vals v) ∧ f2.blocks[at']? = some (putB b0 l ak)) := by
 obtain ⟨e1, hR⟩ := hR
 have hnew : (putF f0 bi b0 ak l).blocks[bi]? = some (putB b0 l ak) := by
  simp only [putF]
  rw [List.getElem?_set, if_pos rfl, if_pos (List.getElem?_eq_some_iff.1 h.hb).1]
 rcases hR with ⟨e2, e3, e4 | ⟨e4, e5, e6⟩⟩ | ⟨e2, e3, e4, e5, e6, e7, e8⟩
 ·exact .inl ⟨e1, e2, e3, by rw [e4]; exact hv.blk, fun j v2 => ⟨rfl, .inl ⟨rfl, rfl, .inl e4⟩⟩, fun v2 => ⟨rfl, .inl ⟨rfl, rfl, .inl e4⟩⟩⟩
 ·by_cases hbi : at' = bi
  ·have hb : b = b0 := by
    have h1 := hv.blk
    rw [e4, hbi, h.hb] at h1
    injection h1 with h1
    exact h1.symm
   have := e6 hbi
   by_cases hi : i = ak
   ·exact .inr (.inr (.inl ⟨e1, e2, e3, e4, e5, hbi, hb, hi, by rw [e5, hbi]; exact hnew⟩))
   ·exact .inr (.inl ⟨e1, e2, e3, e4, e5, hbi, hb, by omega, by rw [e5, hbi]; exact hnew, fun v2 => ⟨rfl, .inl ⟨rfl, rfl, .inr ⟨e4, e5, fun _ => by omega⟩⟩⟩⟩)
  ·refine .inl ⟨e1, e2, e3, ?_, fun j v2 => ⟨rfl, .inl ⟨rfl, rfl, .inr ⟨e4, e5, fun _ => Nat.zero_le _⟩⟩⟩, fun v2 => ⟨rfl, .inl ⟨rfl, rfl, .inr ⟨e4, e5, fun h => absurd h hbi⟩⟩⟩⟩
   rw [e5]
   simp only [putF]
   rw [List.getElem?_set, if_neg (fun h => hbi h.symm), ← e4]
   exact hv.blk
 ·have hb : b = b0 := by
   have h1 := hv.blk
   rw [e2, e4, h.hb] at h1
   injection h1 with h1
   exact h1.symm
  exact .inr (.inr (.inr ⟨e1, e2, e3, e4, hb, e5, e6, e7, e8, by rw [e3, e4]; exact hnew⟩))
theorem putR_next (hP : b0.params = (P : Int)) (hF : PutFacts m f0 b0 ak x0 g0 l P Q) (h : OnePut m fi f0 bi b0 ak x0 g0 l) {i i2 : Nat} {vals vals2 : List Int} (hi : ak < i) (hi2 : i2 = i - 1 + l.ins.length) (hl : (vals.length : Int) = b0.params + i) (hl2 : (vals2.length : Int) = b0.params + i2)
  (hv : ∀ v, 0 ≤ v → v < b0.params + i → valAt vals2 (afterG b0 l ak v) = valAt vals v) (x : Int) :
  PutR f0 bi b0 ak l f0 bi (i + 1) (vals ++ [x]) (putF f0 bi b0 ak l) bi (i2 + 1) (vals2 ++ [x]) := by
 refine ⟨rfl, .inr ⟨rfl, rfl, rfl, by omega, by omega, by simp; omega, fun v h0 hlt => ?_⟩⟩
 by_cases e : v = b0.params + i
 ·have : afterG b0 l ak v = vals2.length := by
   unfold afterG afterNum
   rw [if_neg (by omega), if_neg (by omega)]
   omega
  rw [this, valAt_last rfl, valAt_last (by omega)]
 ·have hlt' : v < b0.params + i := by omega
  have hb := after_bound (b := b0) (l := l) hP hF.hQ h.hx hF.xOk h.h14 hF.len hF.ta hi h0 (by rw [hP] at hlt'; exact hlt')
  rw [valAt_lo hb.1 (by omega), valAt_lo h0 (by omega)]
  exact hv v h0 hlt'
theorem getD_get {α : Type} [Inhabited α] {xs : List α} {k : Nat} {y : α} (hk : k < xs.length) (h : xs[k]?.getD default = y) : xs[k]? = some y := by
 rw [List.getElem?_eq_getElem hk] at h ⊢
 exact congrArg some h
theorem leaf_run {inp : ByteArray} {fuel deep n : Nat} (hok : ModOk m) (h : OnePut m fi f0 bi b0 ak x0 g0 l) (hF : PutFacts m f0 b0 ak x0 g0 l P Q) {vals : List Int} (hvl : (vals.length : Int) = P + ak) (hp : Pos vals) :
    ∀ (d j : Nat), j + d = l.ins.length → ∀ (wc w2 : Wd) (c : List Int) (r : Wd × Int), Good m fuel wc → Good (putM m fi f0 bi b0 ak l) fuel w2 → WR wc w2 → c.length = j → Pos c →
      goF m inp fuel deep wc g0 0 j (pickI vals x0.args ++ c) (n + 1) = r → r.1.bad = 0 →
      ∃ w2' c', Good (putM m fi f0 bi b0 ak l) fuel w2' ∧ c'.length = l.ins.length ∧ Pos c' ∧ WR r.1 w2' ∧ r.2 = valAt (pickI vals x0.args ++ c') l.ta ∧
        goF (putM m fi f0 bi b0 ak l) inp fuel deep w2 (putF f0 bi b0 ak l) bi (ak + j) (vals ++ c) n = goF (putM m fi f0 bi b0 ak l) inp fuel deep w2' (putF f0 bi b0 ak l) bi (ak + l.ins.length) (vals ++ c') n := by
  have hnew : (putF f0 bi b0 ak l).blocks[bi]? = some (putB b0 l ak) := by
    simp only [putF]
    rw [List.getElem?_set, if_pos rfl, if_pos (List.getElem?_eq_some_iff.1 h.hb).1]
  have hg0 : g0.blocks[0]? = some l := by rw [h.hl]; rfl
  have hu0 : uses x0 = x0.args := by have := h.h14; unfold uses; rw [if_neg (by omega), if_neg (by omega), if_pos this]
  have hargs : ∀ v ∈ x0.args, 0 ≤ v ∧ v < P + ak := by
    have := belowB_iff.1 (instOk_below hF.xOk)
    rw [hu0] at this
    exact this
  have hat : insAt b0 ak = x0 := by unfold insAt; rw [show (ak : Int).toNat = ak from rfl, h.hx]; rfl
  have hpl : (pickI vals x0.args).length = Q := by rw [pickI_length]; exact hF.len
  -- what a value of the leaf is
  have hval : ∀ (c : List Int) (u : Int), 0 ≤ u → u < Q + c.length → valAt (vals ++ c) (inG b0 l ak u) = valAt (pickI vals x0.args ++ c) u := by
    intro c u h0 hu
    unfold inG inNum
    rw [hat, hF.hP, hF.hQ]
    split
    · rename_i hlt
      have hk : u.toNat < x0.args.length := by have := hF.len; omega
      have ha := hargs _ (List.getElem_mem hk)
      rw [List.getElem?_eq_getElem hk]
      simp only [Option.getD_some]
      rw [valAt_lo ha.1 (by omega), valAt_lo h0 (by omega)]
      have := valAt_pick (vals := vals) hk
      rw [Int.toNat_of_nonneg h0] at this
      exact this.symm
    · rename_i hge
      rw [valAt_hi (u - Q).toNat (by omega), valAt_hi (l := pickI vals x0.args) (u - Q).toNat (by omega)]
  have hpp := pickI_nonneg hp x0.args
  intro d
  induction d with
  | zero =>
    intro j hj wc w2 c r hg hg2 hwr hc hpc hr hb
    obtain rfl : j = l.ins.length := by omega
    have hs : ¬ wc.steps = fuel := fun hs => by
      rw [goF_over hg hs] at hr
      subst hr
      exact absurd hb ((stepW_bad (fuel := fuel) hg.bad).2 hs)
    rw [goF_ret hg hs hg0 (Nat.le_refl _) h.hk] at hr
    subst hr
    exact ⟨w2, c, hg2, hc, hpc, hwr.stepL hs, rfl, rfl⟩
  | succ d ih =>
    intro j hj wc w2 c r hg hg2 hwr hc hpc hr hb
    have hs : ¬ wc.steps = fuel := fun hs => by
      rw [goF_over hg hs] at hr
      subst hr
      exact absurd hb ((stepW_bad (fuel := fuel) hg.bad).2 hs)
    have hs2 := hwr.lt hg hs
    have hjl : j < l.ins.length := by omega
    have hy? : l.ins[j]? = some l.ins[j] := List.getElem?_eq_getElem hjl
    have hyo := (blockOk_iff.1 hF.lOk).2.2.2.1 j hjl
    rw [hF.hQ] at hyo
    have hyn := h.hno _ (List.getElem_mem hjl)
    have hput := getD_get (by rw [put_length hF.lt, cnt_hi hF.lt]; have := hF.lt; omega) (put_leaf (leaf := l) hF.lt hjl)
    generalize l.ins[j] = y at hy? hyo hyn hput
    have hop := instOk_op hyo
    have hpos : Pos (pickI vals x0.args ++ c) := fun v hv => by
      rcases List.mem_append.1 hv with hv | hv
      · exact hpp v hv
      · exact hpc v hv
    have hpos2 : Pos (vals ++ c) := fun v hv => by
      rcases List.mem_append.1 hv with hv | hv
      · exact hp v hv
      · exact hpc v hv
    have hbel := belowB_iff.1 (instOk_below hyo)
    rw [goF_plain hg hpos hs hg0 hy? hyn] at hr
    have hwr' := (hwr.step hs hs2).gives (m := m) (m2 := putM m fi f0 bi b0 ak l) rfl inp (x := y) (x2 := mapInst (inG b0 l ak) y) (vals := pickI vals x0.args ++ c) (vals2 := vals ++ c) rfl rfl rfl
      (fun h1 => by
        have : y.a ∈ uses y := by rw [isOne_iff] at h1; unfold uses; split <;> (try split) <;> simp_all
        have := hbel _ this
        simp only [mapInst, h1, if_true]
        exact hval c y.a this.1 (by omega))
      (fun h1 => by
        have : y.b ∈ uses y := by rw [isTwo_iff] at h1; unfold uses; rw [if_pos h1]; simp
        have := hbel _ this
        simp only [mapInst, h1, if_true]
        exact hval c y.b this.1 (by omega)) ⟨hop.1, hop.2, hyn⟩
    obtain ⟨c1, c2, c3⟩ := hg.gives hs inp y hpos
    obtain ⟨c1', c2', c3'⟩ := hg2.gives hs2 inp (mapInst (inG b0 l ak) y) hpos2
    have hstep := goF_plain (m := putM m fi f0 bi b0 ak l) (inp := inp) (deep := deep) (n := n) hg2 hpos2 hs2 hnew hput hyn
    rw [List.append_assoc] at hr
    obtain ⟨w2', c', k1, k2, k3, k4, k5, k6⟩ := ih (j + 1) (by omega) _ _ (c ++ [(givesW m inp y (pickI vals x0.args ++ c) (stepW fuel wc)).2]) r c1 c1' hwr'.1 (by simp [hc]) (Pos.snoc hpc c2) hr hb
    refine ⟨w2', c', k1, k2, k3, k4, k5, ?_⟩
    rw [hstep, hwr'.2, List.append_assoc]
    exact k6
theorem putR_ok {inp : ByteArray} {fuel deep : Nat} (hok : ModOk m) (h : OnePut m fi f0 bi b0 ak x0 g0 l) : SimOk m (putM m fi f0 bi b0 ak l) inp fuel deep (PutR f0 bi b0 ak l) := by
 obtain ⟨P, Q, hF⟩ := h.facts hok
 have hins : ∀ {f : Func} {at' i : Nat} {vals : List Int} {b : Block} {x : Inst}, Valid m f at' i vals b → b.ins[i]? = some x → instOk x (b.params + i) = true := fun {f at' i vals b x} hv hx => by
  have hb := List.all_eq_true.1 (funcOk_all (hok.funcs f hv.mem)) b (List.mem_of_getElem? hv.blk)
  have hi := (List.getElem?_eq_some_iff.1 hx).1
  have := (blockOk_iff.1 hb).2.2.2.1 i hi
  rwa [(List.getElem?_eq_some_iff.1 hx).2] at this
 -- behind the leaf: an instruction with other numbers
 have hval : ∀ {i : Nat} {vals vals2 : List Int} {x : Inst}, instOk x (b0.params + i) = true → (∀ v, 0 ≤ v → v < b0.params + i → valAt vals2 (afterG b0 l ak v) = valAt vals v) → ∀ v ∈ uses x, valAt vals2 (afterG b0 l ak v) = valAt vals v := fun hxo hv v hvx => by
  have := belowB_iff.1 (instOk_below hxo) v hvx
  exact hv v this.1 this.2
 have hput : ∀ {i : Nat} {x : Inst}, ak < i → b0.ins[i]? = some x → (putB b0 l ak).ins[i - 1 + l.ins.length]? = some (mapInst (afterG b0 l ak) x) := fun {i x} hi hx => by
  have hlt := (List.getElem?_eq_some_iff.1 hx).1
  have := put_hi (leaf := l) hF.lt hi hlt
  rw [cnt_hi hi, (List.getElem?_eq_some_iff.1 hx).2] at this
  exact getD_get (by rw [put_length hF.lt, cnt_hi hF.lt]; omega) this
 have hputlo : ∀ {i : Nat} {x : Inst}, i < ak → b0.ins[i]? = some x → (putB b0 l ak).ins[i]? = some x := fun {i x} hi hx => by
  have := put_lo (leaf := l) hF.lt hi
  rw [(List.getElem?_eq_some_iff.1 hx).2] at this
  exact getD_get (by rw [put_length hF.lt, cnt_hi hF.lt]; have := hF.lt; omega) this
 constructor
 ·intro f args hf hbl _
  refine ⟨rfl, .inl ⟨rfl, rfl, ?_⟩⟩
  unfold funcOf
  rw [findF_put h hok]
  by_cases e : f0.name = f.name
  ·obtain rfl := name_uniq hok.fnodup hF.f0m hf e
   rw [if_pos rfl]
   exact .inr ⟨rfl, rfl, fun _ => Nat.zero_le _⟩
  ·rw [if_neg e, findF_uniq hok hf]
   exact .inl rfl
 ·intro w w2 f at' i vals f2 at2 i2 vals2 n b x hR hv hp hp2 hg hg2 hwr hx h14 hs
  have hs2 := hwr.lt hg hs
  have hxo := hins hv hx
  have hop := instOk_op hxo
  obtain ⟨c1, c2, c3⟩ := hg.gives hs inp x hp
  have same : ∀ b2, f2.blocks[at']? = some b2 → b2.ins[i]? = some x → at2 = at' → i2 = i → vals2 = vals → (∀ v2, PutR f0 bi b0 ak l f at' (i + 1) v2 f2 at' (i + 1) v2) →
    ∃ w2' i2' vals2', Good (putM m fi f0 bi b0 ak l) fuel w2' ∧ Pos vals2' ∧ WR (givesW m inp x vals (stepW fuel w)).1 w2' ∧ PutR f0 bi b0 ak l f at' (i + 1) (vals ++ [(givesW m inp x vals (stepW fuel w)).2]) f2 at2 i2' vals2' ∧ goF (putM m fi f0 bi b0 ak l) inp fuel deep w2 f2 at2 i2 vals2 n = goF (putM m fi f0 bi b0 ak l) inp fuel deep w2' f2 at2 i2' vals2' n := by
   rintro b2 hb2 hx2 rfl rfl rfl hnext
   obtain ⟨c1', c2', c3'⟩ := hg2.gives hs2 inp x hp2
   have hwr' := (hwr.step hs hs2).gives (m := m) (m2 := putM m fi f0 bi b0 ak l) rfl inp (x := x) (x2 := x) (vals := vals2) (vals2 := vals2) rfl rfl rfl (fun _ => rfl) (fun _ => rfl) ⟨hop.1, hop.2, h14⟩
   refine ⟨_, _, _, c1', Pos.snoc hp2 c2', hwr'.1, ?_, goF_plain hg2 hp2 hs2 hb2 hx2 h14⟩
   rw [hwr'.2]
   exact hnext _
  rcases putR_cases hR h hv with ⟨e1, e2, e3, e4, _, e6⟩ | ⟨e1, e2, e3, e4, e5, e6, e7, e8, e9, e10⟩ | ⟨e1, e2, e3, e4, e5, e6, e7, e8, e9⟩ | ⟨e1, e2, e3, e4, e5, e6, e7, e8, e9, e10⟩
  ·exact same b e4 hx e1 e2 e3 e6
  ·subst e7
   exact same _ e9 (hputlo e8 hx) e1 e2 e3 e10
  ·subst e7
   rw [e8, h.hx] at hx
   injection hx with hx
   exact absurd (hx ▸ h.h14) h14
  ·subst e1 e2 e3 e4 e5
   have hbel := hval hxo e9
   obtain ⟨c1', c2', c3'⟩ := hg2.gives hs2 inp (mapInst (afterG b l ak) x) hp2
   have hwr' := (hwr.step hs hs2).gives (m := m) (m2 := putM m fi f at2 b ak l) rfl inp (x := x) (x2 := mapInst (afterG b l ak) x) (vals := vals) (vals2 := vals2) rfl rfl rfl
    (fun h1 => by
     have : x.a ∈ uses x := by rw [isOne_iff] at h1; unfold uses; split <;> (try split) <;> simp_all
     simp only [mapInst, h1, if_true]
     exact hbel _ this)
    (fun h1 => by
     have : x.b ∈ uses x := by rw [isTwo_iff] at h1; unfold uses; rw [if_pos h1]; simp
     simp only [mapInst, h1, if_true]
     exact hbel _ this) ⟨hop.1, hop.2, h14⟩
   refine ⟨_, _, _, c1', Pos.snoc hp2 c2', hwr'.1, ?_, goF_plain hg2 hp2 hs2 e10 (e7 ▸ hput e6 hx) h14⟩
   rw [hwr'.2]
   exact putR_next hF.hP hF h e6 e7 hv.len e8 e9 _
 ·intro w w2 f at' i vals f2 at2 i2 vals2 n b x hR hv hp hp2 hg hg2 hwr hx h14 hs hnd
  have hs2 := hwr.lt hg hs
  have hxo := hins hv hx
  rcases putR_cases hR h hv with ⟨e1, e2, e3, e4, _, e6⟩ | ⟨e1, e2, e3, e4, e5, e6, e7, e8, e9, e10⟩ | ⟨e1, e2, e3, e4, e5, e6, e7, e8, e9⟩ | ⟨e1, e2, e3, e4, e5, e6, e7, e8, e9, e10⟩
  ·subst e1 e2 e3
   exact .inl ⟨b, x, e4, hx, h14, rfl, rfl, fun v _ => e6 _⟩
  ·subst e1 e2 e3 e7
   exact .inl ⟨_, x, e9, hputlo e8 hx, h14, rfl, rfl, fun v _ => e10 _⟩
  ·right
   subst e1 e2 e3 e4 e5 e6 e7 e8
   rw [h.hx] at hx
   injection hx with hx
   subst hx
   intro r hr hb
   rw [funcOf_of h.hg] at hr
   have hvl : (vals2.length : Int) = P + i2 := by have := hv.len; rw [hF.hP] at this; exact this
   have hl0 : 0 < l.ins.length ∨ l.ins.length = 0 := by omega
   obtain ⟨w2', c', k1, k2, k3, k4, k5, k6⟩ := leaf_run (inp := inp) (deep := deep) (n := n) hok h hF hvl hp2 l.ins.length 0 (by omega) _ w2 [] r ((hg.step hs).enter _) hg2 ((hwr.stepL hs).enterL _) rfl (fun v hv => by cases hv) (by rw [List.append_nil]; exact hr) hb
   refine ⟨w2', i2 + l.ins.length, vals2 ++ c', k1, fun v hv => ?_, k4, ⟨rfl, .inr ⟨rfl, rfl, rfl, by omega, by omega, ?_, fun v h0 hlt => ?_⟩⟩, ?_⟩
   ·rcases List.mem_append.1 hv with hv | hv
    ·exact hp2 v hv
    ·exact k3 v hv
   ·rw [List.length_append, k2, hF.hP]; omega
   ·rw [hF.hP] at hlt
    unfold afterG afterNum
    rw [hF.hP, hF.hQ]
    by_cases h1 : v < (P : Int) + i2
    ·rw [if_pos h1, valAt_lo h0 (by omega), valAt_lo h0 (by omega)]
    ·have h2 : v = (P : Int) + i2 := by omega
     rw [if_neg h1, if_pos h2, valAt_last (by omega), k5]
     have hat : insAt b i2 = x0 := by unfold insAt; rw [show (i2 : Int).toNat = i2 from rfl, h.hx]; rfl
     have hta := hF.ta
     unfold inNum
     rw [hat]
     have hpl : (pickI vals2 x0.args).length = Q := by rw [pickI_length]; exact hF.len
     split
     ·have hk : l.ta.toNat < x0.args.length := by have := hF.len; omega
      have hu0 : uses x0 = x0.args := by have := h.h14; unfold uses; rw [if_neg (by omega), if_neg (by omega), if_pos this]
      have ha := belowB_iff.1 (instOk_below hF.xOk) _ (by rw [hu0]; exact List.getElem_mem hk)
      rw [List.getElem?_eq_getElem hk]
      simp only [Option.getD_some]
      rw [valAt_lo ha.1 (by omega), valAt_lo hta.1 (by omega)]
      have := valAt_pick (vals := vals2) hk
      rw [Int.toNat_of_nonneg hta.1] at this
      exact this.symm
     ·rw [valAt_hi (l.ta - Q).toNat (by omega), valAt_hi (l := pickI vals2 x0.args) (l.ta - Q).toNat (by omega)]
   ·have := k6
    rw [List.append_nil, Nat.add_zero] at this
    exact this
  ·subst e1 e2 e3 e4 e5
   have hbel := hval hxo e9
   have hu : uses x = x.args := by unfold uses; rw [if_neg (by omega), if_neg (by omega), if_pos h14]
   rw [hu] at hbel
   exact .inl ⟨_, mapInst (afterG b l ak) x, e10, e7 ▸ hput e6 hx, h14, rfl, pickI_map hbel, fun v _ => putR_next hF.hP hF h e6 e7 hv.len e8 e9 _⟩
 ·intro w w2 f at' i vals f2 at2 i2 vals2 n b hR hv hp hp2 hg hg2 hwr hi hk3 hs
  have hs2 := hwr.lt hg hs
  rcases putR_cases hR h hv with ⟨e1, e2, e3, e4, _, e6⟩ | ⟨e1, e2, e3, e4, e5, e6, e7, e8, e9, e10⟩ | ⟨e1, e2, e3, e4, e5, e6, e7, e8, e9⟩ | ⟨e1, e2, e3, e4, e5, e6, e7, e8, e9, e10⟩
  ·subst e1 e2 e3
   exact ⟨_, hg2.step hs2, hwr.step hs hs2, goF_ret hg2 hs2 e4 (by omega) hk3⟩
  ·subst e7
   have := hF.lt
   omega
  ·subst e7
   have := hF.lt
   omega
  ·subst e1 e2 e3 e4 e5
   have hend := (blockOk_iff.1 hF.bOk).2.2.2.2
   refine ⟨_, hg2.step hs2, hwr.step hs hs2, ?_⟩
   rw [goF_ret hg2 hs2 e10 (by rw [put_length hF.lt, cnt_hi hF.lt]; omega) (by exact hk3)]
   have hta : 0 ≤ b.ta ∧ b.ta < b.params + b.ins.length := by
    rw [endB_iff] at hend
    rcases hend with ⟨h1, _⟩ | ⟨h1, _⟩ | ⟨_, h1, _⟩
    ·omega
    ·omega
    ·exact h1
   rw [show (putB b l ak).ta = afterG b l ak b.ta from by simp [putB, hk3]]
   rw [e9 b.ta hta.1 (by rw [hi]; exact hta.2)]
 ·intro w w2 f at' i vals f2 at2 i2 vals2 n b hR hv hp hp2 hg hg2 hwr hi hk3 hs to args hsel
  have hs2 := hwr.lt hg hs
  have hnext : ∀ (c2 : Block), f2.blocks[at']? = some c2 → c2.ins.length ≤ i2 → at2 = at' → c2.kind = b.kind → c2.to = b.to → c2.els = b.els → (b.kind = 2 → valAt vals2 c2.ta = valAt vals b.ta) → pickI vals2 c2.args = pickI vals b.args → pickI vals2 c2.elses = pickI vals b.elses →
    (∀ j v2, PutR f0 bi b0 ak l f j 0 v2 f2 j 0 v2) →
    ∃ w2' at2' vals2', Good (putM m fi f0 bi b0 ak l) fuel w2' ∧ Pos vals2' ∧ WR (stepW fuel w) w2' ∧ PutR f0 bi b0 ak l f to.toNat 0 (pickI vals args) f2 at2' 0 vals2' ∧ goF (putM m fi f0 bi b0 ak l) inp fuel deep w2 f2 at2 i2 vals2 n = goF (putM m fi f0 bi b0 ak l) inp fuel deep w2' f2 at2' 0 vals2' n := by
   intro c2 hb2 hle e1 q1 q2 q3 q4 q5 q6 hj
   subst e1
   refine ⟨stepW fuel w2, to.toNat, pickI vals args, hg2.step hs2, pickI_nonneg hp _, hwr.step hs hs2, hj _ _, ?_⟩
   by_cases hc : b.kind = 2 ∧ valAt vals b.ta = 0
   ·rw [if_pos hc] at hsel
    obtain ⟨rfl, rfl⟩ := hsel
    rw [goF_else hg2 hp2 hs2 hb2 hle (by omega) ⟨by omega, by rw [q4 hc.1]; exact hc.2⟩, q3, q6]
   ·rw [if_neg hc] at hsel
    obtain ⟨rfl, rfl⟩ := hsel
    rw [goF_to hg2 hp2 hs2 hb2 hle (by omega) (fun hc' => hc ⟨by omega, by rw [← q4 (by omega)]; exact hc'.2⟩), q2, q5]
  rcases putR_cases hR h hv with ⟨e1, e2, e3, e4, e5, e6⟩ | ⟨e1, e2, e3, e4, e5, e6, e7, e8, e9, e10⟩ | ⟨e1, e2, e3, e4, e5, e6, e7, e8, e9⟩ | ⟨e1, e2, e3, e4, e5, e6, e7, e8, e9, e10⟩
  ·subst e2 e3
   exact hnext b e4 (by omega) e1 rfl rfl rfl (fun _ => rfl) rfl rfl e5
  ·subst e7
   have := hF.lt
   omega
  ·subst e7
   have := hF.lt
   omega
  ·subst e5
   have hend := (blockOk_iff.1 hF.bOk).2.2.2.2
   have hmap : ∀ q : List Int, (∀ v ∈ q, 0 ≤ v ∧ v < b.params + b.ins.length) → pickI vals2 (q.map (afterG b l ak)) = pickI vals q := fun q hq => pickI_map fun v hv' => e9 v (hq v hv').1 (by rw [hi]; exact (hq v hv').2)
   have hargs : (∀ v ∈ b.args, 0 ≤ v ∧ v < b.params + b.ins.length) ∧ (∀ v ∈ b.elses, 0 ≤ v ∧ v < b.params + b.ins.length) ∧ (b.kind = 2 → 0 ≤ b.ta ∧ b.ta < b.params + b.ins.length) := by
    rw [endB_iff] at hend
    rcases hend with ⟨h1, h2, _, _, h5⟩ | ⟨h1, h2, h3, h4⟩ | ⟨h1, _⟩
    ·exact ⟨(goesB_iff.1 h2).2.2, fun v hv' => (by rw [h5] at hv'; cases hv'), fun h => by omega⟩
    ·exact ⟨(goesB_iff.1 h3).2.2, (goesB_iff.1 h4).2.2, fun _ => h2⟩
    ·exact absurd h1 hk3
   refine hnext (putB b l ak) e10 (by rw [put_length hF.lt, cnt_hi hF.lt]; omega) e1 rfl rfl rfl (fun hk2 => ?_) (hmap _ hargs.1) (hmap _ hargs.2.1) (fun j v2 => ⟨rfl, .inl ⟨rfl, rfl, .inr ⟨e2, e3, fun _ => Nat.zero_le _⟩⟩⟩)
   rw [show (putB b l ak).ta = afterG b l ak b.ta from by simp [putB, hk2]]
   exact e9 b.ta (hargs.2.2 hk2).1 (by rw [hi]; exact (hargs.2.2 hk2).2)
theorem put_runs (hw : wholeE m = 0) (h : OnePut m fi f0 bi b0 ak x0 g0 l) : RunRel m (putM m fi f0 bi b0 ak l) :=
 SimOk.run (R := fun _ _ _ => PutR f0 bi b0 ak l) (fun _ _ _ => putR_ok (wholeE_zero.1 hw).1 h) hw rfl
end
end Go.Proofs.YtgadlpdbkohlbaaGreat
namespace Go.Proofs.YtgadlpdbkohlbaaGreat
open Go.RowKit
def leafB (f : Func) (budget : Int) : Bool := match f.blocks with
 | [b] => decide (b.kind = 3) && decide ((b.ins.length : Int) ≤ budget) && !b.ins.any fun i => decide (i.op = 14)
 | _ => false
def leafL (m : Module) (budget : Int) (s : ByteArray) : Option Block := match findF m s with
 | some f => if leafB f budget = true then f.blocks[0]? else none
 | none => none
def blockI (m : Module) (budget : Int) : Nat → Block → Nat → Block
  | 0, b, _ => b
  | n + 1, b, at' => match b.ins[at']? with
    | none => b
    | some x => if x.op = 14 then (match leafL m budget x.name with
        | some l => if putYes b l at' = true then blockI m budget n (putB b l at') (at' + l.ins.length) else blockI m budget n b (at' + 1)
        | none => blockI m budget n b (at' + 1)) else blockI m budget n b (at' + 1)
def inlB (m : Module) (budget : Int) (b : Block) : Block := blockI m budget b.ins.length b 0
def inlF (m : Module) (budget : Int) (f : Func) : Func := { f with blocks := f.blocks.map (inlB m budget) }
def inlM (m : Module) (budget : Int) : Module := if checkE m = 0 then { m with funcs := m.funcs.map (inlF m budget) } else m
theorem leafB_iff {f : Func} {budget : Int} : leafB f budget = true ↔ ∃ b, f.blocks = [b] ∧ b.kind = 3 ∧ (b.ins.length : Int) ≤ budget ∧ ∀ i ∈ b.ins, ¬ i.op = 14 := by
 unfold leafB
 split
 ·rename_i b hb
  simp [hb, and_assoc]
 ·rename_i hb
  constructor
  ·intro h; cases h
  ·rintro ⟨b, h, _⟩; exact absurd h (hb b)
theorem leafL_some {m : Module} {budget : Int} {s : ByteArray} {l : Block} (h : leafL m budget s = some l) : ∃ f, findF m s = some f ∧ f.blocks = [l] ∧ l.kind = 3 ∧ ∀ i ∈ l.ins, ¬ i.op = 14 := by
 unfold leafL at h
 split at h
 ·rename_i f hf
  split at h
  ·rename_i hl
   obtain ⟨b, h1, h2, _, h4⟩ := leafB_iff.1 hl
   rw [h1] at h
   simp only [List.getElem?_cons_zero] at h
   injection h with h
   subst h
   exact ⟨f, hf, h1, h2, h4⟩
  ·cases h
 ·cases h
inductive Puts (m : Module) : Module → Prop
 | refl : Puts m m
 | step {M : Module} {fi : Nat} {f0 : Func} {bi : Nat} {b0 : Block} {ak : Nat} {x0 : Inst} {g0 : Func} {l : Block} (h : Puts m M) (hp : OnePut M fi f0 bi b0 ak x0 g0 l) : Puts m (putM M fi f0 bi b0 ak l)
theorem Puts.ok {m M : Module} (h : Puts m M) (hok : ModOk m) : ModOk M := by
 induction h with
 | refl => exact hok
 | step _ hp ih => exact put_ok hp ih
theorem Puts.whole {m M : Module} (h : Puts m M) (hw : wholeE m = 0) : wholeE M = 0 := by
 induction h with
 | refl => exact hw
 | step _ hp ih => exact put_whole hp ih
theorem Puts.runs {m M : Module} (h : Puts m M) (hw : wholeE m = 0) : RunRel m M := by
 induction h with
 | refl => exact .refl m
 | step h hp ih => exact ih.trans (put_runs (h.whole hw) hp)
def Plain1 (f : Func) : Prop := ∃ b, f.blocks = [b] ∧ ∀ i ∈ b.ins, ¬ i.op = 14
structure Based (m M : Module) : Prop where
 globs : M.globs = m.globs
 funcs : M.funcs.length = m.funcs.length
 f : ∀ (i : Nat) (f F : Func), m.funcs[i]? = some f → M.funcs[i]? = some F → F.name = f.name ∧ F.bind = f.bind ∧ F.params = f.params ∧ F.blocks.length = f.blocks.length ∧ (Plain1 f → F = f)
theorem findF_at {m : Module} (hok : ModOk m) {s : ByteArray} {f : Func} (h : findF m s = some f) : ∃ i : Nat, m.funcs[i]? = some f ∧ f.name = s := by
 obtain ⟨i, hi, rfl⟩ := List.getElem_of_mem (List.mem_of_find?_eq_some h)
 exact ⟨i, List.getElem?_eq_getElem hi, by simpa using List.find?_some h⟩
theorem Based.leaf {m M : Module} (hB : Based m M) (hok : ModOk m) (hokM : ModOk M) {s : ByteArray} {g : Func} {l : Block} (h : findF m s = some g) (hl : g.blocks = [l]) (hno : ∀ i ∈ l.ins, ¬ i.op = 14) : findF M s = some g := by
 obtain ⟨i, hi, hn⟩ := findF_at hok h
 have hlt := (List.getElem?_eq_some_iff.1 hi).1
 have hi' : M.funcs[i]? = some (M.funcs[i]'(by rw [hB.funcs]; exact hlt)) := List.getElem?_eq_getElem _
 obtain ⟨_, _, _, _, e⟩ := hB.f i g _ hi hi'
 have e := e ⟨l, hl, hno⟩
 rw [e] at hi'
 rw [← hn]
 exact findF_uniq hokM (List.mem_of_getElem? hi')
def BlkAt (M : Module) (fi bi : Nat) (b : Block) : Prop := ∃ f : Func, M.funcs[fi]? = some f ∧ f.blocks[bi]? = some b
structure BlkSet (M M' : Module) (fi bi : Nat) (b : Block) : Prop where
 at_ : BlkAt M' fi bi b
 other : ∀ i j c, BlkAt M i j c → ¬ (i = fi ∧ j = bi) → BlkAt M' i j c
theorem blkSet_put {M : Module} {fi : Nat} {f0 : Func} {bi : Nat} {b0 : Block} {ak : Nat} {x0 : Inst} {g0 : Func} {l : Block} (h : OnePut M fi f0 bi b0 ak x0 g0 l) : BlkSet M (putM M fi f0 bi b0 ak l) fi bi (putB b0 l ak) := by
 have hfl := (List.getElem?_eq_some_iff.1 h.hf).1
 have hbl := (List.getElem?_eq_some_iff.1 h.hb).1
 have hfi : (putM M fi f0 bi b0 ak l).funcs[fi]? = some (putF f0 bi b0 ak l) := by simp only [putM]; rw [List.getElem?_set, if_pos rfl, if_pos hfl]
 refine ⟨⟨_, hfi, by simp only [putF]; rw [List.getElem?_set, if_pos rfl, if_pos hbl]⟩, fun i j c hc hne => ?_⟩
 obtain ⟨f, hf, hc⟩ := hc
 by_cases hi : i = fi
 ·subst hi
  rw [h.hf] at hf
  injection hf with hf
  subst hf
  refine ⟨_, hfi, ?_⟩
  simp only [putF]
  rw [List.getElem?_set, if_neg (fun e => hne ⟨rfl, e.symm⟩)]
  exact hc
 ·refine ⟨f, ?_, hc⟩
  simp only [putM]
  rw [List.getElem?_set, if_neg (fun e => hi e.symm)]
  exact hf
theorem based_put {m M : Module} (hB : Based m M) {fi : Nat} {f0 : Func} {bi : Nat} {b0 : Block} {ak : Nat} {x0 : Inst} {g0 : Func} {l : Block} (h : OnePut M fi f0 bi b0 ak x0 g0 l) : Based m (putM M fi f0 bi b0 ak l) := by
 have hfl := (List.getElem?_eq_some_iff.1 h.hf).1
 refine ⟨hB.globs, by simp [putM, hB.funcs], fun i f F hf hF => ?_⟩
 simp only [putM] at hF
 rw [List.getElem?_set] at hF
 by_cases hi : fi = i
 ·subst hi
  rw [if_pos rfl, if_pos hfl] at hF
  injection hF with hF
  obtain ⟨a1, a2, a3, a4, a5⟩ := hB.f fi f f0 hf h.hf
  subst hF
  refine ⟨a1, a2, a3, by simp [putF, a4], fun hp => ?_⟩
  exfalso
  have e := a5 hp
  obtain ⟨b, hb, hno⟩ := hp
  have h1 := h.hb
  rw [e, hb] at h1
  have h2 : b0 = b := by
   cases bi with
   | zero => simp at h1; exact h1.symm
   | succ k => simp at h1
  exact hno x0 (h2 ▸ List.mem_of_getElem? h.hx) h.h14
 ·rw [if_neg hi] at hF
  exact hB.f i f F hf hF
theorem putYes_iff {b l : Block} {ak : Nat} : putYes b l ak = true ↔ ak < b.ins.length ∧ (b.ins[ak]?.getD default).op = 14 ∧ ((b.ins[ak]?.getD default).args.length : Int) = l.params ∧ l.kind = 3 ∧ (b.ins.length : Int) - 1 + l.ins.length ≤ 32 := by
 unfold putYes insAt
 simp only [Bool.and_eq_true, decide_eq_true_eq, Int.toNat_natCast]
 omega
theorem puts_block {m : Module} (hok : ModOk m) (budget : Int) (fi bi : Nat) : ∀ (n : Nat) (M : Module) (b : Block) (at' : Nat), Puts m M → Based m M → BlkAt M fi bi b →
    ∃ M', Puts m M' ∧ Based m M' ∧ BlkSet M M' fi bi (blockI m budget n b at') := by
  intro n
  induction n with
  | zero => intro M b at' hP hB hb; exact ⟨M, hP, hB, hb, fun _ _ _ h _ => h⟩
  | succ n ih =>
    intro M b at' hP hB hb
    unfold blockI
    cases hx : b.ins[at']? with
    | none => exact ⟨M, hP, hB, hb, fun _ _ _ h _ => h⟩
    | some x =>
      simp only
      by_cases h14 : x.op = 14
      · rw [if_pos h14]
        cases hl : leafL m budget x.name with
        | none => exact ih M b (at' + 1) hP hB hb
        | some l =>
          simp only
          by_cases hy : putYes b l at' = true
          · rw [if_pos hy]
            obtain ⟨y1, y2, y3, y4, y5⟩ := putYes_iff.1 hy
            obtain ⟨g, hg, hgl, hk, hno⟩ := leafL_some hl
            obtain ⟨f0, hf0, hb0⟩ := hb
            have hone : OnePut M fi f0 bi b at' x g l := ⟨hf0, hb0, hx, h14, hB.leaf hok (hP.ok hok) hg hgl hno, hgl, hk, hno, by omega⟩
            obtain ⟨M', h1, h2, h3⟩ := ih (putM M fi f0 bi b at' l) (putB b l at') (at' + l.ins.length) (hP.step hone) (based_put hB hone) (blkSet_put hone).at_
            exact ⟨M', h1, h2, h3.at_, fun i j c hc hne => h3.other i j c ((blkSet_put hone).other i j c hc hne) hne⟩
          · rw [if_neg hy]
            exact ih M b (at' + 1) hP hB hb
      · rw [if_neg h14]
        exact ih M b (at' + 1) hP hB hb
structure Done (m M : Module) (budget : Int) (L : List (Nat × Nat)) : Prop where
 puts : Puts m M
 based : Based m M
 blk : ∀ i j b, BlkAt m i j b → BlkAt M i j (if (i, j) ∈ L then inlB m budget b else b)
theorem done_all {m : Module} (hok : ModOk m) (budget : Int) : ∀ L : List (Nat × Nat), ∃ M, Done m M budget L
  | [] => ⟨m, .refl, ⟨rfl, rfl, fun i f F h1 h2 => by rw [h1] at h2; injection h2 with h2; subst h2; exact ⟨rfl, rfl, rfl, rfl, fun _ => rfl⟩⟩, fun i j b h => by simpa using h⟩
  | (fi, bi) :: L => by
    obtain ⟨M, hM⟩ := done_all hok budget L
    by_cases hin : (fi, bi) ∈ L
    · exact ⟨M, hM.puts, hM.based, fun i j b h => by
        have e : ((i, j) ∈ (fi, bi) :: L) ↔ (i, j) ∈ L := by
          rw [List.mem_cons]
          exact ⟨fun h => h.elim (fun e => e ▸ hin) id, .inr⟩
        have := hM.blk i j b h
        by_cases hc : (i, j) ∈ L
        · rw [if_pos hc] at this; rw [if_pos (e.2 hc)]; exact this
        · rw [if_neg hc] at this; rw [if_neg (fun h => hc (e.1 h))]; exact this⟩
    · by_cases hb : ∃ b, BlkAt m fi bi b
      · obtain ⟨b, hb⟩ := hb
        have hbM := hM.blk fi bi b hb
        rw [if_neg hin] at hbM
        obtain ⟨M', h1, h2, h3⟩ := puts_block hok budget fi bi b.ins.length M b 0 hM.puts hM.based hbM
        refine ⟨M', h1, h2, fun i j c hc => ?_⟩
        by_cases he : i = fi ∧ j = bi
        · obtain ⟨rfl, rfl⟩ := he
          have : c = b := by
            obtain ⟨f, hf, hb⟩ := hb
            obtain ⟨f', hf', hc⟩ := hc
            rw [hf] at hf'
            injection hf' with hf'
            subst hf'
            rw [hb] at hc
            injection hc with hc
            exact hc.symm
          subst this
          rw [if_pos (by simp)]
          exact h3.at_
        · have := h3.other i j _ (hM.blk i j c hc) he
          have e : ((i, j) ∈ (fi, bi) :: L) ↔ (i, j) ∈ L := by
            rw [List.mem_cons]
            exact ⟨fun h => h.elim (fun e => absurd (Prod.mk.injEq .. ▸ e) he) id, .inr⟩
          by_cases hc' : (i, j) ∈ L
          · rw [if_pos hc'] at this; rw [if_pos (e.2 hc')]; exact this
          · rw [if_neg hc'] at this; rw [if_neg (fun h => hc' (e.1 h))]; exact this
      · refine ⟨M, hM.puts, hM.based, fun i j c hc => ?_⟩
        have := hM.blk i j c hc
        by_cases he : i = fi ∧ j = bi
        · obtain ⟨rfl, rfl⟩ := he
          exact absurd ⟨c, hc⟩ hb
        · have e : ((i, j) ∈ (fi, bi) :: L) ↔ (i, j) ∈ L := by
            rw [List.mem_cons]
            exact ⟨fun h => h.elim (fun e => absurd (Prod.mk.injEq .. ▸ e) he) id, .inr⟩
          by_cases hc' : (i, j) ∈ L
          · rw [if_pos hc'] at this; rw [if_pos (e.2 hc')]; exact this
          · rw [if_neg hc'] at this; rw [if_neg (fun h => hc' (e.1 h))]; exact this
theorem puts_inl {m : Module} (hok : ModOk m) (budget : Int) : Puts m { m with funcs := m.funcs.map (inlF m budget) } := by
  obtain ⟨M, hM⟩ := done_all hok budget ((List.range 16).flatMap fun i => (List.range 16).map fun j => (i, j))
  have hall : ∀ i j b, BlkAt m i j b → BlkAt M i j (inlB m budget b) := fun i j b h => by
    have := hM.blk i j b h
    rwa [if_pos] at this
    obtain ⟨f, hf, hb⟩ := h
    have h1 := (List.getElem?_eq_some_iff.1 hf).1
    have h2 := (List.getElem?_eq_some_iff.1 hb).1
    have h3 := hok.nf
    have h4 := funcOk_len (hok.funcs f (List.mem_of_getElem? hf))
    exact List.mem_flatMap.2 ⟨i, List.mem_range.2 (by omega), List.mem_map.2 ⟨j, List.mem_range.2 (by omega), rfl⟩⟩
  have e : M = { m with funcs := m.funcs.map (inlF m budget) } := by
    have hfs : M.funcs = m.funcs.map (inlF m budget) := by
      apply List.ext_getElem?
      intro i
      rw [List.getElem?_map]
      cases hf : m.funcs[i]? with
      | none =>
        have : M.funcs.length ≤ i := by rw [hM.based.funcs]; exact List.getElem?_eq_none_iff.1 hf
        rw [List.getElem?_eq_none_iff.2 this]
        rfl
      | some f =>
        have hlt : i < M.funcs.length := by rw [hM.based.funcs]; exact (List.getElem?_eq_some_iff.1 hf).1
        have hF := List.getElem?_eq_getElem hlt
        generalize M.funcs[i] = F at hF
        obtain ⟨a1, a2, a3, a4, _⟩ := hM.based.f i f F hf hF
        rw [hF]
        simp only [Option.map_some, Option.some.injEq]
        have hbl : F.blocks = f.blocks.map (inlB m budget) := by
          apply List.ext_getElem?
          intro j
          rw [List.getElem?_map]
          cases hb : f.blocks[j]? with
          | none =>
            have : F.blocks.length ≤ j := by rw [a4]; exact List.getElem?_eq_none_iff.1 hb
            rw [List.getElem?_eq_none_iff.2 this]
            rfl
          | some b =>
            obtain ⟨F', hF', hb'⟩ := hall i j b ⟨f, hf, hb⟩
            rw [hF] at hF'
            injection hF' with hF'
            subst hF'
            exact hb'
        cases F
        cases f
        simp only [inlF] at a1 a2 a3 hbl ⊢
        simp [a1, a2, a3, hbl]
    have hgs := hM.based.globs
    cases M
    simp only at hfs hgs ⊢
    rw [hfs, hgs]
  rw [← e]
  exact hM.puts
theorem inl_ok {m : Module} (hok : ModOk m) (budget : Int) : ModOk (inlM m budget) := by
 unfold inlM
 rw [if_pos (checkE_zero.2 hok)]
 exact (puts_inl hok budget).ok hok
theorem inl_whole {m : Module} (hw : wholeE m = 0) (budget : Int) : wholeE (inlM m budget) = 0 := by
 unfold inlM
 rw [if_pos (checkE_zero.2 (wholeE_zero.1 hw).1)]
 exact (puts_inl (wholeE_zero.1 hw).1 budget).whole hw
theorem inl_runs {m : Module} (hw : wholeE m = 0) (budget : Int) : RunRel m (inlM m budget) := by
 unfold inlM
 rw [if_pos (checkE_zero.2 (wholeE_zero.1 hw).1)]
 exact (puts_inl (wholeE_zero.1 hw).1 budget).runs hw
def c_marlineref07_Whole : ACode :=
 (.seq (.reg [Ro 1 (.box true (Sv 0)), Ro 2 (.mv (Ci 0))])
 (.seq (.reg [Ro 10 (Lk 1 2), Ro 11 (.call true (.f 8) [Sv 10]), Ro 3 (Mv 11)])
 (.seq (.seq (.reg [Ro 12 (Mv 3), Ro 13 (.bin .neq (Sv 12) (Ci 0))])
 (.cond (Sv 13)
 (.seq (.reg [Ro 14 (Mv 3), Ro 2 (Mv 14)])
 .ret)
 .skip))
 (.seq (.reg [Ro 15 (Lk 1 2), Ro 16 (.call true (.f 21) [Sv 15, (.c (.string ⟨#[109, 97, 105, 110]⟩))]), Ro 4 (Mv 16)])
 (.seq (.seq (.reg [Ro 17 (Mv 4), Ro 18 (.bin .lss (Sv 17) (Ci 0)), Ro 19 (Mv 18), Rg 20 19 false (Fd 1 0), Rg 21 19 false (Ld 20), Rg 22 19 false (Mv 4), Rg 23 19 false (.idx true (Sv 21) (Sv 22) 4), Rg 24 19 false (Fd 23 3), Rg 25 19 false (Ld 24), Rg 26 19 false (.len false (Sv 25)), Rg 27 19 false (.bin .eql (Sv 26) (Ci 0)), Ro 28 (.pick (Sv 19) (.c (.bool true)) (Sv 27)), Ro 29 (Mv 28), Rg 30 29 false (Fd 1 0), Rg 31 29 false (Ld 30), Rg 32 29 false (Mv 4), Rg 33 29 false (.idx true (Sv 31) (Sv 32) 4), Rg 34 29 false (Fd 33 2), Rg 35 29 false (Ld 34), Rg 36 29 false (.bin .neq (Sv 35) (Ci 0)), Ro 37 (.pick (Sv 29) (.c (.bool true)) (Sv 36))])
 (.cond (Sv 37)
 (.seq (.reg [Ro 2 (.mv (Ci 11))])
 .ret)
 .skip))
 (.seq (.seq (.reg [Ro 5 (.mv (Ci 0))])
 (.block 0
 (.loop (.seq (.seq (.reg [Ro 38 (Mv 5), Ro 39 (Fd 1 0), Ro 40 (Ld 39), Ro 41 (.len false (Sv 40)), Ro 42 (.bin .lss (Sv 38) (Sv 41))])
 (.cond (Sv 42)
 .skip
 (.exit 0)))
 (.seq (.block 1
 (.seq (.reg [Ro 45 (Fd 1 0), Ro 46 (Ld 45), Ro 47 (Mv 5), Ro 48 (.idx true (Sv 46) (Sv 47) 4), Ro 49 (Lk 48 4), Ro 50 (.call true (.f 31) [Sv 49]), Ro 6 (Mv 50)])
 (.seq (.reg [Ro 7 (.mv (Ci 0))])
 (.block 2
 (.loop (.seq (.seq (.reg [Ro 51 (Mv 7), Ro 52 (Mv 6), Ro 53 (.len false (Sv 52)), Ro 54 (.bin .lss (Sv 51) (Sv 53))])
 (.cond (Sv 54)
 .skip
 (.exit 2)))
 (.seq (.block 3
 (.seq (.reg [Rl 57 (Lk 1 2) 0, Rl 58 (Mv 6) 1, Rl 59 (Mv 7) 2, Rl 60 (.idx true (Sv 58) (Sv 59) 1) 3, Rl 61 (Ld 60) 4, Rl 62 (.call true (.f 21) [Sv 57, Sv 61]) 5, Rl 8 (Mv 62) 6])
 (.seq (.reg [Rl 63 (Lk 1 2) 0, Rl 64 (Mv 6) 1, Rl 65 (Mv 7) 2, Rl 66 (.idx true (Sv 64) (Sv 65) 1) 3, Rl 67 (Ld 66) 4, Rl 68 (.call true (.f 22) [Sv 63, Sv 67]) 5, Rl 9 (Mv 68) 6])
 (.seq (.reg [Ro 69 (Mv 8), Ro 70 (.bin .geq (Sv 69) (Ci 0)), Ro 71 (Mv 70), Rg 72 71 true (Fd 1 0), Rg 73 71 true (Ld 72), Rg 74 71 true (Mv 8), Rg 75 71 true (.idx true (Sv 73) (Sv 74) 4), Rg 76 71 true (Fd 75 3), Rg 77 71 true (Ld 76), Rg 78 71 true (.len false (Sv 77)), Rg 79 71 true (.bin .eql (Sv 78) (Ci 0)), Ro 80 (.pick (Sv 71) (Sv 79) (.c (.bool false))), Ro 81 (Mv 80), Rg 82 81 false (Mv 8), Rg 83 81 false (.bin .lss (Sv 82) (Ci 0)), Rg 84 81 false (Mv 83), Rg 85 84 true (Fd 1 1), Rg 86 84 true (Ld 85), Rg 87 84 true (Mv 9), Rg 88 84 true (.idx true (Sv 86) (Sv 87) 4), Rg 89 84 true (Fd 88 2), Rg 90 84 true (Ld 89), Rg 91 84 true (.not (Sv 90)), Rg 92 81 false (.pick (Sv 84) (Sv 91) (.c (.bool false))), Ro 93 (.pick (Sv 81) (.c (.bool true)) (Sv 92))])
 (.cond (Sv 93)
 (.seq (.reg [Ro 2 (.mv (Ci 8))])
 .ret)
 .skip)))))
 (.reg [Ro 55 (Mv 7), Ro 56 (.bin .add (Sv 55) (Ci 1)), Ro 7 (Mv 56)]))))))))
 (.reg [Ro 43 (Mv 5), Ro 44 (.bin .add (Sv 43) (Ci 1)), Ro 5 (Mv 44)]))))))
 (.seq (.reg [Ro 2 (.mv (Ci 0))])
 .ret)))))))
def r_marlineref07_Whole : List ARes := [(.tmp (sl 2))]
theorem t_marlineref07_Whole : (Tryz.f16).body.bind (trCode Tryz.prog 8 (Tryz.f16).ntmps [] [] (drOk 8)) = some c_marlineref07_Whole := by kernel_rfl
theorem u_marlineref07_Whole : trRess Tryz.prog 8 (Tryz.f16).results.toList = some r_marlineref07_Whole := by kernel_rfl
def c_marlineref07_power : ACode :=
 (.seq (.reg [Ro 2 (.mv (.c (.int .u64 0)))])
 (.seq (.reg [Ro 3 (.mv (.c (.int .u64 1)))])
 (.seq (.block 0
 (.loop (.seq (.seq (.reg [Ro 4 (Mv 0), Ro 5 (.bin .gtr (Sv 4) (.c (.int .u64 0)))])
 (.cond (Sv 5)
 .skip
 (.exit 0)))
 (.block 1
 (.seq (.reg [Ro 6 (Mv 3), Ro 7 (Mv 3), Ro 8 (.bin .add (Sv 6) (Sv 7)), Ro 3 (Mv 8)])
 (.reg [Ro 9 (Mv 0), Ro 10 (.bin .sub (Sv 9) (.c (.int .u64 1))), Ro 0 (Mv 10)]))))))
 (.seq (.reg [Ro 11 (Mv 3), Ro 2 (Mv 11)])
 .ret))))
def r_marlineref07_power : List ARes := [(.tmp (sl 2))]
theorem t_marlineref07_power : (Tryz.f108).body.bind (trCode Tryz.prog 8 (Tryz.f108).ntmps [] [] (drOk 8)) = some c_marlineref07_power := by kernel_rfl
theorem u_marlineref07_power : trRess Tryz.prog 8 (Tryz.f108).results.toList = some r_marlineref07_power := by kernel_rfl
def c_marlineref07_Reckon : ACode :=
 (.seq (.reg [Ro 6 (.mv (.c (.int .u64 0)))])
 (.seq (.seq (.reg [Ro 7 (Mv 0), Ro 8 (.bin .eql (Sv 7) (Ci 2))])
 (.cond (Sv 8)
 (.seq (.reg [Ro 9 (Mv 1), Ro 10 (Mv 2), Ro 11 (.bin .add (Sv 9) (Sv 10)), Ro 6 (Mv 11)])
 .ret)
 .skip))
 (.seq (.seq (.reg [Ro 12 (Mv 0), Ro 13 (.bin .eql (Sv 12) (Ci 3))])
 (.cond (Sv 13)
 (.seq (.reg [Ro 14 (Mv 1), Ro 15 (Mv 2), Ro 16 (.bin .sub (Sv 14) (Sv 15)), Ro 6 (Mv 16)])
 .ret)
 .skip))
 (.seq (.seq (.reg [Ro 17 (Mv 0), Ro 18 (.bin .eql (Sv 17) (Ci 4))])
 (.cond (Sv 18)
 (.seq (.reg [Ro 19 (Mv 1), Ro 20 (Mv 2), Ro 21 (.bin .mul (Sv 19) (Sv 20)), Ro 6 (Mv 21)])
 .ret)
 .skip))
 (.seq (.seq (.reg [Ro 22 (Mv 0), Ro 23 (.bin .eql (Sv 22) (Ci 5))])
 (.cond (Sv 23)
 (.seq (.reg [Ro 24 (Mv 1), Ro 25 (Mv 2), Ro 26 (.bin .and (Sv 24) (Sv 25)), Ro 6 (Mv 26)])
 .ret)
 .skip))
 (.seq (.seq (.reg [Ro 27 (Mv 0), Ro 28 (.bin .eql (Sv 27) (Ci 6))])
 (.cond (Sv 28)
 (.seq (.reg [Ro 29 (Mv 1), Ro 30 (Mv 2), Ro 31 (.bin .or (Sv 29) (Sv 30)), Ro 6 (Mv 31)])
 .ret)
 .skip))
 (.seq (.seq (.reg [Ro 32 (Mv 0), Ro 33 (.bin .eql (Sv 32) (Ci 7))])
 (.cond (Sv 33)
 (.seq (.reg [Ro 34 (Mv 1), Ro 35 (Mv 2), Ro 36 (.bin .xor (Sv 34) (Sv 35)), Ro 6 (Mv 36)])
 .ret)
 .skip))
 (.seq (.seq (.reg [Ro 37 (Mv 0), Ro 38 (.bin .eql (Sv 37) (Ci 8))])
 (.cond (Sv 38)
 (.seq (.reg [Ro 39 (Mv 1), Ro 40 (Mv 2), Ro 41 (.bin .rem (Sv 40) (.c (.int .u64 64))), Ro 42 (.call true (.f 108) [Sv 41]), Ro 43 (.bin .mul (Sv 39) (Sv 42)), Ro 6 (Mv 43)])
 .ret)
 .skip))
 (.seq (.seq (.reg [Ro 44 (Mv 0), Ro 45 (.bin .eql (Sv 44) (Ci 9))])
 (.cond (Sv 45)
 (.seq (.reg [Ro 46 (Mv 1), Ro 47 (Mv 2), Ro 48 (.bin .rem (Sv 47) (.c (.int .u64 64))), Ro 49 (.call true (.f 108) [Sv 48]), Ro 50 (.bin .quo (Sv 46) (Sv 49)), Ro 6 (Mv 50)])
 .ret)
 .skip))
 (.seq (.seq (.reg [Ro 51 (Mv 0), Ro 52 (.bin .eql (Sv 51) (Ci 10)), Ro 53 (Mv 52), Rg 54 53 true (Mv 1), Rg 55 53 true (Mv 2), Rg 56 53 true (.bin .lss (Sv 54) (Sv 55)), Ro 57 (.pick (Sv 53) (Sv 56) (.c (.bool false))), Ro 58 (Mv 57), Rg 59 58 false (Mv 0), Rg 60 58 false (.bin .eql (Sv 59) (Ci 11)), Rg 61 58 false (Mv 60), Rg 62 61 true (Mv 1), Rg 63 61 true (Mv 2), Rg 64 61 true (.bin .eql (Sv 62) (Sv 63)), Rg 65 58 false (.pick (Sv 61) (Sv 64) (.c (.bool false))), Ro 66 (.pick (Sv 58) (.c (.bool true)) (Sv 65))])
 (.cond (Sv 66)
 (.seq (.reg [Ro 6 (.mv (.c (.int .u64 1)))])
 .ret)
 .skip))
 (.seq (.reg [Ro 6 (.mv (.c (.int .u64 0)))])
 .ret)))))))))))
def r_marlineref07_Reckon : List ARes := [(.tmp (sl 6))]
theorem t_marlineref07_Reckon : (Tryz.f83).body.bind (trCode Tryz.prog 8 (Tryz.f83).ntmps [] [] (drOk 8)) = some c_marlineref07_Reckon := by kernel_rfl
theorem u_marlineref07_Reckon : trRess Tryz.prog 8 (Tryz.f83).results.toList = some r_marlineref07_Reckon := by kernel_rfl
def c_marlineref07_pick : ACode :=
 (.seq (.reg [Ro 4 (.mv (.c (.slice none 0 0)))])
 (.seq (.reg [Ro 5 (.mv (.c (.slice none 0 0)))])
 (.seq (.seq (.reg [Ro 6 (.mv (Ci 0))])
 (.block 0
 (.loop (.seq (.seq (.reg [Ro 7 (Mv 6), Ro 8 (Mv 1), Ro 9 (.len false (Sv 8)), Ro 10 (.bin .lss (Sv 7) (Sv 9))])
 (.cond (Sv 10)
 .skip
 (.exit 0)))
 (.seq (.block 1
 (.reg [Ro 13 (Mv 5), Ro 14 (Mv 0), Ro 15 (Mv 1), Ro 16 (Mv 6), Ro 17 (.idx true (Sv 15) (Sv 16) 1), Ro 18 (Ld 17), Ro 19 (.idx true (Sv 14) (Sv 18) 1), Ro 20 (Ld 19), Ro 21 (.mksl 1 1 [(.int .u64 0)] [(0, 1, (Sv 20))]), Ro 22 (.app 43 1 8 (Sv 13) (Sv 21)), Ro 5 (Mv 22)]))
 (.reg [Ro 11 (Mv 6), Ro 12 (.bin .add (Sv 11) (Ci 1)), Ro 6 (Mv 12)]))))))
 (.seq (.reg [Ro 23 (Mv 5), Ro 4 (Mv 23)])
 .ret))))
def r_marlineref07_pick : List ARes := [(.tmp (sl 4))]
theorem t_marlineref07_pick : (Tryz.f53).body.bind (trCode Tryz.prog 8 (Tryz.f53).ntmps [4, 5, 13, 22, 23] [] (drOk 8)) = some c_marlineref07_pick := by kernel_rfl
theorem u_marlineref07_pick : trRess Tryz.prog 8 (Tryz.f53).results.toList = some r_marlineref07_pick := by kernel_rfl
def c_marlineref07_step : ACode :=
 (.seq (.reg [Ro 2 (.box false (Sv 0)), Ro 4 (.new [(.bool false), (.int .u64 0), (.string ⟨#[]⟩), (.int .i64 0), (.int .i64 0), (.int .i64 0), (.slice none 0 0), (.int .i64 0)])])
 (.seq (.seq (.reg [Ro 5 (Fd 2 0), Ro 6 (Fd 5 4), Ro 7 (.ld false (Sv 6) none), Ro 8 (Mv 1), Ro 9 (.bin .eql (Sv 7) (Sv 8))])
 (.cond (Sv 9)
 (.seq (.reg [Ro 10 (Fd 2 7), Rn (.st (Sv 10) (Ci 12) 1)])
 (.seq (.reg [Ro 11 (.ld false (Sv 2) (some 8)), Rn (.st (Sv 4) (Sv 11) 8)])
 .ret))
 .skip))
 (.seq (.reg [Ro 12 (Fd 2 0), Ro 13 (Fd 12 4), Ro 14 (.ld false (Sv 13) none), Ro 15 (.bin .add (Sv 14) (Ci 1)), Ro 16 (Fd 2 0), Ro 17 (Fd 16 4), Rn (.st (Sv 17) (Sv 15) 1)])
 (.seq (.reg [Ro 18 (.ld false (Sv 2) (some 8)), Rn (.st (Sv 4) (Sv 18) 8)])
 .ret))))
def r_marlineref07_step : List ARes := [(.cell (sl 4) (some 8))]
theorem t_marlineref07_step : (Tryz.f52).body.bind (trCode Tryz.prog 8 (Tryz.f52).ntmps [2, 4, 5, 6, 7, 10, 11, 12, 13, 14, 16, 17, 18] [] (drOk 8)) = some c_marlineref07_step := by kernel_rfl
theorem u_marlineref07_step : trRess Tryz.prog 8 (Tryz.f52).results.toList = some r_marlineref07_step := by kernel_rfl
def c_marlineref07_Run : ACode :=
 (.seq (.reg [Ro 4 (.box true (Sv 0)), Ro 8 (.new [(.bool false), (.int .u64 0), (.string ⟨#[]⟩), (.int .i64 0), (.int .i64 0), (.int .i64 0)]), Ro 9 (.mv (Ci 0))])
 (.seq (.seq (.reg [Ro 14 (Mv 2), Ro 15 (.bin .lss (Sv 14) (Ci 0)), Ro 16 (Mv 15), Rg 17 16 false (Mv 2), Rg 18 16 false (.bin .gtr (Sv 17) (Ci 100000)), Ro 19 (.pick (Sv 16) (.c (.bool true)) (Sv 18)), Ro 20 (Mv 19), Rg 21 20 false (Mv 3), Rg 22 20 false (.bin .lss (Sv 21) (Ci 1)), Ro 23 (.pick (Sv 20) (.c (.bool true)) (Sv 22)), Ro 24 (Mv 23), Rg 25 24 false (Mv 3), Rg 26 24 false (.bin .gtr (Sv 25) (Ci 64)), Ro 27 (.pick (Sv 24) (.c (.bool true)) (Sv 26))])
 (.cond (Sv 27)
 (.seq (.reg [Ro 28 (.bld [(.bool false), (.int .u64 0), (.string ⟨#[]⟩), (.int .i64 0), (.int .i64 0), (.int .i64 0)] []), Rn (.st (Sv 8) (Sv 28) 6), Ro 9 (.mv (Ci 1))])
 .ret)
 .skip))
 (.seq (.reg [Ro 29 (Lk 4 2), Ro 30 (.call true (.f 16) [Sv 29]), Ro 10 (Mv 30)])
 (.seq (.seq (.reg [Ro 31 (Mv 10), Ro 32 (.bin .neq (Sv 31) (Ci 0))])
 (.cond (Sv 32)
 (.seq (.reg [Ro 33 (.bld [(.bool false), (.int .u64 0), (.string ⟨#[]⟩), (.int .i64 0), (.int .i64 0), (.int .i64 0)] []), Ro 34 (Mv 10), Rn (.st (Sv 8) (Sv 33) 6), Ro 9 (Mv 34)])
 .ret)
 .skip))
 (.seq (.reg [Ro 35 (.bld [(.bool false), (.int .u64 0), (.string ⟨#[]⟩), (.int .i64 0), (.int .i64 0), (.int .i64 0), (.slice none 0 0), (.int .i64 0)] []), Ro 11 (.new [(.bool false), (.int .u64 0), (.string ⟨#[]⟩), (.int .i64 0), (.int .i64 0), (.int .i64 0), (.slice none 0 0), (.int .i64 0)]), Rn (.ini 1 (Sv 11) (Sv 35) 8)])
 (.seq (.seq (.reg [Ro 12 (.mv (Ci 0))])
 (.block 0
 (.loop (.seq (.seq (.reg [Ro 36 (Mv 12), Ro 37 (Fd 4 1), Ro 38 (Ld 37), Ro 39 (.len false (Sv 38)), Ro 40 (.bin .lss (Sv 36) (Sv 39))])
 (.cond (Sv 40)
 .skip
 (.exit 0)))
 (.seq (.block 1
 (.reg [Rl 43 (Fd 11 6) 0, Rl 44 (.ld false (Sv 43) none) 1, Rl 45 (Fd 4 1) 2, Rl 46 (Ld 45) 3, Rl 47 (Mv 12) 4, Rl 48 (.idx true (Sv 46) (Sv 47) 4) 5, Rl 49 (Fd 48 3) 6, Rl 50 (Ld 49) 7, Rl 51 (.mksl 1 1 [(.int .u64 0)] [(0, 1, (Sv 50))]) 8, Rl 52 (.app 43 1 8 (Sv 44) (Sv 51)) 9, Rl 53 (Fd 11 6) 10, ⟨none, none, (.st (Sv 53) (Sv 52) 1), (some (11, []))⟩]))
 (.reg [Ro 41 (Mv 12), Ro 42 (.bin .add (Sv 41) (Ci 1)), Ro 12 (Mv 42)]))))))
 (.seq (.reg [Ro 55 (Lk 4 2), Ro 56 (.ld false (Sv 11) (some 8)), Ro 57 (Mv 1), Ro 58 (Mv 2), Ro 59 (Mv 3), Ro 60 (.call false (.f 32) [Sv 55, Sv 56, Sv 57, (.c (.string ⟨#[109, 97, 105, 110]⟩)), (.c (.slice none 0 0)), Ci 1, Sv 58, Sv 59]), Ro 54 (Mv 60), Ro 61 (.ext (Sv 54) 0), Ro 62 (.ext (Sv 54) 1), Rn (.st (Sv 11) (Sv 61) 8), Ro 13 (Mv 62)])
 (.seq (.seq (.reg [Ro 63 (Fd 11 7), Ro 64 (.ld false (Sv 63) none), Ro 65 (.bin .neq (Sv 64) (Ci 0))])
 (.cond (Sv 65)
 (.seq (.reg [⟨(some (sl 66)), none, (Fd 11 0), (some (0, [(sl 8)]))⟩, ⟨(some (sl 67)), none, (.ld false (Sv 66) (some 6)), (some (1, [(sl 8)]))⟩, ⟨(some (sl 68)), none, (Fd 11 7), (some (2, [(sl 8)]))⟩, ⟨(some (sl 69)), none, (.ld false (Sv 68) none), (some (3, [(sl 8)]))⟩, ⟨none, none, (.st (Sv 8) (Sv 67) 6), (some (4, [(sl 8)]))⟩, ⟨(some (sl 9)), none, (Mv 69), (some (5, [(sl 8)]))⟩])
 .ret)
 .skip))
 (.seq (.reg [Ro 70 (Fd 11 0), Ro 71 (Fd 70 0), Rn (.st (Sv 71) (.c (.bool true)) 1)])
 (.seq (.reg [Ro 72 (Mv 13), Ro 73 (Fd 11 0), Ro 74 (Fd 73 1), Rn (.st (Sv 74) (Sv 72) 1)])
 (.seq (.reg [Ro 75 (Fd 11 0), Ro 76 (.ld false (Sv 75) (some 6)), Rn (.st (Sv 8) (Sv 76) 6), Ro 9 (.mv (Ci 0))])
 .ret)))))))))))
def r_marlineref07_Run : List ARes := [(.cell (sl 8) (some 6)), (.tmp (sl 9))]
theorem t_marlineref07_Run : (Tryz.f17).body.bind (trCode Tryz.prog 8 (Tryz.f17).ntmps [8, 9, 11, 43, 44, 52, 53, 56, 63, 64, 66, 67, 68, 69, 70, 71, 73, 74, 75, 76] [] (drOk 8)) = some c_marlineref07_Run := by kernel_rfl
theorem u_marlineref07_Run : trRess Tryz.prog 8 (Tryz.f17).results.toList = some r_marlineref07_Run := by kernel_rfl
set_option maxRecDepth 10000 in
theorem whole_pure (m : Module) (hm : Small m) : APure Tryz.prog 16 [.agg (moduleC m)] (.int (wholeE m)) := by
 refine apureG _ _ Tryz.func16 (by kernel_rfl) t_marlineref07_Whole u_marlineref07_Whole rfl rfl (fun _ => ?_)
 have hlm := hm.len
 simp [c_marlineref07_Whole, r_marlineref07_Whole]
 refine call_plain (ds := [.agg (moduleC m)]) _ (by simp) (by simp) (fun _ => rfl) (fun _ => refCheck_pure m hm.args) ?_
 simp
 refine ⟨fun hz => ?_, fun hz => ?_⟩
 ·unfold wholeE; rw [if_pos hz]; exact DLe.refl _
 have hok := checkE_zero.1 hz
 refine call_plain (ds := [.agg (moduleC m), .str mainS]) _ (by simp) (by simp) (fun _ => rfl) (fun _ => findFunc_pure m mainS) ?_
 simp
 have hw0 : wholeE m = if mainB m = true then (if (refsA m.funcs).all (thereB m) = true then 0 else 8) else 11 := by
  unfold wholeE
  rw [if_neg (by rw [hz]; simp)]
 rcases leads_eq m mainS with ⟨km, hkm, h1, h2⟩ | ⟨h1, h2⟩
 rotate_left
 ·have hb : mainB m = false := by unfold mainB; rw [h2]
  rw [h1, hw0, hb]
  refine ⟨fun h => by omega, fun h => by omega, fun _ => DLe.refl _, fun h => by omega⟩
 have hb : mainB m = (decide (m.funcs[km].blocks.length ≠ 0) && decide (m.funcs[km].params = 0)) := by unfold mainB; rw [h2]
 rw [h1]
 simp only [Int.toNat_natCast, getD_some hkm]
 refine ⟨fun _ => ⟨by omega, by omega⟩, fun _ h => ⟨⟨by omega, h⟩, by omega, by omega⟩, fun h => ?_, fun _ hbl hpa => ?_⟩
 ·have : mainB m = false := by
   rw [hb]
   rcases h with (h | h) | h
   ·omega
   ·simp [h]
   ·simp [h]
  rw [hw0, this]
  exact DLe.refl _
 have hmb : mainB m = true := by
  rw [hb]
  simp [hbl, hpa]
 rw [hmb] at hw0
 have hr : ∀ q, wholeE m = q ↔ (if (refsA m.funcs).all (thereB m) = true then (0 : Int) else 8) = q := fun q => by rw [hw0]; simp
 refine loop_s (κ := Nat) (fun i => i ≤ m.funcs.length ∧ ∀ x ∈ refsA (m.funcs.take i), thereB m x = true) (fun i => m.funcs.length - i) (fun i => [(sl 5, .int i)]) (fun _ => []) 0 0 (srcs []) (by simp [refsA]) (by simp) ?_
 rintro i ⟨hi, hall⟩
 simp
 refine ⟨fun hlt => ?_, fun hge => ?_⟩
 ·refine ⟨hlt, ?_⟩
  rw [getD_some hlt]
  obtain ⟨f, hf⟩ : ∃ f, m.funcs[i] = f := ⟨_, rfl⟩
  have hfm : f ∈ m.funcs := by rw [← hf]; exact List.getElem_mem hlt
  have hfi := hm.ins f hfm
  simp only [hf]
  refine call_plain (ds := [.agg (funcC f)]) _ (by simp) (by simp) (fun _ => rfl) (fun _ => refRefs_pure f (by omega)) ?_
  simp
  obtain ⟨L, hL⟩ : ∃ L, namesOf (allIns f) = L := ⟨_, rfl⟩
  have hLl : L.length ≤ 1048576 := by rw [← hL]; exact Nat.le_trans (namesOf_length _) hfi
  simp only [hL]
  refine loop_s (κ := Nat) (fun n => n ≤ L.length ∧ ∀ x ∈ L.take n, thereB m x = true) (fun n => L.length - n) (fun n => [(sl 7, .int n)]) (fun _ => []) 0 0 (srcs []) (by simp) (by simp) ?_
  rintro n ⟨hn, hall2⟩
  simp
  refine ⟨fun hnl => ⟨hnl, ?_⟩, fun hge => ?_⟩
  ·rw [getD_some hnl]
   obtain ⟨s, hs⟩ : ∃ s, L[n] = s := ⟨_, rfl⟩
   have hsL : s ∈ namesOf (allIns f) := by rw [hL, ← hs]; exact List.getElem_mem _
   simp only [hs]
   refine call_plain (ds := [.agg (moduleC m), .str s]) _ (by simp) (by simp) (fun _ => rfl) (fun _ => findFunc_pure m s) ?_
   simp
   refine ⟨hnl, ?_⟩
   rw [getD_some hnl]
   simp only [hs]
   refine call_plain (ds := [.agg (moduleC m), .str s]) _ (by simp) (by simp) (fun _ => rfl) (fun _ => findGlob_pure m s) ?_
   simp
   have hmem : s ∈ refsA m.funcs := List.mem_flatMap.2 ⟨f, hfm, hsL⟩
   have hbad : thereB m s = false → wholeE m = 8 := fun h => (hr 8).2 (by
    rw [if_neg]
    intro h'
    rw [List.all_eq_true.1 h' s hmem] at h
    cases h)
   have hgo : thereB m s = true → ∀ x ∈ L.take (n + 1), thereB m x = true := fun h x hx => by
    rw [List.take_succ_eq_append_getElem hnl, hs] at hx
    rcases List.mem_append.1 hx with hx | hx
    ·exact hall2 x hx
    ·rw [List.mem_singleton.1 hx]; exact h
   rcases leads_eq m s with ⟨k, hk, e1, e2⟩ | ⟨e1, e2⟩
   ·have ht : thereB m s = decide (m.funcs[k].blocks.length ≠ 0) := by unfold thereB; rw [e2]
    rw [e1]
    simp only [Int.toNat_natCast, getD_some hk]
    refine ⟨fun _ => ⟨by omega, by omega⟩, fun _ h => by omega, fun h => ⟨h, fun h => by omega⟩, fun h => .inr (h (by omega)), fun h => ?_, fun h _ => ?_⟩
    ·rw [hbad (by rw [ht]; rcases h with ⟨_, h⟩ | ⟨h, _⟩ <;> first | omega | simp [h])]
     exact DLe.refl _
    ·refine ⟨n + 1, ⟨by omega, hgo ?_⟩, by omega, srcs [], ?_⟩
     ·rw [ht]
      have := h (by omega)
      simp [this]
     ·simp [SLeK]
      exact DLe_int (wrap_succ (by omega))
   ·rcases leadsG_eq m s with ⟨k, hk, e3, e4⟩ | ⟨e3, e4⟩
    rotate_left
    ·exfalso
     obtain ⟨x, hx, rfl⟩ := List.mem_map.1 hsL
     obtain ⟨h4, h5⟩ := List.mem_filter.1 hx
     rcases isNamed_iff.1 h5 with h6 | h6 | h6
     ·obtain ⟨g, hg, hnm⟩ := hasG_iff.1 ((missI_false (hok.miss x (mem_insM hfm h4))).2 (.inl h6))
      have := List.find?_eq_none.1 e4 g hg
      simp [hnm] at this
     ·obtain ⟨g, hg, hnm⟩ := hasG_iff.1 ((missI_false (hok.miss x (mem_insM hfm h4))).2 (.inr h6))
      have := List.find?_eq_none.1 e4 g hg
      simp [hnm] at this
     ·obtain ⟨g, hg, hnm, _⟩ := hok.call (mem_insM hfm h4) h6
      have := List.find?_eq_none.1 e2 g hg
      simp [hnm] at this
    have ht : thereB m s = m.globs[k].here := by unfold thereB; rw [e2]; simp only [e4]
    rw [e1, e3]
    simp only [Int.toNat_natCast, getD_some hk]
    refine ⟨fun h => by omega, fun _ _ => ⟨⟨.inl (by omega), by omega⟩, by omega, by omega⟩, fun _ => ⟨.inl (by omega), fun _ => ⟨.inl (by omega), by omega⟩⟩, fun _ => .inl (by omega), fun h => ?_, fun _ h => ?_⟩
    ·rw [hbad (by rw [ht]; rcases h with ⟨h, _⟩ | ⟨_, h⟩ <;> first | exact h | omega)]
     exact DLe.refl _
    ·refine ⟨n + 1, ⟨by omega, hgo ?_⟩, by omega, srcs [], ?_⟩
     ·rw [ht]
      exact h (by omega)
     ·simp [SLeK]
      exact DLe_int (wrap_succ (by omega))
  ·rw [List.take_of_length_le hge] at hall2
   refine ⟨i + 1, ⟨by omega, ?_⟩, by omega, srcs [], ?_⟩
   ·have : refsA [f] = L := by rw [← hL]; simp [refsA]
    intro x hx
    rw [List.take_succ_eq_append_getElem hlt, refsA_append, hf, this] at hx
    rcases List.mem_append.1 hx with hx | hx
    ·exact hall x hx
    ·exact hall2 x hx
   ·simp [SLeK]
    exact DLe_int (wrap_succ (by omega))
 ·rw [List.take_of_length_le hge] at hall
  rw [(hr 0).2 (by rw [if_pos (List.all_eq_true.2 hall)])]
  exact DLe.refl _
set_option maxRecDepth 10000 in
theorem whole_any (m : Module) (hm : ArgsOk m) : APure Tryz.prog 16 [.agg (moduleC m)] (.int (wholeE m)) := by
 by_cases hz : checkE m = 0
 ·exact whole_pure m (small_ok (checkE_zero.1 hz))
 ·refine apureG _ _ Tryz.func16 (by kernel_rfl) t_marlineref07_Whole u_marlineref07_Whole rfl rfl (fun _ => ?_)
  simp [c_marlineref07_Whole, r_marlineref07_Whole]
  refine call_plain (ds := [.agg (moduleC m)]) _ (by simp) (by simp) (fun _ => rfl) (fun _ => refCheck_pure m hm) ?_
  simp
  refine ⟨fun _ => ?_, fun h => absurd h hz⟩
  unfold wholeE; rw [if_pos hz]; exact DLe.refl _
end Go.Proofs.YtgadlpdbkohlbaaGreat
/- The bodies of some functions, as the evaluator has them (printed by program), and that they are the program's own. -/
namespace Go.Proofs.YtgadlpdbkohlbaaGreat
open Go.RowKit
def c_reach_find : ACode :=
 (.seq (.reg [Ro 2 (.box true (Sv 0)), Ro 3 (.box true (Sv 1)), Ro 4 (.new [(.string ⟨#[]⟩), (.int .i64 0), (.int .i64 0), (.slice none 0 0)]), Ro 5 (.mv (.c (.bool false)))])
 (.seq (.reg [Ro 7 (Fd 2 0), Ro 8 (Ld 7), Ro 9 (.mkfn 119 [Sv 3]), Ro 10 (.call true (.f 60) [Sv 8, Sv 9]), Ro 6 (Mv 10)])
 (.seq (.seq (.reg [Ro 11 (Mv 6), Ro 12 (.bin .lss (Sv 11) (Ci 0))])
 (.cond (Sv 12)
 (.seq (.reg [Ro 13 (.bld [(.string ⟨#[]⟩), (.int .i64 0), (.int .i64 0), (.slice none 0 0)] []), Rn (.st (Sv 4) (Sv 13) 4), Ro 5 (.mv (.c (.bool false)))])
 .ret)
 .skip))
 (.seq (.reg [Ro 14 (Fd 2 0), Ro 15 (Ld 14), Ro 16 (Mv 6), Ro 17 (.idx true (Sv 15) (Sv 16) 4), Ro 18 (Lk 17 4), Rn (.st (Sv 4) (Sv 18) 4), Ro 5 (.mv (.c (.bool true)))])
 .ret))))
def r_reach_find : List ARes := [(.cell (sl 4) (some 4)), (.tmp (sl 5))]
theorem t_reach_find : (Tryz.f96).body.bind (trCode Tryz.prog 8 (Tryz.f96).ntmps [4] [] (drOk 8)) = some c_reach_find := by kernel_rfl
theorem u_reach_find : trRess Tryz.prog 8 (Tryz.f96).results.toList = some r_reach_find := by kernel_rfl
def c_reach_find_1 : ACode :=
 (.seq (.reg [Ro 2 (.box true (Sv 0)), Ro 3 (.mv (.c (.bool false)))])
 (.seq (.reg [Ro 4 (Fd 2 0), Ro 5 (Ld 4), Ro 6 (Ld 1), Ro 7 (.bin .eql (Sv 5) (Sv 6)), Ro 3 (Mv 7)])
 .ret))
def r_reach_find_1 : List ARes := [(.tmp (sl 3))]
theorem t_reach_find_1 : (Tryz.f119).body.bind (trCode Tryz.prog 8 (Tryz.f119).ntmps [] [] (drOk 8)) = some c_reach_find_1 := by kernel_rfl
theorem u_reach_find_1 : trRess Tryz.prog 8 (Tryz.f119).results.toList = some r_reach_find_1 := by kernel_rfl
def c_slices_Contains___string_string_ : ACode :=
 (.seq (.reg [Ro 4 (.mv (.c (.bool false)))])
 (.seq (.reg [Ro 5 (Mv 0), Ro 6 (Mv 1), Ro 7 (.call true (.f 100) [Sv 5, Sv 6]), Ro 8 (.bin .geq (Sv 7) (Ci 0)), Ro 4 (Mv 8)])
 .ret))
def r_slices_Contains___string_string_ : List ARes := [(.tmp (sl 4))]
theorem t_slices_Contains___string_string_ : (Tryz.f71).body.bind (trCode Tryz.prog 8 (Tryz.f71).ntmps [] [] (drOk 8)) = some c_slices_Contains___string_string_ := by kernel_rfl
theorem u_slices_Contains___string_string_ : trRess Tryz.prog 8 (Tryz.f71).results.toList = some r_slices_Contains___string_string_ := by kernel_rfl
def c_slices_Index___string_string_ : ACode :=
 (.seq (.reg [Ro 4 (.mv (Ci 0))])
 (.seq (.seq (.reg [Ro 6 (Mv 0), Ro 7 (.len false (Sv 6)), Ro 8 (.mv (Ci 0))])
 (.block 0
 (.loop (.seq (.reg [Ro 9 (.bin .lss (Sv 8) (Sv 7))])
 (.seq (.cond (Sv 9)
 .skip
 (.exit 0))
 (.seq (.block 1
 (.seq (.reg [Ro 10 (Mv 8), Ro 5 (Mv 10)])
 (.seq (.reg [Ro 11 (Mv 1), Ro 12 (Mv 0), Ro 13 (Mv 5), Ro 14 (.idx true (Sv 12) (Sv 13) 1), Ro 15 (Ld 14), Ro 16 (.bin .eql (Sv 11) (Sv 15))])
 (.cond (Sv 16)
 (.seq (.reg [Ro 17 (Mv 5), Ro 4 (Mv 17)])
 .ret)
 .skip))))
 (.reg [Ro 18 (.bin .add (Sv 8) (Ci 1)), Ro 8 (Mv 18)])))))))
 (.seq (.reg [Ro 4 (.mv (Ci (-1)))])
 .ret)))
def r_slices_Index___string_string_ : List ARes := [(.tmp (sl 4))]
theorem t_slices_Index___string_string_ : (Tryz.f100).body.bind (trCode Tryz.prog 8 (Tryz.f100).ntmps [] [] (drOk 8)) = some c_slices_Index___string_string_ := by kernel_rfl
theorem u_slices_Index___string_string_ : trRess Tryz.prog 8 (Tryz.f100).results.toList = some r_slices_Index___string_string_ := by kernel_rfl
def c_reach_Roots : ACode :=
 (.seq (.reg [Ro 1 (.box true (Sv 0)), Ro 2 (.mv (.c (.slice none 0 0)))])
 (.seq (.reg [Ro 3 (.mv (.c (.slice none 0 0)))])
 (.seq (.seq (.reg [Ro 8 (Fd 1 0), Ro 9 (Ld 8), Ro 10 (.len false (Sv 9)), Ro 11 (.mv (Ci 0))])
 (.block 0
 (.loop (.seq (.reg [Ro 12 (.bin .lss (Sv 11) (Sv 10))])
 (.seq (.cond (Sv 12)
 .skip
 (.exit 0))
 (.seq (.block 1
 (.seq (.seq (.reg [Ro 13 (.idx true (Sv 9) (Sv 11) 4), Ro 14 (Lk 13 4), Ro 5 (.new [(.string ⟨#[]⟩), (.int .i64 0), (.int .i64 0), (.slice none 0 0)]), Rn (.ini 1 (Sv 5) (Sv 14) 4)])
 (.frz (sl 5)))
 (.seq (.reg [Ro 15 (Fd 5 1), Ro 16 (Ld 15), Ro 17 (.bin .eql (Sv 16) (Ci 2)), Ro 18 (Mv 17), Rg 19 18 false (Fd 5 0), Rg 20 18 false (Ld 19), Rg 21 18 false (.bin .eql (Sv 20) (.c (.string ⟨#[109, 97, 105, 110]⟩))), Ro 22 (.pick (Sv 18) (.c (.bool true)) (Sv 21))])
 (.cond (Sv 22)
 (.reg [Ro 23 (Mv 3), Ro 24 (Fd 5 0), Ro 25 (Ld 24), Ro 26 (.mksl 1 1 [(.string ⟨#[]⟩)] [(0, 1, (Sv 25))]), Ro 27 (.app 9 1 16 (Sv 23) (Sv 26)), Ro 3 (Mv 27)])
 .skip))))
 (.reg [Ro 28 (.bin .add (Sv 11) (Ci 1)), Ro 11 (Mv 28)])))))))
 (.seq (.seq (.reg [Ro 29 (Fd 1 1), Ro 30 (Ld 29), Ro 31 (.len false (Sv 30)), Ro 32 (.mv (Ci 0))])
 (.block 2
 (.loop (.seq (.reg [Ro 33 (.bin .lss (Sv 32) (Sv 31))])
 (.seq (.cond (Sv 33)
 .skip
 (.exit 2))
 (.seq (.block 3
 (.seq (.seq (.reg [Ro 34 (.idx true (Sv 30) (Sv 32) 4), Ro 35 (Lk 34 4), Ro 7 (.new [(.string ⟨#[]⟩), (.int .i64 0), (.bool false), (.int .u64 0)]), Rn (.ini 1 (Sv 7) (Sv 35) 4)])
 (.frz (sl 7)))
 (.seq (.reg [Ro 36 (Fd 7 1), Ro 37 (Ld 36), Ro 38 (.bin .eql (Sv 37) (Ci 2))])
 (.cond (Sv 38)
 (.reg [Ro 39 (Mv 3), Ro 40 (Fd 7 0), Ro 41 (Ld 40), Ro 42 (.mksl 1 1 [(.string ⟨#[]⟩)] [(0, 1, (Sv 41))]), Ro 43 (.app 9 1 16 (Sv 39) (Sv 42)), Ro 3 (Mv 43)])
 .skip))))
 (.reg [Ro 44 (.bin .add (Sv 32) (Ci 1)), Ro 32 (Mv 44)])))))))
 (.seq (.reg [Ro 45 (Mv 3), Ro 2 (Mv 45)])
 .ret)))))
def r_reach_Roots : List ARes := [(.tmp (sl 2))]
theorem t_reach_Roots : (Tryz.f70).body.bind (trCode Tryz.prog 8 (Tryz.f70).ntmps [2, 3, 23, 27, 39, 43, 45] [] (drOk 8)) = some c_reach_Roots := by kernel_rfl
theorem u_reach_Roots : trRess Tryz.prog 8 (Tryz.f70).results.toList = some r_reach_Roots := by kernel_rfl
end Go.Proofs.YtgadlpdbkohlbaaGreat
/- The bodies of some functions, as the evaluator has them (printed by program), and that they are the program's own. -/
namespace Go.Proofs.YtgadlpdbkohlbaaGreat
open Go.RowKit
def c_reach_once_string_ : ACode :=
 (.seq (.reg [Ro 2 (.mv (.c (.slice none 0 0)))])
 (.seq (.reg [Ro 3 (.mv (.c (.slice none 0 0)))])
 (.seq (.seq (.reg [Ro 6 (Mv 0), Ro 7 (.len false (Sv 6)), Ro 8 (.mv (Ci 0))])
 (.block 0
 (.loop (.seq (.reg [Ro 9 (.bin .lss (Sv 8) (Sv 7))])
 (.seq (.cond (Sv 9)
 .skip
 (.exit 0))
 (.seq (.block 1
 (.seq (.reg [Ro 10 (.idx true (Sv 6) (Sv 8) 1), Ro 11 (Ld 10), Ro 5 (Mv 11)])
 (.seq (.reg [Ro 12 (Mv 3), Ro 13 (Mv 5), Ro 14 (.call false (.f 71) [Sv 12, Sv 13]), Ro 15 (.not (Sv 14))])
 (.cond (Sv 15)
 (.reg [Ro 16 (Mv 3), Ro 17 (Mv 5), Ro 18 (.mksl 1 1 [(.string ⟨#[]⟩)] [(0, 1, (Sv 17))]), Ro 19 (.app 9 1 16 (Sv 16) (Sv 18)), Ro 3 (Mv 19)])
 .skip))))
 (.reg [Ro 20 (.bin .add (Sv 8) (Ci 1)), Ro 8 (Mv 20)])))))))
 (.seq (.reg [Ro 21 (Mv 3), Ro 2 (Mv 21)])
 .ret))))
def r_reach_once_string_ : List ARes := [(.tmp (sl 2))]
theorem t_reach_once_string_ : (Tryz.f120).body.bind (trCode Tryz.prog 8 (Tryz.f120).ntmps [2, 3, 12, 16, 19, 21] [(120, 9, 1)] (drOk 8)) = some c_reach_once_string_ := by kernel_rfl
theorem u_reach_once_string_ : trRess Tryz.prog 8 (Tryz.f120).results.toList = some r_reach_once_string_ := by kernel_rfl
def c_reach_names : ACode :=
 (.seq (.reg [Ro 1 (.box true (Sv 0)), Ro 2 (.mv (.c (.slice none 0 0)))])
 (.seq (.reg [Ro 3 (.mv (.c (.slice none 0 0)))])
 (.seq (.seq (.reg [Ro 8 (Fd 1 0), Ro 9 (Ld 8), Ro 10 (.len false (Sv 9)), Ro 11 (.mv (Ci 0))])
 (.block 0
 (.loop (.seq (.reg [Ro 12 (.bin .lss (Sv 11) (Sv 10))])
 (.seq (.cond (Sv 12)
 .skip
 (.exit 0))
 (.seq (.block 1
 (.seq (.seq (.reg [Ro 13 (.idx true (Sv 9) (Sv 11) 4), Ro 14 (Lk 13 4), Ro 5 (.new [(.string ⟨#[]⟩), (.int .i64 0), (.int .i64 0), (.slice none 0 0)]), Rn (.ini 1 (Sv 5) (Sv 14) 4)])
 (.frz (sl 5)))
 (.reg [Ro 15 (Mv 3), Ro 16 (Fd 5 0), Ro 17 (Ld 16), Ro 18 (.mksl 1 1 [(.string ⟨#[]⟩)] [(0, 1, (Sv 17))]), Ro 19 (.app 9 1 16 (Sv 15) (Sv 18)), Ro 3 (Mv 19)])))
 (.reg [Ro 20 (.bin .add (Sv 11) (Ci 1)), Ro 11 (Mv 20)])))))))
 (.seq (.seq (.reg [Ro 21 (Fd 1 1), Ro 22 (Ld 21), Ro 23 (.len false (Sv 22)), Ro 24 (.mv (Ci 0))])
 (.block 2
 (.loop (.seq (.reg [Ro 25 (.bin .lss (Sv 24) (Sv 23))])
 (.seq (.cond (Sv 25)
 .skip
 (.exit 2))
 (.seq (.block 3
 (.seq (.seq (.reg [Ro 26 (.idx true (Sv 22) (Sv 24) 4), Ro 27 (Lk 26 4), Ro 7 (.new [(.string ⟨#[]⟩), (.int .i64 0), (.bool false), (.int .u64 0)]), Rn (.ini 1 (Sv 7) (Sv 27) 4)])
 (.frz (sl 7)))
 (.reg [Ro 28 (Mv 3), Ro 29 (Fd 7 0), Ro 30 (Ld 29), Ro 31 (.mksl 1 1 [(.string ⟨#[]⟩)] [(0, 1, (Sv 30))]), Ro 32 (.app 9 1 16 (Sv 28) (Sv 31)), Ro 3 (Mv 32)])))
 (.reg [Ro 33 (.bin .add (Sv 24) (Ci 1)), Ro 24 (Mv 33)])))))))
 (.seq (.reg [Ro 34 (Mv 3), Ro 35 (.callo 9 1 (.f 120) [Sv 34]), Ro 2 (Mv 35)])
 .ret)))))
def r_reach_names : List ARes := [(.tmp (sl 2))]
theorem t_reach_names : (Tryz.f98).body.bind (trCode Tryz.prog 8 (Tryz.f98).ntmps [2, 3, 15, 19, 28, 32, 34, 35] [(120, 9, 1)] (drOk 8)) = some c_reach_names := by kernel_rfl
theorem u_reach_names : trRess Tryz.prog 8 (Tryz.f98).results.toList = some r_reach_names := by kernel_rfl
end Go.Proofs.YtgadlpdbkohlbaaGreat
/- The bodies of some functions, as the evaluator has them (printed by program), and that they are the program's own. -/
namespace Go.Proofs.YtgadlpdbkohlbaaGreat
open Go.RowKit
def c_reach_From : ACode :=
 (.seq (.reg [Ro 2 (.box true (Sv 0)), Ro 4 (.mv (.c (.slice none 0 0)))])
 (.seq (.reg [Ro 9 (.mmk .string), Ro 5 (.new [(.map none)]), Rn (.ini 1 (Sv 5) (Sv 9) 1)])
 (.seq (.reg [Ro 6 (.new [.nilFunc])])
 (.seq (.reg [Ro 10 (.mkfn 95 [Sv 5, Sv 2, Sv 6]), Rn (.st (Sv 6) (Sv 10) 1)])
 (.seq (.seq (.reg [Ro 11 (Mv 1), Ro 12 (.len false (Sv 11)), Ro 13 (.mv (Ci 0))])
 (.block 0
 (.loop (.seq (.reg [Ro 14 (.bin .lss (Sv 13) (Sv 12))])
 (.seq (.cond (Sv 14)
 .skip
 (.exit 0))
 (.seq (.block 1
 (.seq (.reg [Ro 15 (.idx true (Sv 11) (Sv 13) 1), Ro 16 (Ld 15), Ro 8 (Mv 16)])
 (.reg [Ro 17 (.ld false (Sv 6) none), Ro 18 (Mv 8), Ro 19 (.calle (Sv 17) [Sv 18])])))
 (.reg [Ro 20 (.bin .add (Sv 13) (Ci 1)), Ro 13 (Mv 20)])))))))
 (.seq (.reg [Ro 21 (Lk 2 2), Ro 22 (.callv 9 1 (.f 98) [Sv 21]), Ro 23 (.mkfn 99 [Sv 5]), Ro 24 (.calle (.f 97) [Sv 22, Sv 23]), Ro 4 (Mv 24)])
 .ret))))))
def r_reach_From : List ARes := [(.tmp (sl 4))]
theorem t_reach_From : (Tryz.f69).body.bind (trCode Tryz.prog 8 (Tryz.f69).ntmps [4, 5, 6, 10, 17, 22, 23, 24] [(98, 9, 1001), (97, 0, 0), (1000017, 0, 0)] (drOk 8)) = some c_reach_From := by kernel_rfl
theorem u_reach_From : trRess Tryz.prog 8 (Tryz.f69).results.toList = some r_reach_From := by kernel_rfl
end Go.Proofs.YtgadlpdbkohlbaaGreat
/- The bodies of some functions, as the evaluator has them (printed by program), and that they are the program's own. -/
namespace Go.Proofs.YtgadlpdbkohlbaaGreat
open Go.RowKit
def c_reach_From_1 : ACode :=
 (.seq (.seq (.reg [Ro 9 (.ld false (Sv 1) none), Ro 10 (Mv 0), Ro 11 (.mget (Sv 9) (Sv 10) false .string (.bool false))])
 (.cond (Sv 11)
 .ret
 .skip))
 (.seq (.reg [Ro 12 (.ld false (Sv 1) none), Ro 13 (Mv 0), Rn (.mset false (Sv 12) (Sv 13) (.c (.bool true)) .string)])
 (.seq (.seq (.reg [Ro 15 (Lk 2 2), Ro 16 (Mv 0), Ro 17 (.call true (.f 96) [Sv 15, Sv 16]), Ro 14 (Mv 17), Ro 18 (.ext (Sv 14) 0), Ro 19 (.ext (Sv 14) 1), Ro 5 (.new [(.string ⟨#[]⟩), (.int .i64 0), (.int .i64 0), (.slice none 0 0)]), Rn (.ini 1 (Sv 5) (Sv 18) 4), Ro 6 (Mv 19)])
 (.frz (sl 5)))
 (.seq (.reg [Ro 20 (Mv 6)])
 (.cond (Sv 20)
 (.seq (.reg [Ro 21 (Lk 5 4), Ro 22 (.call true (.f 37) [Sv 21]), Ro 23 (.len false (Sv 22)), Ro 24 (.mv (Ci 0))])
 (.block 0
 (.loop (.seq (.reg [Ro 25 (.bin .lss (Sv 24) (Sv 23))])
 (.seq (.cond (Sv 25)
 .skip
 (.exit 0))
 (.seq (.block 1
 (.seq (.reg [Ro 26 (.idx true (Sv 22) (Sv 24) 1), Ro 27 (Ld 26), Ro 8 (Mv 27)])
 (.reg [Ro 28 (.ld false (Sv 3) none), Ro 29 (Mv 8), Ro 30 (.calle (Sv 28) [Sv 29])])))
 (.reg [Ro 31 (.bin .add (Sv 24) (Ci 1)), Ro 24 (Mv 31)])))))))
 .skip)))))
def r_reach_From_1 : List ARes := []
theorem t_reach_From_1 : (Tryz.f95).body.bind (trCode Tryz.prog 8 (Tryz.f95).ntmps [1, 3, 9, 12, 28] [(1000028, 0, 0)] (drOk 8)) = some c_reach_From_1 := by kernel_rfl
theorem u_reach_From_1 : trRess Tryz.prog 8 (Tryz.f95).results.toList = some r_reach_From_1 := by kernel_rfl
end Go.Proofs.YtgadlpdbkohlbaaGreat
/- The bodies of some functions, as the evaluator has them (printed by program), and that they are the program's own. -/
namespace Go.Proofs.YtgadlpdbkohlbaaGreat
open Go.RowKit
end Go.Proofs.YtgadlpdbkohlbaaGreat
/- The bodies of some functions, as the evaluator has them (printed by program), and that they are the program's own. -/
namespace Go.Proofs.YtgadlpdbkohlbaaGreat
open Go.RowKit
end Go.Proofs.YtgadlpdbkohlbaaGreat
/- The bodies of some functions, as the evaluator has them (printed by program), and that they are the program's own. -/
namespace Go.Proofs.YtgadlpdbkohlbaaGreat
open Go.RowKit
def c_reach_Drop : ACode :=
 (.seq (.reg [Ro 1 (.box true (Sv 0)), Ro 2 (.new [(.slice none 0 0), (.slice none 0 0)])])
 (.seq (.reg [Rl 9 (Lk 1 2) 0, Rl 10 (Lk 1 2) 1, Rl 11 (.call true (.f 70) [Sv 10]) 2, Rl 12 (.call true (.f 69) [Sv 9, Sv 11]) 3, Rl 3 (Mv 12) 4])
 (.seq (.reg [Ro 4 (.new [(.slice none 0 0), (.slice none 0 0)])])
 (.seq (.seq (.reg [Ro 13 (Fd 1 0), Ro 14 (Ld 13), Ro 15 (.len false (Sv 14)), Ro 16 (.mv (Ci 0))])
 (.block 0
 (.loop (.seq (.reg [Ro 17 (.bin .lss (Sv 16) (Sv 15))])
 (.seq (.cond (Sv 17)
 .skip
 (.exit 0))
 (.seq (.block 1
 (.seq (.seq (.reg [Ro 18 (.idx true (Sv 14) (Sv 16) 4), Ro 19 (Lk 18 4), Ro 6 (.new [(.string ⟨#[]⟩), (.int .i64 0), (.int .i64 0), (.slice none 0 0)]), Rn (.ini 1 (Sv 6) (Sv 19) 4)])
 (.frz (sl 6)))
 (.seq (.reg [Ro 20 (Mv 3), Ro 21 (Fd 6 0), Ro 22 (Ld 21), Ro 23 (.call true (.f 71) [Sv 20, Sv 22])])
 (.cond (Sv 23)
 (.reg [Ro 24 (Fd 4 0), Ro 25 (.ld false (Sv 24) none), Ro 26 (Lk 6 4), Ro 27 (.mksl 4 1 [(.string ⟨#[]⟩), (.int .i64 0), (.int .i64 0), (.slice none 0 0)] [(0, 4, (Sv 26))]), Ro 28 (.app 61 4 56 (Sv 25) (Sv 27)), Ro 29 (Fd 4 0), Rn (.st (Sv 29) (Sv 28) 1)])
 .skip))))
 (.reg [Ro 30 (.bin .add (Sv 16) (Ci 1)), Ro 16 (Mv 30)])))))))
 (.seq (.seq (.reg [Ro 31 (Fd 1 1), Ro 32 (Ld 31), Ro 33 (.len false (Sv 32)), Ro 34 (.mv (Ci 0))])
 (.block 2
 (.loop (.seq (.reg [Ro 35 (.bin .lss (Sv 34) (Sv 33))])
 (.seq (.cond (Sv 35)
 .skip
 (.exit 2))
 (.seq (.block 3
 (.seq (.seq (.reg [Ro 36 (.idx true (Sv 32) (Sv 34) 4), Ro 37 (Lk 36 4), Ro 8 (.new [(.string ⟨#[]⟩), (.int .i64 0), (.bool false), (.int .u64 0)]), Rn (.ini 1 (Sv 8) (Sv 37) 4)])
 (.frz (sl 8)))
 (.seq (.reg [Ro 38 (Mv 3), Ro 39 (Fd 8 0), Ro 40 (Ld 39), Ro 41 (.call true (.f 71) [Sv 38, Sv 40])])
 (.cond (Sv 41)
 (.reg [Ro 42 (Fd 4 1), Ro 43 (.ld false (Sv 42) none), Ro 44 (Lk 8 4), Ro 45 (.mksl 4 1 [(.string ⟨#[]⟩), (.int .i64 0), (.bool false), (.int .u64 0)] [(0, 4, (Sv 44))]), Ro 46 (.app 64 4 40 (Sv 43) (Sv 45)), Ro 47 (Fd 4 1), Rn (.st (Sv 47) (Sv 46) 1)])
 .skip))))
 (.reg [Ro 48 (.bin .add (Sv 34) (Ci 1)), Ro 34 (Mv 48)])))))))
 (.seq (.reg [Ro 49 (.ld false (Sv 4) (some 2)), Rn (.st (Sv 2) (Sv 49) 2)])
 .ret))))))
def r_reach_Drop : List ARes := [(.cell (sl 2) (some 2))]
theorem t_reach_Drop : (Tryz.f41).body.bind (trCode Tryz.prog 8 (Tryz.f41).ntmps [2, 4, 24, 25, 28, 29, 42, 43, 46, 47, 49] [] (drOk 8)) = some c_reach_Drop := by kernel_rfl
theorem u_reach_Drop : trRess Tryz.prog 8 (Tryz.f41).results.toList = some r_reach_Drop := by kernel_rfl
end Go.Proofs.YtgadlpdbkohlbaaGreat
/- The bodies of some functions, as the evaluator has them (printed by program), and that they are the program's own. -/
namespace Go.Proofs.YtgadlpdbkohlbaaGreat
open Go.RowKit
end Go.Proofs.YtgadlpdbkohlbaaGreat
namespace Go.Proofs.YtgadlpdbkohlbaaGreat
open Go.RowKit
def c_slices_IndexFunc___api_Func_api_Func_ : ACode :=
 (.seq (.reg [Ro 4 (.mv (Ci 0))])
 (.seq (.seq (.reg [Ro 6 (Mv 0), Ro 7 (.len false (Sv 6)), Ro 8 (.mv (Ci 0))])
 (.block 0
 (.loop (.seq (.reg [Ro 9 (.bin .lss (Sv 8) (Sv 7))])
 (.seq (.cond (Sv 9)
 .skip
 (.exit 0))
 (.seq (.block 1
 (.seq (.reg [Ro 10 (Mv 8), Ro 5 (Mv 10)])
 (.seq (.reg [Ro 11 (Mv 1), Ro 12 (Mv 0), Ro 13 (Mv 5), Ro 14 (.idx true (Sv 12) (Sv 13) 4), Ro 15 (Lk 14 4), Ro 16 (.call true (Sv 11) [Sv 15])])
 (.cond (Sv 16)
 (.seq (.reg [Ro 17 (Mv 5), Ro 4 (Mv 17)])
 .ret)
 .skip))))
 (.reg [Ro 18 (.bin .add (Sv 8) (Ci 1)), Ro 8 (Mv 18)])))))))
 (.seq (.reg [Ro 4 (.mv (Ci (-1)))])
 .ret)))
def r_slices_IndexFunc___api_Func_api_Func_ : List ARes := [(.tmp (sl 4))]
theorem t_slices_IndexFunc___api_Func_api_Func_ : (Tryz.f60).body.bind (trCode Tryz.prog 8 (Tryz.f60).ntmps [] [] (drOk 8)) = some c_slices_IndexFunc___api_Func_api_Func_ := by kernel_rfl
theorem u_slices_IndexFunc___api_Func_api_Func_ : trRess Tryz.prog 8 (Tryz.f60).results.toList = some r_slices_IndexFunc___api_Func_api_Func_ := by kernel_rfl
theorem indexF_pure (xs : List Func) (F : FuncId) (caps : List DV) (p : Func → Bool) (hF : ∀ v ∈ xs, APure Tryz.prog F (.agg (funcC v) :: caps) (.bool (p v))) : APure Tryz.prog 60 [funcsD xs, .fn F caps] (.int (findI p xs)) := by
 refine apureG _ _ Tryz.func60 (by kernel_rfl) t_slices_IndexFunc___api_Func_api_Func_ u_slices_IndexFunc___api_Func_api_Func_ rfl rfl (fun hx => len1 hx fun hl => ?_)
 clear hx
 simp [c_slices_IndexFunc___api_Func_api_Func_, r_slices_IndexFunc___api_Func_api_Func_]
 refine loop_s (κ := Nat) (fun k => k ≤ xs.length ∧ ∀ i (h : i < xs.length), i < k → p xs[i] = false) (fun k => xs.length - k) (fun k => [(sl 8, .int k)]) (fun _ => []) 0 0 (srcs []) (by simp) (by simp) ?_
 rintro k ⟨hk, hb⟩
 simp
 refine ⟨fun hlt => ⟨hlt, ?_⟩, fun hge => ?_⟩
 ·rw [getD_some hlt]
  refine call_plain _ (by simp) (by simp) (fun _ => by simp) (fun _ => hF _ (List.getElem_mem hlt)) ?_
  simp
  refine ⟨fun h => DLe_int (findI_hit hlt hb h).symm, fun h => ?_⟩
  refine ⟨k + 1, ⟨by omega, fun i hi h1 => ?_⟩, by omega, srcs [], ?_⟩
  ·rcases Nat.lt_or_ge i k with h2 | h2
   ·exact hb i hi h2
   ·obtain rfl : i = k := by omega
    exact h
  ·simp [SLeK]
   exact DLe_int (wrap_succ (by omega))
 ·exact DLe_int (findI_miss fun i hi => hb i hi (by omega)).symm
theorem find1_pure (f : Func) (s : ByteArray) : APure Tryz.prog 119 [.agg (funcC f), .cref [.str s] 0] (.bool (decide (f.name = s))) := by
 refine apureG _ _ Tryz.func119 (by kernel_rfl) t_reach_find_1 u_reach_find_1 rfl rfl (fun _ => ?_)
 simp [c_reach_find_1, r_reach_find_1]
def findR (m : Module) (s : ByteArray) : DV := match findF m s with | some f => .tup [.agg (funcC f), .bool true] | none => .tup [.agg [.str ⟨#[]⟩, .int 0, .int 0, .lit (.slice none 0 0)], .bool false]
set_option maxRecDepth 10000 in
theorem find_pure (m : Module) (s : ByteArray) : APure Tryz.prog 96 [.agg (moduleC m), .str s] (findR m s) := by
 refine apureG _ _ Tryz.func96 (by kernel_rfl) t_reach_find u_reach_find rfl rfl (fun _ => ?_)
 simp [c_reach_find, r_reach_find]
 refine call_plain (ds := [funcsD m.funcs, .fn 119 [.cref [.str s] 0]]) _ (by simp) (by simp) (fun _ => by simp) (fun _ => indexF_pure m.funcs _ _ _ (fun f _ => find1_pure f s)) ?_
 simp
 unfold findR findF
 rcases find_idx (fun f : Func => decide (f.name = s)) m.funcs with ⟨k, hk, h1, h2⟩ | ⟨h1, h2⟩
 ·rw [h1, h2]
  refine ⟨fun h => by omega, fun _ => ⟨⟨by omega, by omega⟩, ?_⟩⟩
  simp only [Int.toNat_natCast, getD_some hk]
  exact DLe.refl _
 ·rw [h1, h2]
  exact ⟨fun _ => DLe.refl _, fun h => by omega⟩
theorem indexS_pure (xs : List ByteArray) (s : ByteArray) : APure Tryz.prog 100 [strsD xs, .str s] (.int (findI (fun x => decide (s = x)) xs)) := by
 refine apureG _ _ Tryz.func100 (by kernel_rfl) t_slices_Index___string_string_ u_slices_Index___string_string_ rfl rfl (fun hx => len1 hx fun hl => ?_)
 clear hx
 simp [c_slices_Index___string_string_, r_slices_Index___string_string_]
 refine loop_s (κ := Nat) (fun k => k ≤ xs.length ∧ ∀ i (h : i < xs.length), i < k → decide (s = xs[i]) = false) (fun k => xs.length - k) (fun k => [(sl 8, .int k)]) (fun _ => []) 0 0 (srcs []) (by simp) (by simp) ?_
 rintro k ⟨hk, hb⟩
 simp
 refine ⟨fun hlt => ⟨hlt, ?_⟩, fun hge => ?_⟩
 ·refine ⟨fun h => DLe_int (findI_hit (p := fun x => decide (s = x)) hlt (by simpa using hb) (by simpa [hlt] using h)).symm, fun h => ?_⟩
  refine ⟨k + 1, ⟨by omega, fun i hi h1 => ?_⟩, by omega, srcs [], ?_⟩
  ·rcases Nat.lt_or_ge i k with h2 | h2
   ·simpa using hb i hi h2
   ·obtain rfl : i = k := by omega
    simpa [hlt] using h
  ·simp [SLeK]
   exact DLe_int (wrap_succ (by omega))
 ·exact DLe_int (findI_miss fun i hi => hb i hi (by omega)).symm
theorem any_swap (xs : List ByteArray) (s : ByteArray) : (xs.any fun x => decide (s = x)) = hasN xs s := by
 unfold hasN
 congr 1
 funext x
 rw [Bool.eq_iff_iff]
 simp [eq_comm]
theorem containsS_pure (xs : List ByteArray) (s : ByteArray) : APure Tryz.prog 71 [strsD xs, .str s] (.bool (hasN xs s)) := by
 refine apureG _ _ Tryz.func71 (by kernel_rfl) t_slices_Contains___string_string_ u_slices_Contains___string_string_ rfl rfl (fun _ => ?_)
 simp [c_slices_Contains___string_string_, r_slices_Contains___string_string_]
 refine call_plain (ds := [strsD xs, .str s]) _ (by simp) (by simp) (fun _ => rfl) (fun _ => indexS_pure xs s) ?_
 simp
 exact DLe_bool ((findI_ge (fun x => decide (s = x)) xs).trans (any_swap xs s))
def onceL (l : List ByteArray) : List ByteArray := l.foldl (fun acc x => if hasN acc x = true then acc else acc ++ [x]) []
def onceT (l : List ByteArray) (k : Nat) : List ByteArray := onceL (l.take k)
@[simp] theorem onceT_zero (l : List ByteArray) : onceT l 0 = [] := rfl
theorem onceT_all {l : List ByteArray} {k : Nat} (h : l.length ≤ k) : onceT l k = onceL l := by
 unfold onceT
 rw [List.take_of_length_le h]
theorem onceT_succ {l : List ByteArray} {k : Nat} (hk : k < l.length) : onceT l (k + 1) = if hasN (onceT l k) l[k] = true then onceT l k else onceT l k ++ [l[k]] := by
 unfold onceT onceL
 rw [List.take_succ_eq_append_getElem hk, List.foldl_append]
 rfl
theorem onceT_length (l : List ByteArray) : ∀ k, (onceT l k).length ≤ k := by
  intro k
  induction k with
  | zero => simp
  | succ k ih =>
    by_cases hk : k < l.length
    · rw [onceT_succ hk]
      split
      · omega
      · simp; omega
    · rw [onceT_all (by omega), ← onceT_all (l := l) (k := k) (by omega)]
      omega
set_option maxRecDepth 10000 in
theorem once_own (l : List ByteArray) (hl : l.length ≤ 8796093022208) : AOwn Tryz.prog 120 [strsD l] 9 1 (onceL l).length (fun i => strC ((onceL l)[i]?.getD ⟨#[]⟩)) := by
 refine aownG _ _ Tryz.func120 (by kernel_rfl) t_reach_once_string_ u_reach_once_string_ rfl rfl (fun _ => ?_)
 simp [c_reach_once_string_, r_reach_once_string_]
 refine loop_s (κ := Nat) (fun k => k ≤ l.length) (fun k => l.length - k) (fun k => [(sl 8, .int k), (sl 3, .own 0 (onceT l k).length)])
  (fun k => [(0, .row 9 1 (onceT l k).length fun i => strC ((onceT l k)[i]?.getD ⟨#[]⟩))]) 1 0 (srcs [(0, .nil)]) (by simp) (by simp) ?_
 rintro k hk
 simp
 refine ⟨fun hlt => ⟨hlt, ?_⟩, fun hge => ?_⟩
 ·rw [getD_some hlt]
  have hlen := onceT_length l k
  have hsucc := onceT_succ hlt
  refine call_plain (ds := [strsD (onceT l k), .str l[k]]) _ (by simp) (by simp) (fun _ => by simp; rfl) (fun _ => containsS_pure (onceT l k) l[k]) ?_
  simp
  refine ⟨fun h => ⟨by omega, k + 1, by omega, by omega, srcs [(0, .id 12)], ?_⟩, fun h => ⟨k + 1, by omega, by omega, srcs [(0, .id 0)], ?_⟩⟩
  ·rw [h] at hsucc
   simp [SLeK, hsucc]
   exact ⟨DLe_int (wrap_succ (by omega)), fun i hi => appRow_str hi⟩
  ·rw [h] at hsucc
   simp [SLeK, hsucc]
   exact DLe_int (wrap_succ (by omega))
 ·rw [onceT_all hge]
  exact ⟨rfl, fun _ _ => rfl⟩
set_option maxRecDepth 10000 in
theorem names_own (m : Module) (hl : m.funcs.length + m.globs.length ≤ 1048576) : AOwn Tryz.prog 98 [.agg (moduleC m)] 9 1 (onceL (namesM m)).length (fun i => strC ((onceL (namesM m))[i]?.getD ⟨#[]⟩)) := by
 refine aownG _ _ Tryz.func98 (by kernel_rfl) t_reach_names u_reach_names rfl rfl (fun _ => ?_)
 simp [c_reach_names, r_reach_names]
 refine loop_s (κ := Nat) (fun k => k ≤ m.funcs.length) (fun k => m.funcs.length - k) (fun k => [(sl 11, .int k), (sl 3, .own 0 (fnT m k).length)]) (fun k => [(0, .row 9 1 (fnT m k).length fun i => strC ((fnT m k)[i]?.getD ⟨#[]⟩))]) 1 0 (srcs [(0, .nil)]) (by simp) (by simp) ?_
 rintro k hk
 simp
 refine ⟨fun hlt => ⟨hlt, ?_⟩, fun hge => ?_⟩
 ·have hlm := fnT_length m k
  refine ⟨by omega, k + 1, by omega, by omega, srcs [(0, .id 10)], ?_⟩
  simp [SLeK, fnT_succ hlt, getD_some hlt]
  exact ⟨DLe_int (wrap_succ (by omega)), fun i hi => appRow_str hi⟩
 rw [fnT_all hge]
 refine loop_s (κ := Nat) (fun k => k ≤ m.globs.length) (fun k => m.globs.length - k) (fun k => [(sl 24, .int k), (sl 3, .own 0 (gnT m k).length)]) (fun k => [(0, .row 9 1 (gnT m k).length fun i => strC ((gnT m k)[i]?.getD ⟨#[]⟩))]) 1 0 (srcs [(0, .id 0)]) (by simp) (by simp) ?_
 rintro j hj
 simp
 refine ⟨fun hlt => ⟨hlt, ?_⟩, fun hge => ?_⟩
 ·have hlm := gnT_length m j
  refine ⟨by omega, j + 1, by omega, by omega, srcs [(0, .id 10)], ?_⟩
  simp [SLeK, gnT_succ hlt, getD_some hlt]
  exact ⟨DLe_int (wrap_succ (by omega)), fun i hi => appRow_str hi⟩
 ·rw [gnT_all hge]
  have hn := namesM_length m
  refine callo_k (ds := [strsD (namesM m)]) _ _ (by simp) (by simp) (by simp) (once_own (namesM m) (by omega)) ?_
  simp
def rootF (f : Func) : Bool := decide (f.bind = 2) || decide (f.name = ⟨#[109, 97, 105, 110]⟩)
def rootG (g : Glob) : Bool := g.bind == 2
def rootsL (m : Module) : List ByteArray := (m.funcs.filter rootF).map (·.name) ++ (m.globs.filter rootG).map (·.name)
def rfT (m : Module) (k : Nat) : List ByteArray := ((m.funcs.take k).filter rootF).map (·.name)
def rgT (m : Module) (k : Nat) : List ByteArray := (m.funcs.filter rootF).map (·.name) ++ ((m.globs.take k).filter rootG).map (·.name)
@[simp] theorem rfT_zero (m : Module) : rfT m 0 = [] := rfl
theorem rfT_succ {m : Module} {k : Nat} (hk : k < m.funcs.length) : rfT m (k + 1) = if rootF m.funcs[k] = true then rfT m k ++ [m.funcs[k].name] else rfT m k := by
 unfold rfT
 rw [List.take_succ_eq_append_getElem hk, List.filter_append]
 cases h : rootF m.funcs[k] <;> simp [h]
theorem rfT_all {m : Module} {k : Nat} (hk : m.funcs.length ≤ k) : rfT m k = rgT m 0 := by
 unfold rfT rgT
 rw [List.take_of_length_le hk]
 simp
theorem rfT_length (m : Module) (k : Nat) : (rfT m k).length ≤ k := by
 unfold rfT
 rw [List.length_map]
 have := List.length_filter_le rootF (m.funcs.take k)
 simp at this
 omega
theorem rgT_succ {m : Module} {k : Nat} (hk : k < m.globs.length) : rgT m (k + 1) = if rootG m.globs[k] = true then rgT m k ++ [m.globs[k].name] else rgT m k := by
 unfold rgT
 rw [List.take_succ_eq_append_getElem hk, List.filter_append]
 cases h : rootG m.globs[k] <;> simp [h]
theorem rgT_all {m : Module} {k : Nat} (hk : m.globs.length ≤ k) : rgT m k = rootsL m := by
 unfold rgT rootsL
 rw [List.take_of_length_le hk]
theorem rgT_length (m : Module) (k : Nat) : (rgT m k).length ≤ m.funcs.length + k := by
 unfold rgT
 rw [List.length_append, List.length_map, List.length_map]
 have h1 := List.length_filter_le rootF m.funcs
 have h2 := List.length_filter_le rootG (m.globs.take k)
 simp at h2
 omega
set_option maxRecDepth 10000 in
theorem roots_pure (m : Module) (hl : m.funcs.length + m.globs.length ≤ 1048576) : APure Tryz.prog 70 [.agg (moduleC m)] (strsD (rootsL m)) := by
 refine apureG _ _ Tryz.func70 (by kernel_rfl) t_reach_Roots u_reach_Roots rfl rfl (fun _ => ?_)
 simp [c_reach_Roots, r_reach_Roots]
 refine loop_s (κ := Nat) (fun k => k ≤ m.funcs.length) (fun k => m.funcs.length - k) (fun k => [(sl 11, .int k), (sl 3, .own 0 (rfT m k).length)]) (fun k => [(0, .row 9 1 (rfT m k).length fun i => strC ((rfT m k)[i]?.getD ⟨#[]⟩))]) 1 0 (srcs [(0, .nil)]) (by simp) (by simp) ?_
 rintro k hk
 simp
 refine ⟨fun hlt => ⟨hlt, ?_⟩, fun hge => ?_⟩
 ·have hlm := rfT_length m k
  have hs := rfT_succ hlt
  rw [getD_some hlt]
  refine ⟨fun h => ?_, fun h1 h2 => ?_⟩
  ·have hr : rootF m.funcs[k] = true := by simpa [rootF] using h
   rw [if_pos hr] at hs
   refine ⟨by omega, k + 1, by omega, by omega, srcs [(0, .id 18)], ?_⟩
   simp [SLeK, hs]
   exact ⟨DLe_int (wrap_succ (by omega)), fun i hi => appRow_str hi⟩
  ·have hr : ¬ rootF m.funcs[k] = true := by simp [rootF, h1, h2]
   rw [if_neg hr] at hs
   refine ⟨k + 1, by omega, by omega, srcs [(0, .id 0)], ?_⟩
   simp [SLeK, hs]
   exact DLe_int (wrap_succ (by omega))
 rw [rfT_all hge]
 refine loop_s (κ := Nat) (fun k => k ≤ m.globs.length) (fun k => m.globs.length - k) (fun k => [(sl 32, .int k), (sl 3, .own 0 (rgT m k).length)]) (fun k => [(0, .row 9 1 (rgT m k).length fun i => strC ((rgT m k)[i]?.getD ⟨#[]⟩))]) 1 0 (srcs [(0, .id 0)]) (by simp) (by simp) ?_
 rintro j hj
 simp
 refine ⟨fun hlt => ⟨hlt, ?_⟩, fun hge => ?_⟩
 ·have hlm := rgT_length m j
  have hs := rgT_succ hlt
  rw [getD_some hlt]
  refine ⟨fun h => ?_, fun h1 => ?_⟩
  ·have hr : rootG m.globs[j] = true := by simp [rootG, h]
   rw [if_pos hr] at hs
   refine ⟨by omega, j + 1, by omega, by omega, srcs [(0, .id 13)], ?_⟩
   simp [SLeK, hs]
   exact ⟨DLe_int (wrap_succ (by omega)), fun i hi => appRow_str hi⟩
  ·have hr : ¬ rootG m.globs[j] = true := by simp [rootG, h1]
   rw [if_neg hr] at hs
   refine ⟨j + 1, by omega, by omega, srcs [(0, .id 0)], ?_⟩
   simp [SLeK, hs]
   exact DLe_int (wrap_succ (by omega))
 ·rw [rgT_all hge]
  exact DLe.refl _
def tau (c : Nat) : Nat → Nat := fun i => if i = 999999 then c else i
@[simp] theorem tau_new (c : Nat) : tau c 999999 = c := rfl
def dfs (m : Module) : Nat → List ByteArray → ByteArray → List ByteArray
  | 0, S, _ => S
  | n + 1, S, s => if hasN S s = true then S else match findF m s with
    | none => S ++ [s]
    | some f => (namesOf (allIns f)).foldl (dfs m n) (S ++ [s])
def left (m : Module) (S : List ByteArray) : Nat := (m.funcs.filter fun f => !hasN S f.name).length
theorem left_mono {m : Module} {S S' : List ByteArray} (h : ∀ s, hasN S s = true → hasN S' s = true) : left m S' ≤ left m S := by
 unfold left
 rw [← List.countP_eq_length_filter, ← List.countP_eq_length_filter]
 refine List.countP_mono_left fun f _ hf => ?_
 cases hs : hasN S f.name with
 | false => rfl
 | true => rw [h _ hs] at hf; cases hf
theorem left_lt {m : Module} {S : List ByteArray} {s : ByteArray} {f : Func} (hf : findF m s = some f) (hs : hasN S s = false) : left m (S ++ [s]) < left m S := by
 unfold findF at hf
 have hm := List.mem_of_find?_eq_some hf
 have hn : f.name = s := by simpa using List.find?_some hf
 unfold left
 rw [← List.countP_eq_length_filter, ← List.countP_eq_length_filter]
 obtain ⟨a, b, hab⟩ := List.append_of_mem hm
 rw [hab]
 simp only [List.countP_append, List.countP_cons]
 have key : ∀ l : List Func, l.countP (fun f => !hasN (S ++ [s]) f.name) ≤ l.countP (fun f => !hasN S f.name) := fun l => List.countP_mono_left fun f _ hf => by
  cases h : hasN S f.name with
  | false => rfl
  | true => rw [hasN_append, h] at hf; cases hf
 have h1 := key a
 have h2 := key b
 have h3 : (!hasN (S ++ [s]) f.name) = false := by rw [hasN_append, hn]; simp [hasN]
 have h4 : (!hasN S f.name) = true := by rw [hn, hs]; rfl
 rw [h3, h4]
 simp
 omega
theorem dfs_mono (m : Module) : ∀ (n : Nat) (S : List ByteArray) (s : ByteArray) (t : ByteArray), hasN S t = true → hasN (dfs m n S s) t = true := by
  intro n
  induction n with
  | zero => intro S s t h; exact h
  | succ n ih =>
    intro S s t h
    unfold dfs
    split
    · exact h
    · have h' : hasN (S ++ [s]) t = true := by rw [hasN_append, h]; rfl
      split
      · exact h'
      · rename_i f _
        have key : ∀ (l : List ByteArray) (S : List ByteArray), hasN S t = true → hasN (l.foldl (dfs m n) S) t = true := by
          intro l
          induction l with
          | nil => intro S h; exact h
          | cons x l ihl => intro S h; exact ihl _ (ih S x t h)
        exact key _ _ h'
theorem fold_mono (m : Module) (n : Nat) (t : ByteArray) : ∀ (l : List ByteArray) (S : List ByteArray), hasN S t = true → hasN (l.foldl (dfs m n) S) t = true
 | [], _, h => h
 | x :: l, S, h => fold_mono m n t l _ (dfs_mono m n S x t h)
def LR (m : Module) (S : List ByteArray) : List (Nat × AObj) :=
 [(1000000, .box [.mp 1000001]), (1000001, .map .string S.length (mapN S)), (1000002, .box [.fn 95 [.ptr 1000000 0, .d (.cref (moduleC m) 0), .ptr 1000002 0]])]
theorem hof_LR (m : Module) (S : List ByteArray) : hof (LR m S) = hadd 1000000 (.box [.mp 1000001]) (hadd 1000001 (.map .string S.length (mapN S)) (hadd 1000002 (.box [.fn 95 [.ptr 1000000 0, .d (.cref (moduleC m) 0), .ptr 1000002 0]]) hnil)) := rfl
theorem LR_end {m : Module} {S S' : List ByteArray} {n : Nat} {f : Value → Option Value} (hn : n = S'.length) (hf : ∀ v, kdOk .string v = true → f v = mapN S' v) : EffEnd (LR m S) (LR m S') (hadd 1000000 (.box [.mp 1000001]) (hadd 1000001 (.map .string n f) (hadd 1000002 (.box [.fn 95 [.ptr 1000000 0, .d (.cref (moduleC m) 0), .ptr 1000002 0]]) hnil))) := by
 subst hn
 refine ⟨.none, ?_, ?_⟩
 ·simp [LR, gE]
  exact fun v hv => hf v hv
 ·simp [LR, gE]
set_option maxRecDepth 10000 in
theorem reach_eff (m : Module) (hm : Small m) : ∀ (n : Nat) (S : List ByteArray) (s : ByteArray), left m S < n → AEff Tryz.prog 95 [.d (.str s), .ptr 1000000 0, .d (.cref (moduleC m) 0), .ptr 1000002 0] (LR m S) (.tup []) (LR m (dfs m n S s)) := by
  intro n
  induction n with
  | zero => intro S s h; omega
  | succ n ih =>
    intro S s hn
    refine aeffG _ _ Tryz.func95 (by kernel_rfl) t_reach_From_1 u_reach_From_1 rfl rfl (by simp [LR]) (by simp [LR, idsOk]) (fun _ => ?_)
    by_cases hs : hasN S s = true
    · have e : dfs m (n + 1) S s = S := by unfold dfs; rw [if_pos hs]
      rw [e]
      simp [c_reach_From_1, r_reach_From_1, hof_LR, hs]
      exact LR_end rfl fun _ _ => rfl
    · have hs' : hasN S s = false := by simpa using hs
      simp [c_reach_From_1, r_reach_From_1, hof_LR, hs']
      refine call_plain (ds := [.agg (moduleC m), .str s]) _ (by simp) (by simp) (fun _ => rfl) (fun _ => find_pure m s) ?_
      cases hf : findF m s with
      | none =>
        have hr : findR m s = .tup [.agg [.str ⟨#[]⟩, .int 0, .int 0, .lit (.slice none 0 0)], .bool false] := by unfold findR; rw [hf]
        have e : dfs m (n + 1) S s = S ++ [s] := by unfold dfs; rw [if_neg hs, hf]
        rw [hr, e]
        simp
        exact LR_end (by simp) fun v hv => mapN_step v hv
      | some f =>
        have hr : findR m s = .tup [.agg (funcC f), .bool true] := by unfold findR; rw [hf]
        have e : dfs m (n + 1) S s = (namesOf (allIns f)).foldl (dfs m n) (S ++ [s]) := by
          conv => lhs; unfold dfs
          rw [if_neg hs, hf]
        have hfm : f ∈ m.funcs := List.mem_of_find?_eq_some hf
        have hl := left_lt hf hs'
        rw [hr, e]
        simp
        refine call_plain (ds := [.agg (funcC f)]) _ (by simp) (by simp) (fun _ => rfl) (fun _ => refs_pure f (by have := hm.ins f hfm; omega)) ?_
        simp
        obtain ⟨ns, hns⟩ : ∃ ns, namesOf (allIns f) = ns := ⟨_, rfl⟩
        have hnl : ns.length ≤ 1048576 := by rw [← hns]; exact Nat.le_trans (namesOf_length _) (hm.ins f hfm)
        simp only [hns]
        refine loop_s (κ := Nat) (fun k => k ≤ ns.length) (fun k => ns.length - k) (fun k => [(sl 24, .int k)]) (fun k => LR m ((ns.take k).foldl (dfs m n) (S ++ [s]))) 0 0 (srcs []) (by simp) ?_ ?_
        · simp [LR]
          exact fun v hv => mapN_step v hv
        rintro k hk
        have hmu : left m ((ns.take k).foldl (dfs m n) (S ++ [s])) < n := by
          have := left_mono (m := m) (S := S ++ [s]) (S' := (ns.take k).foldl (dfs m n) (S ++ [s])) fun t ht => fold_mono m n t _ _ ht
          omega
        simp [hof_LR]
        refine ⟨fun hlt => ⟨hlt, ?_⟩, fun hge => ?_⟩
        · have hsucc : (ns.take (k + 1)).foldl (dfs m n) (S ++ [s]) = dfs m n ((ns.take k).foldl (dfs m n) (S ++ [s])) ns[k] := by
            rw [List.take_succ_eq_append_getElem hlt, List.foldl_append]
            rfl
          refine calle_k (ih ((ns.take k).foldl (dfs m n) (S ++ [s])) ns[k] hmu) (tau _) rfl [.d (.str ns[k]), .ptr 1000000 0, .d (.cref (moduleC m) 0), .ptr 1000002 0] (by simp) (by simp) (by simp [hlt]) (by simp [gOf, LR, tau]) (by simp [gOf, LR, tau]) (by simp [gOf, LR, tau]) (by simp [LR, idsOk]) ?_
          simp [LR, tau]
          refine ⟨k + 1, by omega, by omega, srcs [], ?_⟩
          simp [SLeK, hsucc]
          exact DLe_int (wrap_succ (by omega))
        · rw [List.take_of_length_le hge]
          exact LR_end rfl fun _ _ => rfl
end Go.Proofs.YtgadlpdbkohlbaaGreat
namespace Go.Proofs.YtgadlpdbkohlbaaGreat
open Go.RowKit Go.Shelf Go.Sort
def delRen : Go.Shelf.Ren := ⟨fun | 6 => 62 | 10 => 97 | n => n,
 fun | 0 => 0 | 3 => 3 | 4 => 4 | 22 => 66 | 23 => 9 | 25 => 65 | n => n, fun n => n⟩
theorem delLays : SlLaysH.n10 Tryz.prog delRen where
 mixed := by kernel_rfl
 f6 := ⟨Tryz.f62.name, by decide, Tryz.func62.trans (congrArg some (by kernel_rfl))⟩
 f10 := ⟨Tryz.f97.name, by decide, Tryz.func97.trans (congrArg some (by kernel_rfl))⟩
 t0 := Tryz.underlying0
 a0 := Tryz.isAgg0
 z0 := Tryz.sizeOf0
 v0 := Tryz.zeroValue0
 t3 := Tryz.underlying3
 a3 := Tryz.isAgg3
 z3 := Tryz.sizeOf3
 v3 := Tryz.zeroValue3
 t4 := Tryz.underlying4
 a4 := Tryz.isAgg4
 z4 := Tryz.sizeOf4
 v4 := Tryz.zeroValue4
 t22 := Tryz.underlying66
 a22 := Tryz.isAgg66
 z22 := Tryz.sizeOf66
 v22 := Tryz.zeroValue66
 a23 := Tryz.isAgg9
 z23 := Tryz.sizeOf9
 t25 := Tryz.underlying65
 a25 := Tryz.isAgg65
 z25 := Tryz.sizeOf65
 v25 := Tryz.zeroValue65
theorem run_lookN {W : World} {mb : Nat} {ent : Array MapEntry} {clock : Nat} {S : List ByteArray} (hm : W.heap[mb]? = some (.map ent clock)) (hall : ∀ x, x ∈ ent.toList → kdOk .string x.key = true) (hf : ∀ k, kdOk .string k = true → entFind ent.toList k = mapN S k) (s : ByteArray) :
    (Instr.lookup 87 (.map (some mb)) (.string s) false).run Tryz.prog W = .ok (.bool (hasN S s)) W := by
  have hfk := hf (.string s) rfl
  have hi := entIdx_find ent.toList (.string s) 0
  rw [hfk, mapN_str] at hi
  unfold Instr.lookup
  simp only [Sem.run_bind, run_underlying Tryz.underlying87, Result.andThen_ok, run_getObj hm, Sem.run_pure, run_checkKey (P := Tryz.prog) (kd := .string) (key := .string s) Tryz.underlying9 rfl, run_findKey (P := Tryz.prog) (kd := .string) (key := .string s) Tryz.underlying9 rfl hall]
  cases hx : entIdx ent.toList (.string s) 0 with
  | none =>
    rw [hx] at hi
    cases h : hasN S s <;> simp [h] at hi
    simp [Tryz.zeroValue4]
  | some p =>
    rw [hx] at hi
    cases h : hasN S s <;> simp [h] at hi
    simp [hi]
set_option maxRecDepth 100000 in
theorem from2_gives {W : World} {b mb : Nat} {ent : Array MapEntry} {clock : Nat} {S : List ByteArray} (hc : W.cell? ⟨b, 0, none⟩ = some (.map (some mb))) (hm : W.heap[mb]? = some (.map ent clock)) (hall : ∀ x, x ∈ ent.toList → kdOk .string x.key = true)
  (hf : ∀ k, kdOk .string k = true → entFind ent.toList k = mapN S k) (s : ByteArray) : FnGives Tryz.prog 99 #[.pointer (some ⟨b, 0, none⟩)] #[.string s] (.bool (!hasN S s)) W := by
 show Calls Tryz.prog 99 #[.string s, .pointer (some ⟨b, 0, none⟩)] W _
 have hlook := fun s => run_lookN hm hall hf s
 go_enter Tryz.func99, Tryz.ntmps99
 go_wp2
 go_ret
 exact ⟨rfl, 0, rfl⟩
set_option maxRecDepth 100000 in
theorem del_nil (fv : Value) (w : World) : Calls Tryz.prog 97 #[.slice none 0 0, fv] w fun e w' => e = .returned (.slice none 0 0) ∧ ∃ q, w' = w.drewN q := by
 have hIF : Calls Tryz.prog 62 #[.slice none 0 0, fv] w fun e w' => e = .returned (.int .i64 (-1)) ∧ ∃ q, w' = w.drewN q := (AnyE.slices_IndexFunc_empty (ρ := delRen) { delLays with } none 0 fv w).mono fun e w' h => ⟨h.1, 0, h.2⟩
 go_enter Tryz.func97, Tryz.ntmps97
 go_wp2_with (go_at_call 62; refine hIF.mono ?_; rintro e w' ⟨rfl, q, rfl⟩)
 go_ret
 exact ⟨rfl, q, rfl⟩
def LD (S ns : List ByteArray) : List (Nat × AObj) := [(1000000, .box [.mp 1000001]), (1000001, .map .string S.length (mapN S)), (1000003, .vec 9 1 ns.length fun i => (strC (ns[i]?.getD ⟨#[]⟩)).map .d)]
def LD' (S : List ByteArray) : List (Nat × AObj) := [(1000000, .box [.mp 1000001]), (1000001, .map .string S.length (mapN S))]
theorem hdel_LD {S ns : List ByteArray} {Hf : Heap} (hO : HOk (hof (LD S ns)) Hf) : hdel (hjoin (hof (LD S ns)) Hf) 1000003 = hjoin (hof (LD' S)) Hf := by
  have hn : Hf 1000003 = none := by
    cases h : Hf 1000003 with
    | none => rfl
    | some o =>
      have := (hO 1000003 o h).2.1
      simp [LD, hof, hget, hadd] at this
  funext k
  unfold hdel
  by_cases h : 1000003 = k
  · subst h
    rw [if_pos rfl]
    simp [hjoin, LD', hof, hadd, hnil, hn]
  · rw [if_neg h]
    simp [hjoin, LD, LD', hof, hadd, hnil, h]
theorem HOk.sub_LD {S ns : List ByteArray} {Hf : Heap} (hO : HOk (hof (LD S ns)) Hf) : HOk (hof (LD' S)) Hf := fun k o h => by
 obtain ⟨h1, h2, h3⟩ := hO k o h
 refine ⟨h1, ?_, h3⟩
 simp only [LD, LD', hof, hget_add] at h2 ⊢
 split at h2
 ·cases h2
 rename_i a
 rw [if_neg a]
 split at h2
 ·cases h2
 rename_i b
 rw [if_neg b]
 rfl
theorem heap_putRow_ne {α : Type} [Inhabited α] (enc : α → Value) (w : World) (blk off : Nat) (d : Array α) {b : Nat} (h : b ≠ blk) : (putRow enc w blk off d).heap[b]? = w.heap[b]? := by
 unfold putRow mapBlock
 simp only [Array.getElem?_modify]
 rw [if_neg (Ne.symm h)]
theorem del_eff (S ns : List ByteArray) : AEff Tryz.prog 97 [.own 1000003 ns.length, .fn 99 [.ptr 1000000 0]] (LD S ns) (strsD (ns.filter fun s => hasN S s)) (LD' S) := by
  refine aeff_raw (H' := hof (LD' S)) ⟨_, _, Tryz.func97, by kernel_rfl, rfl⟩ (by simp [LD]) (by simp [LD, LD', idsOk]) ⟨.none, by simp [LD', LD, hof, HLe, gE, hget, hadd, OLe, cellsLe, AVLe, AVLe0], by simp [LD', LD, srcApart, gE]⟩ ?_
  intro X0 W0 γ w Hf vs hS hO hvs
  have hg : ∀ k o, hget (hof (LD S ns)) k = some o → hget (hjoin (hof (LD S ns)) Hf) k = some o := fun k o h => by
    have h' : hof (LD S ns) k = some o := h
    simp [hget, hjoin, h']
  obtain ⟨u, hu, hvec⟩ := hS.obj 1000003 _ (hg 1000003 _ (by simp [LD, hof, hget, hadd]; rfl))
  obtain ⟨v0, hv0, b, arr, t0, rfl, hB, hh, hreps⟩ := hS.obj 1000000 _ (hg 1000000 _ (by simp [LD, hof, hget, hadd]; rfl))
  obtain ⟨v1, hv1, mb, ent, clock, rfl, hMB, hmh, hsz, hall, hf⟩ := hS.obj 1000001 _ (hg 1000001 _ (by simp [LD, hof, hget, hadd]; rfl))
  obtain ⟨xs, hown, hrow⟩ := hvec
  rw [← hdel_LD hO]
  have hvg := hg 1000003 _ (show hget (hof (LD S ns)) 1000003 = some (.vec 9 1 ns.length fun i => (strC (ns[i]?.getD ⟨#[]⟩)).map .d) by simp [LD, hof, hget, hadd])
  have hblt := hS.blk_lt hvg hu (b := b)
  have hargs : vs = #[u, .func (.func 99) #[] #[.pointer (some ⟨b, 0, none⟩)]] := by
    obtain ⟨a0, r0, e0, h0, k0⟩ := hvs.uncons
    obtain ⟨a1, r1, rfl, h1, k1⟩ := k0.uncons
    obtain rfl := k1.unnil
    have hu0 : a0 = u := by
      cases h0 with | own _ _ _ h => rw [hu] at h; injection h with h; exact h.symm
    subst hu0
    cases h1 with | fn _ us _ hl hr =>
    obtain ⟨p0, p1, rfl, h3, h4⟩ := (show Reps _ _ _ us _ from ⟨hl, hr⟩).uncons
    obtain rfl := h4.unnil
    cases h3 with | ptr b' _ _ h5 =>
    rw [hv0] at h5
    injection h5 with h5
    injection h5 with h5
    injection h5 with h5
    injection h5 with h5
    subst h5
    exact Array.toList_inj.1 e0
  subst hargs
  have hmb : arr = #[.map (some mb)] := by
    obtain ⟨a0, r0, e0, h0, k0⟩ := hreps.uncons
    obtain rfl := k0.unnil
    cases h0 with | mp b' _ h5 =>
    rw [hv1] at h5
    injection h5 with h5
    injection h5 with h5
    injection h5 with h5
    subst h5
    exact Array.toList_inj.1 e0
  subst hmb
  rcases hown.2 with ⟨rfl, h0⟩ | ⟨g, cap, cur, rfl, hgB, hgh, hn, hcap, hcs, htk⟩
  · refine (del_nil _ w).mono ?_
    rintro e w' ⟨rfl, q, rfl⟩
    have hns : ns = [] := by simpa using h0
    subst hns
    obtain ⟨h1, h2⟩ := hS.spend (w' := w.drewN q) hvg hu (fun _ => trivial) (hS.ext.trans (Ext.drewN w q)) (Nat.le_refl _) (fun _ _ _ => rfl)
    exact ⟨_, rfl, h1, hO.sub_LD, h2, .nil 1 _⟩
  · have hlt : ∀ {k : Nat} {o : Obj}, w.heap[k]? = some o → k < w.heap.size := fun h => (Array.getElem?_eq_some_iff.1 h).1
    have hne : b ≠ g := fun e => absurd (hS.dis 1000000 1000003 _ _ _ _ b (hg 1000000 _ (by simp [LD, hof, hget, hadd]; rfl)) hvg hv0 hu rfl (by rw [e]; rfl)) (by decide)
    have hnm : mb ≠ g := fun e => absurd (hS.dis 1000001 1000003 _ _ _ _ mb (hg 1000001 _ (by simp [LD, hof, hget, hadd]; rfl)) hvg hv1 hu rfl (by rw [e]; rfl)) (by decide)
    have hcell : w.cell? ⟨b, 0, none⟩ = some (.map (some mb)) := by simp [World.cell?, hh]
    have hgc : ∀ j (h : j < ns.length), w.cell? ⟨g, 0 + j, none⟩ = some (.string ns[j]) := by
      have hflat : (List.range ns.length).flatMap xs = ns.map Value.string := by
        rw [flat_congr (g := fun i => [Value.string (ns[i]?.getD ⟨#[]⟩)]) (fun i hi => ?_)]
        · clear hrow hvg hreps hown hvs htk
          have : ∀ l : List ByteArray, (List.range l.length).flatMap (fun i => [Value.string (l[i]?.getD ⟨#[]⟩)]) = l.map Value.string := fun l => by
            rw [← List.map_eq_flatMap]
            refine List.ext_getElem (by simp) fun i h1 h2 => ?_
            simp at h2
            simp [h2]
          exact this ns
        · have hi' : i < ns.length := List.mem_range.1 hi
          obtain ⟨hl, hr⟩ := hrow i hi'
          obtain ⟨v, vs', e, hv, hvs'⟩ := (show Reps _ _ w (xs i) [.d (.lit (.string (ns[i]?.getD ⟨#[]⟩)))] from hr).uncons
          obtain rfl := hvs'.unnil
          obtain rfl := hv.lit
          exact e
      intro j h
      rw [Nat.mul_one, hflat] at htk
      have e : (cur.toList.take ns.length)[j]? = some (.string ns[j]) := by rw [htk]; simp [h]
      rw [List.getElem?_take] at e
      simp [h] at e
      simp [World.cell?, hgh, e]
    have hH : Holds Value.string w g 0 ns.toArray := fun j hj => by
      have hj' : j < ns.length := by simpa using hj
      rw [hgc j hj']
      simp [hj', World.frozen?, hgh]
    have hcon := AnyE.slices_DeleteFunc delLays Value.string (fun _ => rfl) (fun x => !hasN S x) 99 #[.pointer (some ⟨b, 0, none⟩)] (enters_of Tryz.func99 (by kernel_rfl) rfl) ⟨#[]⟩ Tryz.zeroValue9 g 0 cap ns.toArray w
      (fun W x hb => from2_gives ((hb.cell (p := ⟨b, 0, none⟩) (hlt hh)).trans hcell) ((hb.block mb (hlt hmh)).trans hmh) hall.1 hf x)
      (fun n os dk x hs => from2_gives (by
        unfold sortWorld
        rw [cell?_grow _ _ _ (by show b < (putRow _ _ _ _ _).heap.size; rw [size_putRow]; exact hlt hh), cell?_putRow_other _ _ g 0 _ _ (Or.inl hne)]
        exact hcell) (mb := mb) (ent := ent) (clock := clock) (by
        unfold sortWorld grow
        have h0 := heap_putRow_ne Value.string (Sort.ahead w n) g 0 dk hnm
        have h1 : mb < (putRow Value.string (Sort.ahead w n) g 0 dk).heap.size := by rw [size_putRow]; exact hlt hmh
        show ((putRow Value.string (Sort.ahead w n) g 0 dk).heap ++ os)[mb]? = _
        rw [Array.getElem?_append_left h1, h0]
        exact hmh) hall.1 hf x) hH (by simp; unfold maxLen at hcap; omega) (by simpa using hn)
    simp only [List.size_toArray, Bool.not_not] at hcon
    refine (show Calls Tryz.prog 97 _ w _ from hcon).mono ?_
    rintro e w' ⟨rfl, q, rfl⟩
    obtain ⟨h1, h2⟩ := hS.spend (w' := putRow Value.string (Sort.ahead w q) g 0 (ns.filter (fun x => hasN S x) ++ List.replicate (ns.length - (ns.filter fun x => hasN S x).length) (⟨#[]⟩ : ByteArray)).toArray) hvg hu (fun _ => trivial) (show Ext W0 _ from ⟨hS.ext.os, hS.ext.tape, hS.ext.output, by rw [size_putRow]; exact hS.ext.size, fun k hk => (heap_putRow_ne Value.string (Sort.ahead w q) g 0 _ (by omega)).trans (hS.ext.block k hk)⟩) (by rw [size_putRow]; exact Nat.le_refl _)
      (fun k hk _ => heap_putRow_ne Value.string (Sort.ahead w q) g 0 _ (fun e => hk (by rw [e]; rfl)))
    refine ⟨_, rfl, h1, hO.sub_LD, h2, ?_⟩
    have hfl : (ns.filter fun x => hasN S x).length ≤ ns.length := List.length_filter_le _ _
    have hX : ∀ q', ¬ XOf X0 γ (hdel (hjoin (hof (LD S ns)) Hf) 1000003) g q' := by
      rintro q' (h | ⟨id, ob, v, h3, h4, h5, _⟩)
      · exact absurd (hS.hx g q' h) (by omega)
      · rw [hget_del] at h3
        split at h3
        · cases h3
        · rename_i hne'
          exact hne' (hS.dis _ _ _ _ _ _ g hvg h3 hu h4 rfl h5)
    refine .sl g 0 cap 1 _ _ (fun i => [Value.string ((ns.filter fun x => hasN S x)[i]?.getD ⟨#[]⟩)]) (by omega) hcap (by rw [size_putRow]; exact hlt hgh) (fun i _ j _ => hX _) (fun i _ => ⟨rfl, rfl⟩) (fun i hi j v hv => ?_) (fun i hi j h h' => ?_)
    · cases j with
      | succ j => simp at hv
      | zero =>
        simp at hv
        subst hv
        have hc := cell?_putRow Value.string (Sort.ahead w q) g 0 ns.toArray (ns.filter (fun x => hasN S x) ++ List.replicate (ns.length - (ns.filter fun x => hasN S x).length) (⟨#[]⟩ : ByteArray)).toArray (holds_ahead _ _ _ _ _ _ hH) (by simp; omega) i (by simp; omega)
        rw [Nat.mul_one, Nat.add_zero, hc]
        generalize (ns.filter fun x => hasN S x) = fl at hi
        generalize ns.length - fl.length = r
        rw [getElem!_pos _ i (by simp; omega)]
        simp [List.getElem_append_left hi, hi]
    · cases j with
      | succ j => simp at h
      | zero => exact .lit _
end Go.Proofs.YtgadlpdbkohlbaaGreat
namespace Go.Proofs.YtgadlpdbkohlbaaGreat
open Go.RowKit
def reachL (m : Module) (roots : List ByteArray) : List ByteArray := roots.foldl (dfs m (m.funcs.length + 1)) []
def fromL (m : Module) (roots : List ByteArray) : List ByteArray := (onceL (namesM m)).filter fun s => hasN (reachL m roots) s
def tauR (c : Nat) : Nat → Nat := fun i => if i = 1000000 then 1 else if i = 1000001 then 0 else if i = 1000002 then 2 else c
theorem left_le (m : Module) (S : List ByteArray) : left m S < m.funcs.length + 1 := Nat.lt_succ_of_le (List.length_filter_le _ _)
set_option maxRecDepth 10000 in
theorem from_pure (m : Module) (hm : Small m) (roots : List ByteArray) (hr : roots.length ≤ 1048576) : APure Tryz.prog 69 [.agg (moduleC m), strsD roots] (strsD (fromL m roots)) := by
 refine apureG _ _ Tryz.func69 (by kernel_rfl) t_reach_From u_reach_From rfl rfl (fun _ => ?_)
 simp [c_reach_From, r_reach_From]
 refine loop_s (κ := Nat) (fun k => k ≤ roots.length) (fun k => roots.length - k) (fun k => [(sl 13, .int k), (sl 5, .ptr 1 0), (sl 6, .ptr 2 0), (sl 9, .d .top), (sl 10, .d .top)])
  (fun k => [(0, .map .string ((roots.take k).foldl (dfs m (m.funcs.length + 1)) []).length (mapN ((roots.take k).foldl (dfs m (m.funcs.length + 1)) []))), (1, .box [.mp 0]), (2, .box [.fn 95 [.ptr 1 0, .d (.cref (moduleC m) 0), .ptr 2 0]])]) 3 0 (srcs [(0, .id 2), (1, .id 3), (2, .id 5)]) (by simp) ?_ ?_
 ·simp
  exact ⟨fun k _ => by cases k <;> rfl, DLe.refl _⟩
 rintro k hk
 simp
 refine ⟨fun hlt => ⟨hlt, ?_⟩, fun hge => ?_⟩
 ·have hsucc : (roots.take (k + 1)).foldl (dfs m (m.funcs.length + 1)) [] = dfs m (m.funcs.length + 1) ((roots.take k).foldl (dfs m (m.funcs.length + 1)) []) roots[k] := by
   rw [List.take_succ_eq_append_getElem hlt, List.foldl_append]
   rfl
  obtain ⟨S, hS⟩ : ∃ S, (roots.take k).foldl (dfs m (m.funcs.length + 1)) [] = S := ⟨_, rfl⟩
  rw [hS] at hsucc
  simp only [hS]
  refine calle_k (reach_eff m hm (m.funcs.length + 1) S roots[k] (left_le m S)) (tauR _) rfl [.d (.str roots[k]), .ptr 1 0, .d (.cref (moduleC m) 0), .ptr 2 0] (by simp) (by simp) (by simp [hlt]) ?_ ?_ ?_ (by simp [LR, idsOk]) ?_
  ·simp [gOf, LR, tauR]
  ·simp [gOf, LR, tauR]
  ·simp [gOf, LR, tauR]
  simp [LR, tauR]
  refine ⟨k + 1, by omega, by omega, srcs [(0, .id 0), (1, .id 1), (2, .id 2)], ?_⟩
  simp [SLeK, hsucc]
  exact DLe_int (wrap_succ (by omega))
 ·rw [List.take_of_length_le hge]
  refine callv_k (ds := [.agg (moduleC m)]) _ _ rfl (by simp) rfl (names_own m hm.len) (fun _ _ => rfl) ?_
  simp
  refine calle_k (del_eff (reachL m roots) (onceL (namesM m))) (fun i => if i = 1000000 then 1 else if i = 1000001 then 0 else if i = 1000003 then 5 else _) rfl [.own 5 (onceL (namesM m)).length, .fn 99 [.ptr 1 0]] (by simp) (by simp) (by simp) ?_ ?_ ?_ (by simp [LD, LD', idsOk]) ?_
  ·simp [gOf, LD]
  ·simp [gOf, LD, reachL]
  ·simp [gOf, LD]
  simp [LD, LD']
  exact DLe.refl _
def flT {α : Type} (p : α → Bool) (l : List α) (k : Nat) : List α := (l.take k).filter p
@[simp] theorem flT_zero {α : Type} (p : α → Bool) (l : List α) : flT p l 0 = [] := rfl
theorem flT_succ {α : Type} (p : α → Bool) {l : List α} {k : Nat} (hk : k < l.length) : flT p l (k + 1) = if p l[k] = true then flT p l k ++ [l[k]] else flT p l k := by
 unfold flT
 rw [List.take_succ_eq_append_getElem hk, List.filter_append]
 cases h : p l[k] <;> simp [h]
theorem flT_all {α : Type} (p : α → Bool) {l : List α} {k : Nat} (hk : l.length ≤ k) : flT p l k = l.filter p := by
 unfold flT
 rw [List.take_of_length_le hk]
theorem flT_length {α : Type} (p : α → Bool) (l : List α) (k : Nat) : (flT p l k).length ≤ k := by
 unfold flT
 have := List.length_filter_le p (l.take k)
 simp at this
 omega
theorem appRow_func {l : List Func} {x : Func} {i : Nat} (h : i < l.length + 1) : appRow l.length (fun i => funcC (l[i]?.getD default)) (fun i => List.take 4 (List.drop (i * 4) (funcC x))) i = funcC ((l ++ [x])[i]?.getD default) := by
 unfold appRow
 by_cases hi : i < l.length
 ·rw [if_pos hi]; simp [List.getElem?_append_left hi, hi]
 ·obtain rfl : i = l.length := by omega
  simp [funcC]
theorem appRow_glob {l : List Glob} {x : Glob} {i : Nat} (h : i < l.length + 1) : appRow l.length (fun i => globC (l[i]?.getD default)) (fun i => List.take 4 (List.drop (i * 4) (globC x))) i = globC ((l ++ [x])[i]?.getD default) := by
 unfold appRow
 by_cases hi : i < l.length
 ·rw [if_pos hi]; simp [List.getElem?_append_left hi, hi]
 ·obtain rfl : i = l.length := by omega
  simp [globC]
def dropM (m : Module) : Module := ⟨m.funcs.filter fun f => hasN (fromL m (rootsL m)) f.name, m.globs.filter fun g => hasN (fromL m (rootsL m)) g.name⟩
theorem rootsL_length (m : Module) : (rootsL m).length ≤ m.funcs.length + m.globs.length := by
 have := rgT_length m m.globs.length
 rwa [rgT_all (Nat.le_refl _)] at this
set_option maxRecDepth 10000 in
theorem drop_pure (m : Module) (hm : Small m) : APure Tryz.prog 41 [.agg (moduleC m)] (.agg (moduleC (dropM m))) := by
 refine apureG _ _ Tryz.func41 (by kernel_rfl) t_reach_Drop u_reach_Drop rfl rfl (fun _ => ?_)
 have hl := hm.len
 simp [c_reach_Drop, r_reach_Drop]
 refine call_plain (ds := [.agg (moduleC m)]) _ (by simp) (by simp) (fun _ => rfl) (fun _ => roots_pure m hl) ?_
 simp
 refine call_plain (ds := [.agg (moduleC m), strsD (rootsL m)]) _ (by simp) (by simp) (fun _ => rfl) (fun _ => from_pure m hm (rootsL m) (Nat.le_trans (rootsL_length m) hl)) ?_
 simp
 obtain ⟨R, hR⟩ : ∃ R, fromL m (rootsL m) = R := ⟨_, rfl⟩
 rw [hR]
 refine loop_s (κ := Nat) (fun k => k ≤ m.funcs.length) (fun k => m.funcs.length - k) (fun k => [(sl 16, .int k), (sl 4, .ptr 1 0), (sl 2, .ptr 2 0)])
  (fun k => [(0, .row 61 4 (flT (fun f => hasN R f.name) m.funcs k).length fun i => funcC ((flT (fun f => hasN R f.name) m.funcs k)[i]?.getD default)), (1, .box [.own 0 (flT (fun f => hasN R f.name) m.funcs k).length, .d (.lit (.slice none 0 0))]), (2, .box [.d (.lit (.slice none 0 0)), .d (.lit (.slice none 0 0))])]) 3 0 (srcs [(0, .nil), (1, .id 7), (2, .id 1)]) (by simp) ?_ ?_
 ·simp
 rintro k hk
 simp
 refine ⟨fun hlt => ⟨hlt, ?_⟩, fun hge => ?_⟩
 ·have hlm := flT_length (fun f : Func => hasN R f.name) m.funcs k
  have hs := flT_succ (fun f : Func => hasN R f.name) hlt
  rw [getD_some hlt]
  refine call_plain (ds := [strsD R, .str m.funcs[k].name]) _ (by simp) (by simp) (fun _ => rfl) (fun _ => containsS_pure R m.funcs[k].name) ?_
  simp
  refine ⟨fun h => ?_, fun h => ?_⟩
  ·rw [if_pos h] at hs
   refine ⟨by omega, k + 1, by omega, by omega, srcs [(0, .id 16), (1, .id 1), (2, .id 2)], ?_⟩
   simp [SLeK, hs]
   exact ⟨DLe_int (wrap_succ (by omega)), fun i hi => appRow_func hi⟩
  ·rw [if_neg (by simp [h])] at hs
   refine ⟨k + 1, by omega, by omega, srcs [(0, .id 0), (1, .id 1), (2, .id 2)], ?_⟩
   simp [SLeK, hs]
   exact DLe_int (wrap_succ (by omega))
 rw [flT_all _ hge]
 refine loop_s (κ := Nat) (fun k => k ≤ m.globs.length) (fun k => m.globs.length - k) (fun k => [(sl 34, .int k), (sl 4, .ptr 1 0), (sl 2, .ptr 2 0)])
  (fun k => [(0, .row 61 4 (m.funcs.filter fun f => hasN R f.name).length fun i => funcC ((m.funcs.filter fun f => hasN R f.name)[i]?.getD default)), (1, .box [.own 0 (m.funcs.filter fun f => hasN R f.name).length, .own 3 (flT (fun g => hasN R g.name) m.globs k).length]), (2, .box [.d (.lit (.slice none 0 0)), .d (.lit (.slice none 0 0))]),
   (3, .row 64 4 (flT (fun g => hasN R g.name) m.globs k).length fun i => globC ((flT (fun g => hasN R g.name) m.globs k)[i]?.getD default))]) 4 0 (srcs [(0, .id 0), (1, .id 1), (2, .id 2), (3, .nil)]) (by simp) ?_ ?_
 ·simp
 rintro j hj
 simp
 refine ⟨fun hlt => ⟨hlt, ?_⟩, fun hge => ?_⟩
 ·have hlm := flT_length (fun g : Glob => hasN R g.name) m.globs j
  have hs := flT_succ (fun g : Glob => hasN R g.name) hlt
  rw [getD_some hlt]
  refine call_plain (ds := [strsD R, .str m.globs[j].name]) _ (by simp) (by simp) (fun _ => rfl) (fun _ => containsS_pure R m.globs[j].name) ?_
  simp
  refine ⟨fun h => ?_, fun h => ?_⟩
  ·rw [if_pos h] at hs
   refine ⟨by omega, j + 1, by omega, by omega, srcs [(0, .id 0), (1, .id 1), (2, .id 2), (3, .id 17)], ?_⟩
   simp [SLeK, hs]
   exact ⟨DLe_int (wrap_succ (by omega)), fun i hi => appRow_glob hi⟩
  ·rw [if_neg (by simp [h])] at hs
   refine ⟨j + 1, by omega, by omega, srcs [(0, .id 0), (1, .id 1), (2, .id 2), (3, .id 3)], ?_⟩
   simp [SLeK, hs]
   exact DLe_int (wrap_succ (by omega))
 ·rw [flT_all _ hge]
  subst hR
  exact DLe.refl _
def callsI (l : List Inst) : List ByteArray := (l.filter fun i => decide (i.op = 14)).map (·.name)
def callsL (m : Module) (s : ByteArray) : List ByteArray := match findF m s with
 | some f => onceL (callsI (allIns f))
 | none => []




theorem mem_hasN {l : List ByteArray} {s : ByteArray} : hasN l s = true ↔ s ∈ l := hasN_iff _ _
def leads (m : Module) (s : ByteArray) : List ByteArray := match findF m s with
 | none => []
 | some f => namesOf (allIns f)
inductive Rch (m : Module) (R : List ByteArray) : ByteArray → Prop
 | root {s : ByteArray} (h : s ∈ R) : Rch m R s
 | step {s t : ByteArray} (h : Rch m R s) (ht : t ∈ leads m s) : Rch m R t
theorem Rch.mono {m : Module} {R R' : List ByteArray} (h : ∀ s ∈ R, Rch m R' s) {t : ByteArray} (ht : Rch m R t) : Rch m R' t := by
 induction ht with
 | root hs => exact h _ hs
 | step _ ht ih => exact .step ih ht
theorem dfs_sub (m : Module) : ∀ (n : Nat) (S : List ByteArray) (s t : ByteArray), t ∈ dfs m n S s → t ∈ S ∨ Rch m [s] t := by
  intro n
  induction n with
  | zero => intro S s t h; exact .inl h
  | succ n ih =>
    intro S s t h
    unfold dfs at h
    split at h
    · exact .inl h
    · split at h
      · rcases List.mem_append.1 h with h | h
        · exact .inl h
        · exact .inr (.root h)
      · rename_i f hf
        have key : ∀ (l : List ByteArray) (S : List ByteArray), (∀ x ∈ l, Rch m [s] x) → t ∈ l.foldl (dfs m n) S → t ∈ S ∨ Rch m [s] t := by
          intro l
          induction l with
          | nil => intro S _ h; exact .inl h
          | cons x l ihl =>
            intro S hl h
            rcases ihl _ (fun y hy => hl y (List.mem_cons_of_mem _ hy)) h with h1 | h1
            · rcases ih S x t h1 with h2 | h2
              · exact .inl h2
              · exact .inr (h2.mono fun y hy => by
                  obtain rfl : y = x := by simpa using hy
                  exact hl _ (by simp))
            · exact .inr h1
        have hs : ∀ x ∈ namesOf (allIns f), Rch m [s] x := fun x hx => .step (s := s) (.root (by simp)) (by unfold leads; rw [hf]; exact hx)
        rcases key _ _ hs h with h1 | h1
        · rcases List.mem_append.1 h1 with h1 | h1
          · exact .inl h1
          · exact .inr (.root h1)
        · exact .inr h1
def Closed (m : Module) (S S' : List ByteArray) : Prop := ∀ x ∈ S', x ∉ S → ∀ y ∈ leads m x, y ∈ S'
theorem dfs_has (m : Module) (n : Nat) (S : List ByteArray) (s t : ByteArray) (h : t ∈ S) : t ∈ dfs m n S s := mem_hasN.1 (dfs_mono m n S s t (mem_hasN.2 h))
theorem fold_has (m : Module) (n : Nat) (t : ByteArray) (l S : List ByteArray) (h : t ∈ S) : t ∈ l.foldl (dfs m n) S := mem_hasN.1 (fold_mono m n t l S (mem_hasN.2 h))
theorem left_sub {m : Module} {S S' : List ByteArray} (h : ∀ s ∈ S, s ∈ S') : left m S' ≤ left m S := left_mono fun s hs => mem_hasN.2 (h s (mem_hasN.1 hs))
theorem dfs_full (m : Module) : ∀ (n : Nat) (S : List ByteArray) (s : ByteArray), left m S < n → s ∈ dfs m n S s ∧ Closed m S (dfs m n S s) := by
  intro n
  induction n with
  | zero => intro S s h; omega
  | succ n ih =>
    intro S s hn
    have key : ∀ (l : List ByteArray) (S : List ByteArray), left m S < n → (∀ x ∈ l, x ∈ l.foldl (dfs m n) S) ∧ Closed m S (l.foldl (dfs m n) S) := by
      intro l
      induction l with
      | nil => intro S _; exact ⟨fun x hx => (by cases hx), fun x hx hn => absurd hx hn⟩
      | cons x l ihl =>
        intro S hS
        have hS' : left m (dfs m n S x) < n := Nat.lt_of_le_of_lt (left_sub fun t ht => dfs_has m n S x t ht) hS
        obtain ⟨h1, h2⟩ := ihl (dfs m n S x) hS'
        obtain ⟨h3, h4⟩ := ih S x hS
        refine ⟨fun y hy => ?_, fun y hy hyn z hz => ?_⟩
        · rcases List.mem_cons.1 hy with rfl | hy
          · exact fold_has m n _ l _ h3
          · exact h1 y hy
        · by_cases hyd : y ∈ dfs m n S x
          · exact fold_has m n _ l _ (h4 y hyd hyn z hz)
          · exact h2 y hy hyd z hz
    unfold dfs
    split
    · rename_i hs
      exact ⟨mem_hasN.1 hs, fun x hx hn => absurd hx hn⟩
    · rename_i hs
      have hs' : hasN S s = false := by simpa using hs
      split
      · rename_i hf
        refine ⟨by simp, fun x hx hxn y hy => ?_⟩
        have hx' : x = s := by
          rcases List.mem_append.1 hx with h | h
          · exact absurd h hxn
          · simpa using h
        subst hx'
        unfold leads at hy
        rw [hf] at hy
        cases hy
      · rename_i f hf
        have hl := left_lt hf hs'
        obtain ⟨h1, h2⟩ := key (namesOf (allIns f)) (S ++ [s]) (by omega)
        refine ⟨fold_has m n _ _ _ (by simp), fun x hx hxn y hy => ?_⟩
        by_cases hxs : x = s
        · subst hxs
          unfold leads at hy
          rw [hf] at hy
          exact h1 y hy
        · exact h2 x hx (by simp [hxn, hxs]) y hy
theorem reachL_iff (m : Module) (R : List ByteArray) (t : ByteArray) : t ∈ R.foldl (dfs m (m.funcs.length + 1)) [] ↔ Rch m R t := by
  have hlt : ∀ S, left m S < m.funcs.length + 1 := fun S => Nat.lt_succ_of_le (List.length_filter_le _ _)
  constructor
  · have key : ∀ (l S : List ByteArray), (∀ x ∈ l, Rch m R x) → t ∈ l.foldl (dfs m (m.funcs.length + 1)) S → t ∈ S ∨ Rch m R t := by
      intro l
      induction l with
      | nil => intro S _ h; exact .inl h
      | cons x l ih =>
        intro S hl h
        rcases ih _ (fun y hy => hl y (List.mem_cons_of_mem _ hy)) h with h1 | h1
        · rcases dfs_sub m _ _ _ _ h1 with h2 | h2
          · exact .inl h2
          · exact .inr (h2.mono fun y hy => by
              obtain rfl : y = x := by simpa using hy
              exact hl _ (by simp))
        · exact .inr h1
    intro h
    rcases key R [] (fun x hx => .root hx) h with h1 | h1
    · cases h1
    · exact h1
  · have key : ∀ (l S : List ByteArray), (∀ x ∈ l, x ∈ l.foldl (dfs m (m.funcs.length + 1)) S) ∧ Closed m S (l.foldl (dfs m (m.funcs.length + 1)) S) := by
      intro l
      induction l with
      | nil => intro S; exact ⟨fun x hx => (by cases hx), fun x hx hn => absurd hx hn⟩
      | cons x l ihl =>
        intro S
        obtain ⟨h1, h2⟩ := ihl (dfs m (m.funcs.length + 1) S x)
        obtain ⟨h3, h4⟩ := dfs_full m _ S x (hlt S)
        refine ⟨fun y hy => ?_, fun y hy hyn z hz => ?_⟩
        · rcases List.mem_cons.1 hy with rfl | hy
          · exact fold_has m _ _ l _ h3
          · exact h1 y hy
        · by_cases hyd : y ∈ dfs m (m.funcs.length + 1) S x
          · exact fold_has m _ _ l _ (h4 y hyd hyn z hz)
          · exact h2 y hy hyd z hz
    intro h
    obtain ⟨h1, h2⟩ := key R []
    induction h with
    | root hs => exact h1 _ hs
    | step _ ht ih => exact h2 _ ih (by simp) _ ht
theorem onceL_mem (l : List ByteArray) (s : ByteArray) : s ∈ onceL l ↔ s ∈ l := by
  have key : ∀ (l acc : List ByteArray), s ∈ l.foldl (fun acc x => if hasN acc x = true then acc else acc ++ [x]) acc ↔ s ∈ acc ∨ s ∈ l := by
    intro l
    induction l with
    | nil => intro acc; simp
    | cons x l ih =>
      intro acc
      rw [List.foldl_cons, ih]
      split
      · rename_i h
        have hx := mem_hasN.1 h
        constructor
        · rintro (h | h)
          · exact .inl h
          · exact .inr (List.mem_cons_of_mem _ h)
        · rintro (h | h)
          · exact .inl h
          · rcases List.mem_cons.1 h with rfl | h
            · exact .inl hx
            · exact .inr h
      · simp only [List.mem_append, List.mem_cons, List.not_mem_nil, or_false]
        constructor
        · rintro ((h | h) | h)
          · exact .inl h
          · exact .inr (.inl h)
          · exact .inr (.inr h)
        · rintro (h | h | h)
          · exact .inl (.inl h)
          · exact .inl (.inr h)
          · exact .inr h
  have := key l []
  unfold onceL
  rw [this]
  simp
theorem fromL_mem {m : Module} {R : List ByteArray} {s : ByteArray} : s ∈ fromL m R ↔ s ∈ namesM m ∧ Rch m R s := by
 unfold fromL reachL
 rw [List.mem_filter, onceL_mem]
 exact and_congr_right fun _ => by rw [mem_hasN]; exact reachL_iff m R s
theorem find?_filter {α : Type} (p q : α → Bool) : ∀ l : List α, (∀ x ∈ l, q x = true → p x = true) → (l.filter p).find? q = l.find? q
  | [], _ => rfl
  | x :: l, h => by
    have ih := find?_filter p q l fun y hy => h y (List.mem_cons_of_mem _ hy)
    by_cases hq : q x = true
    · have hp := h x (by simp) hq
      simp [hp, hq]
    · have hq' : q x = false := by simpa using hq
      by_cases hp : p x = true
      · simp [hp, hq', ih]
      · have hp' : p x = false := by simpa using hp
        simp [hp', hq', ih]
theorem fname_mem {m : Module} {f : Func} (h : f ∈ m.funcs) : f.name ∈ namesM m := List.mem_append_left _ (List.mem_map.2 ⟨f, h, rfl⟩)
theorem gname_mem {m : Module} {g : Glob} (h : g ∈ m.globs) : g.name ∈ namesM m := List.mem_append_right _ (List.mem_map.2 ⟨g, h, rfl⟩)
theorem mem_dropF {m : Module} {f : Func} : f ∈ (dropM m).funcs ↔ f ∈ m.funcs ∧ Rch m (rootsL m) f.name := by
 unfold dropM
 simp only [List.mem_filter]
 exact and_congr_right fun h => by rw [mem_hasN, fromL_mem]; exact and_iff_right (fname_mem h)
theorem mem_dropG {m : Module} {g : Glob} : g ∈ (dropM m).globs ↔ g ∈ m.globs ∧ Rch m (rootsL m) g.name := by
 unfold dropM
 simp only [List.mem_filter]
 exact and_congr_right fun h => by rw [mem_hasN, fromL_mem]; exact and_iff_right (gname_mem h)
theorem findF_drop {m : Module} {s : ByteArray} (h : Rch m (rootsL m) s) : findF (dropM m) s = findF m s := by
 unfold findF dropM
 refine find?_filter _ _ _ fun f hf hs => ?_
 obtain rfl : f.name = s := by simpa using hs
 exact mem_hasN.2 (fromL_mem.2 ⟨fname_mem hf, h⟩)
theorem leads_drop {m : Module} {s : ByteArray} (h : Rch m (rootsL m) s) : leads (dropM m) s = leads m s := by
 unfold leads
 rw [findF_drop h]
theorem rootsL_mem {m : Module} {s : ByteArray} : s ∈ rootsL m ↔ (∃ f ∈ m.funcs, rootF f = true ∧ f.name = s) ∨ ∃ g ∈ m.globs, rootG g = true ∧ g.name = s := by
 unfold rootsL
 simp only [List.mem_append, List.mem_map, List.mem_filter]
 constructor
 ·rintro (⟨f, ⟨h1, h2⟩, h3⟩ | ⟨g, ⟨h1, h2⟩, h3⟩)
  ·exact .inl ⟨f, h1, h2, h3⟩
  ·exact .inr ⟨g, h1, h2, h3⟩
 ·rintro (⟨f, h1, h2, h3⟩ | ⟨g, h1, h2, h3⟩)
  ·exact .inl ⟨f, ⟨h1, h2⟩, h3⟩
  ·exact .inr ⟨g, ⟨h1, h2⟩, h3⟩
theorem rootsL_drop {m : Module} {s : ByteArray} (h : s ∈ rootsL m) : s ∈ rootsL (dropM m) := by
 have hr : Rch m (rootsL m) s := .root h
 rw [rootsL_mem] at h ⊢
 rcases h with ⟨f, h1, h2, rfl⟩ | ⟨g, h1, h2, rfl⟩
 ·exact .inl ⟨f, mem_dropF.2 ⟨h1, hr⟩, h2, rfl⟩
 ·exact .inr ⟨g, mem_dropG.2 ⟨h1, hr⟩, h2, rfl⟩
theorem rch_drop {m : Module} {s : ByteArray} (h : Rch m (rootsL m) s) : Rch (dropM m) (rootsL (dropM m)) s := by
 induction h with
 | root h => exact .root (rootsL_drop h)
 | step hs ht ih => exact .step ih (by rw [leads_drop hs]; exact ht)
theorem drop_drop (m : Module) : dropM (dropM m) = dropM m := by
 have hF : (dropM (dropM m)).funcs = (dropM m).funcs := by
  rw [show (dropM (dropM m)).funcs = (dropM m).funcs.filter fun f => hasN (fromL (dropM m) (rootsL (dropM m))) f.name from rfl]
  rw [List.filter_eq_self]
  exact fun f hf => mem_hasN.2 (fromL_mem.2 ⟨fname_mem hf, rch_drop (mem_dropF.1 hf).2⟩)
 have hG : (dropM (dropM m)).globs = (dropM m).globs := by
  rw [show (dropM (dropM m)).globs = (dropM m).globs.filter fun g => hasN (fromL (dropM m) (rootsL (dropM m))) g.name from rfl]
  rw [List.filter_eq_self]
  exact fun g hg => mem_hasN.2 (fromL_mem.2 ⟨gname_mem hg, rch_drop (mem_dropG.1 hg).2⟩)
 cases h1 : dropM (dropM m)
 cases h2 : dropM m
 rw [h1, h2] at hF hG
 simp only at hF hG
 rw [hF, hG]
theorem drop_funcs_le (m : Module) : (dropM m).funcs.length ≤ m.funcs.length := List.length_filter_le _ _
theorem drop_globs_le (m : Module) : (dropM m).globs.length ≤ m.globs.length := List.length_filter_le _ _
theorem Small.drop {m : Module} (h : Small m) : Small (dropM m) where
 len := by have h1 := drop_funcs_le m; have h2 := drop_globs_le m; have := h.len; omega
 ins := fun f hf => h.ins f (mem_dropF.1 hf).1
 blks := fun f hf => h.blks f (mem_dropF.1 hf).1
 args := fun f hf => h.args f (mem_dropF.1 hf).1
theorem leads_of {m : Module} (h : ModOk m) {f : Func} (hf : f ∈ m.funcs) : leads m f.name = namesOf (allIns f) := by
 unfold leads
 rw [findF_uniq h hf]
theorem named_stays {m : Module} (h : ModOk m) {s : ByteArray} (hs : s ∈ refsA (dropM m).funcs) : Rch m (rootsL m) s := by
 obtain ⟨f, hf, hsf⟩ := List.mem_flatMap.1 hs
 obtain ⟨h1, h2⟩ := mem_dropF.1 hf
 exact .step h2 (by rw [leads_of h h1]; exact hsf)
theorem drop_ok {m : Module} (h : ModOk m) : ModOk (dropM m) := by
 have hnm : ∀ f ∈ (dropM m).funcs, ∀ i ∈ allIns f, isNamed i.op = true → Rch m (rootsL m) i.name := fun f hf i hi hn => by
  obtain ⟨h1, h2⟩ := mem_dropF.1 hf
  exact .step h2 (by rw [leads_of h h1]; exact List.mem_map.2 ⟨i, List.mem_filter.2 ⟨hi, hn⟩, rfl⟩)
 refine .mk' (Nat.le_trans (drop_funcs_le m) h.nf) (Nat.le_trans (drop_globs_le m) h.ng) (fun f hf => h.funcs f (mem_dropF.1 hf).1) (fun g hg => h.globs g (mem_dropG.1 hg).1) ?_ (fun f hf i hi h14 => ?_) (fun f hf i hi h12 => ?_)
 ·have : (namesM (dropM m)).Sublist (namesM m) := List.Sublist.append (List.filter_sublist.map _) (List.filter_sublist.map _)
  exact h.names.sublist this
 ·obtain ⟨g, hg1, hg2, hg3⟩ := h.call (mem_insM (mem_dropF.1 hf).1 hi) h14
  exact ⟨g, mem_dropF.2 ⟨hg1, by rw [hg2]; exact hnm f hf i hi (isNamed_iff.2 (.inr (.inr h14)))⟩, hg2, hg3⟩
 ·obtain ⟨g, hg1, hg2⟩ := hasG_iff.1 ((missI_false (h.miss i (mem_insM (mem_dropF.1 hf).1 hi))).2 h12)
  refine ⟨g, mem_dropG.2 ⟨hg1, ?_⟩, hg2⟩
  rw [hg2]
  exact hnm f hf i hi (isNamed_iff.2 (by rcases h12 with h | h <;> simp [h]))

theorem nodup_le {α : Type} [DecidableEq α] : ∀ {l l' : List α}, l.Nodup → (∀ x ∈ l, x ∈ l') → l.length ≤ l'.length
  | [], _, _, _ => Nat.zero_le _
  | x :: l, l', hn, hs => by
    have hx := hs x (by simp)
    have h1 := List.nodup_cons.1 hn
    have h2 := nodup_le (l := l) (l' := l'.erase x) h1.2 fun y hy => by
      have hne : y ≠ x := fun e => h1.1 (e ▸ hy)
      exact (List.mem_erase_of_ne hne).2 (hs y (by simp [hy]))
    have h3 := List.length_erase_of_mem hx
    have h4 := List.length_pos_of_mem hx
    simp only [List.length_cons]
    omega
def VS (m : Module) (p q : List ByteArray × List ByteArray) : Prop :=
 ∃ N : List ByteArray, q.2 = p.2 ++ N ∧ N.Nodup ∧ (∀ x ∈ N, x ∉ p.1 ∧ (findF m x).isSome = true) ∧ (∀ x, x ∈ q.1 ↔ x ∈ p.1 ∨ x ∈ N) ∧
  ∀ i (h : i < N.length), ∀ v ∈ callsL m N[i], (findF m v).isSome = true → v ∈ p.2 ∨ v ∈ N.take i ∨ Rch m [v] N[i]
theorem VS.refl (m : Module) (p : List ByteArray × List ByteArray) : VS m p p := ⟨[], by simp, List.nodup_nil, fun x hx => (by cases hx), fun x => by simp, fun i h => by cases h⟩
theorem VS.trans {m : Module} {p q r : List ByteArray × List ByteArray} (h : VS m p q) (k : VS m q r) : VS m p r := by
 obtain ⟨N, h1, h2, h3, h4, h5⟩ := h
 obtain ⟨M, k1, k2, k3, k4, k5⟩ := k
 refine ⟨N ++ M, by rw [k1, h1, List.append_assoc], List.nodup_append.2 ⟨h2, k2, fun a ha b hb e => (k3 b hb).1 ((h4 b).2 (.inr (e ▸ ha)))⟩, fun x hx => ?_, fun x => ?_, fun i hi v hv hs => ?_⟩
 ·rcases List.mem_append.1 hx with hx | hx
  ·exact h3 x hx
  ·exact ⟨fun h' => (k3 x hx).1 ((h4 x).2 (.inl h')), (k3 x hx).2⟩
 ·rw [k4, h4, List.mem_append, or_assoc]
 ·by_cases hlt : i < N.length
  ·rw [List.getElem_append_left hlt] at hv ⊢
   rw [List.take_append_of_le_length (Nat.le_of_lt hlt)]
   exact h5 i hlt v hv hs
  ·have hge : N.length ≤ i := by omega
   have hi' : i - N.length < M.length := by simp at hi; omega
   rw [List.getElem_append_right hge] at hv ⊢
   rcases k5 (i - N.length) hi' v hv hs with h6 | h6 | h6
   ·rw [h1] at h6
    rcases List.mem_append.1 h6 with h6 | h6
    ·exact .inl h6
    ·refine .inr (.inl ?_)
     rw [List.take_append]
     rw [List.take_of_length_le hge]
     exact List.mem_append_left _ h6
   ·refine .inr (.inl ?_)
    rw [List.take_append]
    exact List.mem_append_right _ h6
   ·exact .inr (.inr h6)
end Go.Proofs.YtgadlpdbkohlbaaGreat
