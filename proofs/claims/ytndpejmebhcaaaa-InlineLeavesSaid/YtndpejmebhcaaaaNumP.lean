/- Plain laws: the numbers in the document's Put, place by place. -/
import Derived.Test.YtndpejmebhcaaaaNum
namespace Go.Proofs.Ytndpejmebhcaaaa

/-- How many instructions there are behind i of the block's. -/
def cntF (ak ln i : Nat) : Nat := if i ≤ ak then i else i - 1 + ln

theorem cnt_lo {ak ln i : Nat} (h : i ≤ ak) : cntF ak ln i = i := if_pos h
theorem cnt_hi {ak ln i : Nat} (h : ak < i) : cntF ak ln i = i - 1 + ln := if_neg (by omega)
theorem cntF_succ {ak ln i : Nat} (h : ¬ i = ak) : cntF ak ln (i + 1) = cntF ak ln i + 1 := by
  unfold cntF
  split <;> split <;> omega
theorem cnt_at {ak ln : Nat} : cntF ak ln (ak + 1) = ak + ln := by rw [cnt_hi (by omega)]; omega

theorem turnsL_congr {d : Int → Prop} {g : Int → Int} {nu l : List Int} (h : ∀ v, d v → nuAt nu v = g v) (hl : AllIn d l) : turnsL l nu = l.map g := map_congr_in h hl

section
variable {b leaf : Block} {ak P : Nat}

theorem after_lo {v : Int} (hP : b.params = (P : Int)) (h : v < P + ak) : afterG b leaf ak v = v := by
  unfold afterG afterNum; rw [if_pos (by omega)]
theorem after_num (hP : b.params = (P : Int)) {i : Nat} (h : ¬ i = ak) : (P : Int) + cntF ak leaf.ins.length i = afterG b leaf ak ((P + i : Nat) : Int) := by
  unfold afterG afterNum
  by_cases h1 : i < ak
  · rw [if_pos (by omega), cnt_lo (by omega)]; omega
  · rw [if_neg (by omega), if_neg (by omega), cnt_hi (by omega)]; omega
theorem after_at (hP : b.params = (P : Int)) : afterG b leaf ak ((P + ak : Nat) : Int) = inG b leaf ak leaf.ta := by
  unfold afterG afterNum inG
  rw [if_neg (by omega), if_pos (by omega)]
theorem in_lo {v : Nat} (h : (v : Int) < leaf.params) : inG b leaf ak v = (insAt b ak).args[v]?.getD 0 := by
  unfold inG inNum; rw [if_pos h]; rfl
theorem in_hi (hP : b.params = (P : Int)) {Q j : Nat} (hQ : leaf.params = (Q : Int)) : inG b leaf ak ((Q + j : Nat) : Int) = ((P + (ak + j) : Nat) : Int) := by
  unfold inG inNum; rw [if_neg (by omega), hP, hQ]; omega

theorem put_length (hk : ak < b.ins.length) : (putB b leaf ak).ins.length = cntF ak leaf.ins.length b.ins.length := by
  rw [cnt_hi hk]
  simp [putB]
  omega

theorem put_lo (hk : ak < b.ins.length) {i : Nat} (h : i < ak) : (putB b leaf ak).ins[i]?.getD default = b.ins[i] := by
  have h1 : i < b.ins.length := by omega
  simp only [putB]
  rw [show (ak : Int).toNat = ak from rfl, List.append_assoc, List.getElem?_append_left (by simp; omega), List.getElem?_take_of_lt h, List.getElem?_eq_getElem h1]
  rfl
theorem put_hi (hk : ak < b.ins.length) {i : Nat} (h : ak < i) (hi : i < b.ins.length) : (putB b leaf ak).ins[cntF ak leaf.ins.length i]?.getD default = mapInst (afterG b leaf ak) b.ins[i] := by
  rw [cnt_hi h]
  simp only [putB]
  rw [show (ak : Int).toNat = ak from rfl, List.getElem?_append_right (by simp; omega)]
  simp only [List.length_append, List.length_take, List.length_map, List.getElem?_map, List.getElem?_drop]
  rw [show ak + 1 + (i - 1 + leaf.ins.length - (min ak b.ins.length + leaf.ins.length)) = i by omega, List.getElem?_eq_getElem hi]
  rfl
theorem put_leaf (hk : ak < b.ins.length) {j : Nat} (h : j < leaf.ins.length) : (putB b leaf ak).ins[ak + j]?.getD default = mapInst (inG b leaf ak) leaf.ins[j] := by
  simp only [putB]
  rw [show (ak : Int).toNat = ak from rfl, List.append_assoc, List.getElem?_append_right (by simp; omega), List.getElem?_append_left (by simp; omega)]
  simp only [List.length_take, List.getElem?_map]
  rw [show ak + j - min ak b.ins.length = j by omega, List.getElem?_eq_getElem h]
  rfl

theorem put_turn (hb : NumsOk b) (hP : b.params = (P : Int)) (hk : ak < b.ins.length) {i : Nat} (h : ¬ i = ak) (hi : i < b.ins.length) :
    (putB b leaf ak).ins[cntF ak leaf.ins.length i]?.getD default = mapInst (nuAt (nuL (afterG b leaf ak) (P + i + 1))) b.ins[i] := by
  have hin := hb.ins i hi
  rw [hP] at hin
  have e : mapInst (nuAt (nuL (afterG b leaf ak) (P + i + 1))) b.ins[i] = mapInst (afterG b leaf ak) b.ins[i] := mapInst_congr (fun v hv => nuAt_nuL hv.1 (by have := hv.2; omega)) hin
  rw [e]
  by_cases h1 : i < ak
  · rw [cnt_lo (by omega), put_lo hk h1]
    conv => lhs; rw [← mapInst_id b.ins[i]]
    exact mapInst_congr (fun v hv => (after_lo hP (by have := hv.2; omega)).symm) hin
  · exact put_hi hk (by omega) hi
theorem put_turn_leaf (hl : NumsOk leaf) {Q : Nat} (hQ : leaf.params = (Q : Int)) (hk : ak < b.ins.length) {j : Nat} (h : j < leaf.ins.length) :
    (putB b leaf ak).ins[ak + j]?.getD default = mapInst (nuAt (nuL (inG b leaf ak) (Q + j + 1))) leaf.ins[j] := by
  have hin := hl.ins j h
  rw [hQ] at hin
  rw [put_leaf hk h]
  exact (mapInst_congr (fun v hv => nuAt_nuL hv.1 (by have := hv.2; omega)) hin).symm
theorem put_end {l : List Int} (hP : b.params = (P : Int)) (hl : AllIn (upTo (b.params + b.ins.length)) l) : turnsL l (nuL (afterG b leaf ak) (P + b.ins.length)) = l.map (afterG b leaf ak) :=
  turnsL_congr (fun v hv => nuAt_nuL hv.1 (by have := hv.2; omega)) hl
theorem put_args (hP : b.params = (P : Int)) {l : List Int} (hl : AllIn (upTo (b.params + ak)) l) : turnsL l (nuL (afterG b leaf ak) (P + ak)) = l := by
  have e := turnsL_congr (g := fun v => v) (nu := nuL (afterG b leaf ak) (P + ak)) (fun v hv => by rw [nuAt_nuL hv.1 (by have := hv.2; omega)]; exact after_lo hP (by have := hv.2; omega)) hl
  rw [e]; simp
theorem inL_nuL {g : Int → Int} {n : Nat} {v : Int} (h : upTo n v) : inL (nuL g n) v := ⟨h.1, by rw [nuL_length]; exact h.2⟩

end

end Go.Proofs.Ytndpejmebhcaaaa
