/- What strings.Builder's String does to the call's own objects. -/
import Derived.Test.YtciihchbiifgkaaTD
namespace Go.Proofs.Ytciihchbiifgkaa
open Go.RowKit

section
variable {P : Program} {X0 : Nat → Nat → Prop} {W0 : World} {γ : Nat → Option Value} {w : World} {H : Heap}
/-- An object is let go: no cell has turned, its block's marks may have. -/
theorem St.letgo {j : Nat} {o : AObj} {u : Value} {w' : World} (hS : St X0 W0 γ w H) (ho : hget H j = some o) (hu : γ j = some u) (hext : Ext W0 w') (hsz : w.heap.size ≤ w'.heap.size)
    (hb : ∀ b, blk u ≠ some b → b < w.heap.size → w'.heap[b]? = w.heap[b]?) (hc : ∀ b q, blk u = some b → w'.cell? ⟨b, q, none⟩ = w.cell? ⟨b, q, none⟩) (hcl : ∀ b, blk u = some b → ∃ arr t fr, w.heap[b]? = some (.cells arr t fr)) : St X0 W0 γ w' (hdel H j) ∧ Keeps (XOf X0 γ H) (XOf X0 γ (hdel H j)) w w' := by
  have hsub : ∀ b q, XOf X0 γ (hdel H j) b q → XOf X0 γ H b q := by
    rintro b q (h | ⟨id, ob, v, h1, h2, h3, h4⟩)
    · exact .inl h
    · rw [hget_del] at h1
      split at h1
      · cases h1
      · exact .inr ⟨id, ob, v, h1, h2, h3, h4⟩
  have hK : Keeps (XOf X0 γ H) (XOf X0 γ (hdel H j)) w w' := by
    refine ⟨hsz, fun b q v hlt _ hv => ?_, fun b q _ h => hsub b q h, fun b o' hb' hn _ => ?_⟩
    · by_cases e : blk u = some b
      · rw [hc b q e]; exact hv
      · exact (World.cell?_of_block (w := w) (w' := w') (a := ⟨b, q, none⟩) (hb b e hlt)).trans hv
    · by_cases e : blk u = some b
      · obtain ⟨arr, t, fr, hh⟩ := hcl b e
        rw [hh] at hb'
        injection hb' with hb'
        subst hb'
        cases hn
      · rw [hb b e (Array.getElem?_eq_some_iff.1 hb').1]; exact hb'
  refine ⟨⟨hS.hx, hext, fun id o' h => ?_, fun id id' o1 o2 v v' b h1 h2 h3 h4 h5 h6 => ?_⟩, hK⟩
  · rw [hget_del] at h
    split at h
    · cases h
    · rename_i hne
      obtain ⟨v, hv, hr⟩ := hS.obj id o' h
      refine ⟨v, hv, hr.mono (Knows.refl _) hK fun b hbv hlt => hb b (fun e => hne ?_) hlt⟩
      exact hS.dis j id o o' u v b ho h hu hv e hbv
  · rw [hget_del] at h1 h2
    split at h1
    · cases h1
    split at h2
    · cases h2
    exact hS.dis id id' o1 o2 v v' b h1 h2 h3 h4 h5 h6
end

theorem freeze_heap (w : World) (g n : Nat) {k : Nat} (h : k ≠ g) : (w.drew.freeze ⟨g, 0, none⟩ n).heap[k]? = w.heap[k]? := by
  unfold World.freeze
  split
  · rfl
  · simp only [Array.getElem?_modify]
    rw [if_neg (Ne.symm h)]
    rfl
theorem freeze_cell (w : World) (g n q : Nat) {cur : Array Value} {t : TypeId} {fr : Nat × Nat} (hg : w.heap[g]? = some (.cells cur t fr)) : (w.drew.freeze ⟨g, 0, none⟩ n).cell? ⟨g, q, none⟩ = w.cell? ⟨g, q, none⟩ := by
  have hg' : w.drew.heap[g]? = some (.cells cur t fr) := hg
  unfold World.freeze
  split
  · rfl
  · unfold World.cell?
    simp only [Array.getElem?_modify, hg', if_pos]
    simp [hg]

/-- The builder's box alone. -/
def LB0 : List (Nat × AObj) := [(1000000, .boxT (some 51) [.d .top, .d .top])]
set_option maxRecDepth 10000 in
theorem string_eff (bs : ByteArray) (hne : 0 < bs.size) : AEff Try.prog 28 [.ptr 1000000 0] (LB (.ptr 1000000 0) bs) (.str bs) LB0 := by
  refine aeff_raw (H' := hdel (hof (LB (.ptr 1000000 0) bs)) 1000001) ⟨_, _, Try.func28, by kernel_rfl, rfl⟩ (by simp [LB]) (by simp [LB, LB0, idsOk]) ⟨.none, by simp [LB, LB0, hof, HLe, gE, hget, hadd, hdel, OLe, cellsLe, AVLe, AVLe0], by simp [LB0, srcApart, gE]⟩ ?_
  intro X0 W0 γ w Hf vs hS hO hvs
  have hg : ∀ k o, hget (hof (LB (.ptr 1000000 0) bs)) k = some o → hget (hjoin (hof (LB (.ptr 1000000 0) bs)) Hf) k = some o := fun k o h => by
    have h' : hof (LB (.ptr 1000000 0) bs) k = some o := h
    simp [hget, hjoin, h']
  obtain ⟨v0, hv0, b, arr, t0, rfl, hB, hh, hreps⟩ := hS.obj 1000000 _ (hg 1000000 _ (by simp [LB, hof, hget, hadd]; rfl))
  have hg1 := hg 1000001 _ (show hget (hof (LB (.ptr 1000000 0) bs)) 1000001 = some (.row 5 1 bs.size (strRow bs)) by simp [LB, hof, hget, hadd])
  obtain ⟨u, hu, xs, hown, hrow⟩ := hS.obj 1000001 _ hg1
  have hargs : vs = #[.pointer (some ⟨b, 0, none⟩)] := by
    obtain ⟨a0, r0, e0, h0, k0⟩ := hvs.uncons
    obtain rfl := k0.unnil
    cases h0 with | ptr b' _ _ h5 =>
    rw [hv0] at h5
    injection h5 with h5
    injection h5 with h5
    injection h5 with h5
    injection h5 with h5
    subst h5
    exact Array.toList_inj.1 e0
  subst hargs
  obtain ⟨p0, harr⟩ : ∃ p0, arr = #[p0, u] := by
    obtain ⟨a0, r0, e0, h0, k0⟩ := hreps.uncons
    obtain ⟨a1, r1, e1, h1, k1⟩ := k0.uncons
    obtain rfl := k1.unnil
    subst e1
    cases h1 with | own _ _ _ h =>
    rw [hu] at h
    injection h with h
    subst h
    exact ⟨a0, Array.toList_inj.1 e0⟩
  subst harr
  rcases hown.2 with ⟨rfl, h0⟩ | ⟨g, cap, cur, rfl, hgB, hgh, hn, hcap, hcs, htk⟩
  · omega
  have hl : bs.data.toList.length = bs.size := by rw [Array.length_toList]; rfl
  have hne' : bs.data.toList ≠ [] := by
    intro e
    rw [e] at hl
    simp at hl
    omega
  have hflat : (List.range bs.size).flatMap xs = Lib.strCells bs := by
    obtain ⟨ys, hy1, hy2⟩ := strCells_row bs w (XOf X0 γ (hjoin (hof (LB (.ptr 1000000 0) bs)) Hf))
    rw [← hy1]
    refine flat_congr fun i hi => ?_
    have hi' : i < bs.size := List.mem_range.1 hi
    obtain ⟨_, hr⟩ := hrow i hi'
    obtain ⟨_, hr2⟩ := hy2 i hi'
    unfold strRow at hr hr2
    obtain ⟨v, vs', e, hv, hvs'⟩ := hr.uncons
    obtain rfl := hvs'.unnil
    obtain ⟨v2, vs2, e2, hv2, hvs2⟩ := hr2.uncons
    obtain rfl := hvs2.unnil
    cases hv
    cases hv2
    rw [e, e2]
  have hcl : ∀ j x, bs.data.toList[j]? = some x → w.cell? ⟨g, 0 + j, none⟩ = some (.int .u8 x.toNat) := by
    intro j x hx
    have hc := hown.cells (g := g) rfl j (.int .u8 x.toNat) (by rw [hflat]; simp [Lib.strCells]; exact ⟨x, by simpa using hx, rfl⟩)
    rw [addr_add] at hc
    exact hc
  have hcon := string_walk b g cap p0 cur bs.data.toList w hne' (by rw [hl]; exact hh) hgh (by omega) hcap (by simpa using hcs) hcl
  refine hcon.mono ?_
  rintro e w' ⟨rfl, rfl⟩
  rw [hl]
  have hlt : g < w.heap.size := (Array.getElem?_eq_some_iff.1 hgh).1
  obtain ⟨h1, h2⟩ := hS.letgo (w' := w.drew.freeze ⟨g, 0, none⟩ bs.size) hg1 hu (show Ext W0 _ from Lib.below_freeze (Below.drew hS.ext) (p := ⟨g, 0, none⟩) hgB _) (by unfold World.freeze; split <;> simp)
    (fun k hk _ => freeze_heap w g _ (fun e => hk (by rw [e]; rfl))) (fun k q hk => by
      simp [blk] at hk
      subst hk
      exact freeze_cell w g _ q hgh) (fun k hk => by
      simp [blk] at hk
      subst hk
      exact ⟨_, _, _, hgh⟩)
  have hHf : Hf 1000001 = none := hO.at (show hget (hof (LB (.ptr 1000000 0) bs)) 1000001 = some _ by simp [LB, hof, hget, hadd]; rfl)
  rw [hjoin_hdel hHf]
  have hstr : (⟨bs.data.toList.toArray⟩ : ByteArray) = bs := by simp
  rw [hstr]
  exact ⟨_, rfl, h1, hO.del _, h2, .lit _⟩

end Go.Proofs.Ytciihchbiifgkaa
