/- slices.DeleteFunc of texts: the kit's contract laid at this program; the closure of layer 11 that it is handed. -/
import Derived.Test.YtifinpijhbkhnaaKF
import Derived.Test.YtifinpijhbkhnaaF3
import Derived.Shelf.SlicesE.DeleteFunc
namespace Go.Proofs.Ytifinpijhbkhnaa
open Go.RowKit Go.Shelf Go.Sort

def delRen : Go.Shelf.Ren := ⟨fun | 6 => 88 | 10 => 59 | n => n,
  fun | 0 => 0 | 3 => 3 | 4 => 4 | 22 => 38 | 23 => 9 | 25 => 72 | n => n, fun n => n⟩
theorem delLays : SlLaysH.n10 Try.prog delRen where
  mixed := by kernel_rfl
  f6 := ⟨Try.f88.name, by decide, Try.func88.trans (congrArg some (by kernel_rfl))⟩
  f10 := ⟨Try.f59.name, by decide, Try.func59.trans (congrArg some (by kernel_rfl))⟩
  t0 := Try.underlying0
  a0 := Try.isAgg0
  z0 := Try.sizeOf0
  v0 := Try.zeroValue0
  t3 := Try.underlying3
  a3 := Try.isAgg3
  z3 := Try.sizeOf3
  v3 := Try.zeroValue3
  t4 := Try.underlying4
  a4 := Try.isAgg4
  z4 := Try.sizeOf4
  v4 := Try.zeroValue4
  t22 := Try.underlying38
  a22 := Try.isAgg38
  z22 := Try.sizeOf38
  v22 := Try.zeroValue38
  a23 := Try.isAgg9
  z23 := Try.sizeOf9
  t25 := Try.underlying72
  a25 := Try.isAgg72
  z25 := Try.sizeOf72
  v25 := Try.zeroValue72

theorem run_lookN {W : World} {mb : Nat} {ent : Array MapEntry} {clock : Nat} {S : List ByteArray} (hm : W.heap[mb]? = some (.map ent clock)) (hall : ∀ x, x ∈ ent.toList → kdOk .string x.key = true) (hf : ∀ k, kdOk .string k = true → entFind ent.toList k = mapN S k) (s : ByteArray) :
    (Instr.lookup 88 (.map (some mb)) (.string s) false).run Try.prog W = .ok (.bool (hasN S s)) W := by
  have hfk := hf (.string s) rfl
  have hi := entIdx_find ent.toList (.string s) 0
  rw [hfk, mapN_str] at hi
  unfold Instr.lookup
  simp only [Sem.run_bind, run_underlying Try.underlying88, Result.andThen_ok, run_getObj hm, Sem.run_pure, run_checkKey Try.underlying9 (key := .string s) rfl, run_findKey Try.underlying9 (key := .string s) rfl hall]
  cases hx : entIdx ent.toList (.string s) 0 with
  | none =>
    rw [hx] at hi
    cases h : hasN S s <;> simp [h] at hi
    simp [Try.zeroValue4]
  | some p =>
    rw [hx] at hi
    cases h : hasN S s <;> simp [h] at hi
    simp [hi]

set_option maxRecDepth 100000 in
theorem from2_gives {W : World} {b mb : Nat} {ent : Array MapEntry} {clock : Nat} {S : List ByteArray} (hc : W.cell? ⟨b, 0, none⟩ = some (.map (some mb))) (hm : W.heap[mb]? = some (.map ent clock)) (hall : ∀ x, x ∈ ent.toList → kdOk .string x.key = true)
    (hf : ∀ k, kdOk .string k = true → entFind ent.toList k = mapN S k) (s : ByteArray) : FnGives Try.prog 61 #[.pointer (some ⟨b, 0, none⟩)] #[.string s] (.bool (!hasN S s)) W := by
  show Calls Try.prog 61 #[.string s, .pointer (some ⟨b, 0, none⟩)] W _
  have hlook := fun s => run_lookN hm hall hf s
  go_enter Try.func61, Try.ntmps61
  go_wp2
  go_ret
  exact ⟨rfl, 0, rfl⟩

set_option maxRecDepth 100000 in
theorem del_nil (fv : Value) (w : World) : Calls Try.prog 59 #[.slice none 0 0, fv] w fun e w' => e = .returned (.slice none 0 0) ∧ ∃ q, w' = w.drewN q := by
  have hIF : Calls Try.prog 88 #[.slice none 0 0, fv] w fun e w' => e = .returned (.int .i64 (-1)) ∧ ∃ q, w' = w.drewN q := (AnyE.slices_IndexFunc_empty (ρ := delRen) { delLays with } none 0 fv w).mono fun e w' h => ⟨h.1, 0, h.2⟩
  go_enter Try.func59, Try.ntmps59
  go_wp2_with (go_at_call 88; refine hIF.mono ?_; rintro e w' ⟨rfl, q, rfl⟩)
  go_ret
  exact ⟨rfl, q, rfl⟩

/-- The objects of the search, and a row of names. -/
def LD (S ns : List ByteArray) : List (Nat × AObj) := [(1000000, .box [.mp 1000001]), (1000001, .map .string S.length (mapN S)), (1000003, .vec 9 1 ns.length fun i => (strC (ns[i]?.getD ⟨#[]⟩)).map .d)]
def LD' (S : List ByteArray) : List (Nat × AObj) := [(1000000, .box [.mp 1000001]), (1000001, .map .string S.length (mapN S))]

theorem hdel_LD {S ns : List ByteArray} {Hf : Heap} (hO : HOk (hof (LD S ns)) Hf) : hdel (hjoin (hof (LD S ns)) Hf) 1000003 = hjoin (hof (LD' S)) Hf := by
  have hn : Hf 1000003 = none := by
    cases h : Hf 1000003 with
    | none => rfl
    | some o =>
      have := (hO 1000003 o h).2.1
      simp [LD, hof, hget, hadd] at this
  funext k
  unfold hdel
  by_cases h : 1000003 = k
  · subst h
    rw [if_pos rfl]
    simp [hjoin, LD', hof, hadd, hnil, hn]
  · rw [if_neg h]
    simp [hjoin, LD, LD', hof, hadd, hnil, h]

theorem HOk.sub_LD {S ns : List ByteArray} {Hf : Heap} (hO : HOk (hof (LD S ns)) Hf) : HOk (hof (LD' S)) Hf := fun k o h => by
  obtain ⟨h1, h2, h3⟩ := hO k o h
  refine ⟨h1, ?_, h3⟩
  simp only [LD, LD', hof, hget_add] at h2 ⊢
  split at h2
  · cases h2
  rename_i a
  rw [if_neg a]
  split at h2
  · cases h2
  rename_i b
  rw [if_neg b]
  rfl

theorem heap_putRow_ne {α : Type} [Inhabited α] (enc : α → Value) (w : World) (blk off : Nat) (d : Array α) {b : Nat} (h : b ≠ blk) : (putRow enc w blk off d).heap[b]? = w.heap[b]? := by
  unfold putRow mapBlock
  simp only [Array.getElem?_modify]
  rw [if_neg (Ne.symm h)]

theorem del_eff (S ns : List ByteArray) : AEff Try.prog 59 [.own 1000003 ns.length, .fn 61 [.ptr 1000000 0]] (LD S ns) (strsD (ns.filter fun s => hasN S s)) (LD' S) := by
  refine aeff_raw (H' := hof (LD' S)) ⟨_, _, Try.func59, by kernel_rfl, rfl⟩ (by simp [LD]) (by simp [LD, LD', idsOk]) ⟨.none, by simp [LD', LD, hof, HLe, gE, hget, hadd, OLe, cellsLe, AVLe, AVLe0], by simp [LD', LD, srcApart, gE]⟩ ?_
  intro X0 W0 γ w Hf vs hS hO hvs
  have hg : ∀ k o, hget (hof (LD S ns)) k = some o → hget (hjoin (hof (LD S ns)) Hf) k = some o := fun k o h => by
    have h' : hof (LD S ns) k = some o := h
    simp [hget, hjoin, h']
  obtain ⟨u, hu, hvec⟩ := hS.obj 1000003 _ (hg 1000003 _ (by simp [LD, hof, hget, hadd]; rfl))
  obtain ⟨v0, hv0, b, arr, t0, rfl, hB, hh, hreps⟩ := hS.obj 1000000 _ (hg 1000000 _ (by simp [LD, hof, hget, hadd]; rfl))
  obtain ⟨v1, hv1, mb, ent, clock, rfl, hMB, hmh, hsz, hall, hf⟩ := hS.obj 1000001 _ (hg 1000001 _ (by simp [LD, hof, hget, hadd]; rfl))
  obtain ⟨xs, hown, hrow⟩ := hvec
  rw [← hdel_LD hO]
  have hvg := hg 1000003 _ (show hget (hof (LD S ns)) 1000003 = some (.vec 9 1 ns.length fun i => (strC (ns[i]?.getD ⟨#[]⟩)).map .d) by simp [LD, hof, hget, hadd])
  have hblt := hS.blk_lt hvg hu (b := b)
  have hargs : vs = #[u, .func (.func 61) #[] #[.pointer (some ⟨b, 0, none⟩)]] := by
    obtain ⟨a0, r0, e0, h0, k0⟩ := hvs.uncons
    obtain ⟨a1, r1, rfl, h1, k1⟩ := k0.uncons
    obtain rfl := k1.unnil
    have hu0 : a0 = u := by
      cases h0 with | own _ _ _ h => rw [hu] at h; injection h with h; exact h.symm
    subst hu0
    cases h1 with | fn _ us _ hl hr =>
    obtain ⟨p0, p1, rfl, h3, h4⟩ := (show Reps _ _ _ us _ from ⟨hl, hr⟩).uncons
    obtain rfl := h4.unnil
    cases h3 with | ptr b' _ _ h5 =>
    rw [hv0] at h5
    injection h5 with h5
    injection h5 with h5
    injection h5 with h5
    injection h5 with h5
    subst h5
    exact Array.toList_inj.1 e0
  subst hargs
  have hmb : arr = #[.map (some mb)] := by
    obtain ⟨a0, r0, e0, h0, k0⟩ := hreps.uncons
    obtain rfl := k0.unnil
    cases h0 with | mp b' _ h5 =>
    rw [hv1] at h5
    injection h5 with h5
    injection h5 with h5
    injection h5 with h5
    subst h5
    exact Array.toList_inj.1 e0
  subst hmb
  rcases hown.2 with ⟨rfl, h0⟩ | ⟨g, cap, cur, rfl, hgB, hgh, hn, hcap, hcs, htk⟩
  · refine (del_nil _ w).mono ?_
    rintro e w' ⟨rfl, q, rfl⟩
    have hns : ns = [] := by simpa using h0
    subst hns
    obtain ⟨h1, h2⟩ := hS.spend (w' := w.drewN q) hvg hu (fun _ => trivial) (hS.ext.trans (Ext.drewN w q)) (Nat.le_refl _) (fun _ _ _ => rfl)
    exact ⟨_, rfl, h1, hO.sub_LD, h2, .nil 1 _⟩
  · have hlt : ∀ {k : Nat} {o : Obj}, w.heap[k]? = some o → k < w.heap.size := fun h => (Array.getElem?_eq_some_iff.1 h).1
    have hne : b ≠ g := fun e => absurd (hS.dis 1000000 1000003 _ _ _ _ b (hg 1000000 _ (by simp [LD, hof, hget, hadd]; rfl)) hvg hv0 hu rfl (by rw [e]; rfl)) (by decide)
    have hnm : mb ≠ g := fun e => absurd (hS.dis 1000001 1000003 _ _ _ _ mb (hg 1000001 _ (by simp [LD, hof, hget, hadd]; rfl)) hvg hv1 hu rfl (by rw [e]; rfl)) (by decide)
    have hcell : w.cell? ⟨b, 0, none⟩ = some (.map (some mb)) := by simp [World.cell?, hh]
    have hgc : ∀ j (h : j < ns.length), w.cell? ⟨g, 0 + j, none⟩ = some (.string ns[j]) := by
      have hflat : (List.range ns.length).flatMap xs = ns.map Value.string := by
        rw [flat_congr (g := fun i => [Value.string (ns[i]?.getD ⟨#[]⟩)]) (fun i hi => ?_)]
        · clear hrow hvg hreps hown hvs htk
          have : ∀ l : List ByteArray, (List.range l.length).flatMap (fun i => [Value.string (l[i]?.getD ⟨#[]⟩)]) = l.map Value.string := fun l => by
            rw [← List.map_eq_flatMap]
            refine List.ext_getElem (by simp) fun i h1 h2 => ?_
            simp at h2
            simp [h2]
          exact this ns
        · have hi' : i < ns.length := List.mem_range.1 hi
          obtain ⟨hl, hr⟩ := hrow i hi'
          obtain ⟨v, vs', e, hv, hvs'⟩ := (show Reps _ _ w (xs i) [.d (.lit (.string (ns[i]?.getD ⟨#[]⟩)))] from hr).uncons
          obtain rfl := hvs'.unnil
          obtain rfl := hv.lit
          exact e
      intro j h
      rw [Nat.mul_one, hflat] at htk
      have e : (cur.toList.take ns.length)[j]? = some (.string ns[j]) := by rw [htk]; simp [h]
      rw [List.getElem?_take] at e
      simp [h] at e
      simp [World.cell?, hgh, e]
    have hH : Holds Value.string w g 0 ns.toArray := fun j hj => by
      have hj' : j < ns.length := by simpa using hj
      rw [hgc j hj']
      simp [hj', World.frozen?, hgh]
    have hcon := AnyE.slices_DeleteFunc delLays Value.string (fun _ => rfl) (fun x => !hasN S x) 61 #[.pointer (some ⟨b, 0, none⟩)] (enters_of Try.func61 (by kernel_rfl) rfl) ⟨#[]⟩ Try.zeroValue9 g 0 cap ns.toArray w
      (fun W x hb => from2_gives ((hb.cell (p := ⟨b, 0, none⟩) (hlt hh)).trans hcell) ((hb.block mb (hlt hmh)).trans hmh) hall hf x)
      (fun n os dk x hs => from2_gives (by
        unfold sortWorld
        rw [cell?_grow _ _ _ (by show b < (putRow _ _ _ _ _).heap.size; rw [size_putRow]; exact hlt hh), cell?_putRow_other _ _ g 0 _ _ (Or.inl hne)]
        exact hcell) (mb := mb) (ent := ent) (clock := clock) (by
        unfold sortWorld grow
        have h0 := heap_putRow_ne Value.string (Sort.ahead w n) g 0 dk hnm
        have h1 : mb < (putRow Value.string (Sort.ahead w n) g 0 dk).heap.size := by rw [size_putRow]; exact hlt hmh
        show ((putRow Value.string (Sort.ahead w n) g 0 dk).heap ++ os)[mb]? = _
        rw [Array.getElem?_append_left h1, h0]
        exact hmh) hall hf x) hH (by simp; unfold maxLen at hcap; omega) (by simpa using hn)
    simp only [List.size_toArray, Bool.not_not] at hcon
    refine (show Calls Try.prog 59 _ w _ from hcon).mono ?_
    rintro e w' ⟨rfl, q, rfl⟩
    obtain ⟨h1, h2⟩ := hS.spend (w' := putRow Value.string (Sort.ahead w q) g 0 (ns.filter (fun x => hasN S x) ++ List.replicate (ns.length - (ns.filter fun x => hasN S x).length) (⟨#[]⟩ : ByteArray)).toArray) hvg hu (fun _ => trivial) (show Ext W0 _ from ⟨hS.ext.os, hS.ext.tape, hS.ext.output, by rw [size_putRow]; exact hS.ext.size, fun k hk => (heap_putRow_ne Value.string (Sort.ahead w q) g 0 _ (by omega)).trans (hS.ext.block k hk)⟩) (by rw [size_putRow]; exact Nat.le_refl _)
      (fun k hk _ => heap_putRow_ne Value.string (Sort.ahead w q) g 0 _ (fun e => hk (by rw [e]; rfl)))
    refine ⟨_, rfl, h1, hO.sub_LD, h2, ?_⟩
    have hfl : (ns.filter fun x => hasN S x).length ≤ ns.length := List.length_filter_le _ _
    have hX : ∀ q', ¬ XOf X0 γ (hdel (hjoin (hof (LD S ns)) Hf) 1000003) g q' := by
      rintro q' (h | ⟨id, ob, v, h3, h4, h5, _⟩)
      · exact absurd (hS.hx g q' h) (by omega)
      · rw [hget_del] at h3
        split at h3
        · cases h3
        · rename_i hne'
          exact hne' (hS.dis _ _ _ _ _ _ g hvg h3 hu h4 rfl h5)
    refine .sl g 0 cap 1 _ _ (fun i => [Value.string ((ns.filter fun x => hasN S x)[i]?.getD ⟨#[]⟩)]) (by omega) hcap (by rw [size_putRow]; exact hlt hgh) (fun i _ j _ => hX _) (fun i _ => ⟨rfl, rfl⟩) (fun i hi j v hv => ?_) (fun i hi j h h' => ?_)
    · cases j with
      | succ j => simp at hv
      | zero =>
        simp at hv
        subst hv
        have hc := cell?_putRow Value.string (Sort.ahead w q) g 0 ns.toArray (ns.filter (fun x => hasN S x) ++ List.replicate (ns.length - (ns.filter fun x => hasN S x).length) (⟨#[]⟩ : ByteArray)).toArray (holds_ahead _ _ _ _ _ _ hH) (by simp; omega) i (by simp; omega)
        rw [Nat.mul_one, Nat.add_zero, hc]
        generalize (ns.filter fun x => hasN S x) = fl at hi
        generalize ns.length - fl.length = r
        rw [getElem!_pos _ i (by simp; omega)]
        simp [List.getElem_append_left hi, hi]
    · cases j with
      | succ j => simp at h
      | zero => exact .lit _

end Go.Proofs.Ytifinpijhbkhnaa
