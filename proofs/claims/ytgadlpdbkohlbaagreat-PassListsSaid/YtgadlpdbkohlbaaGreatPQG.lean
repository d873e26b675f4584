/- Texts of one kind, one behind the other (merged by program; the bodies of functions are printed by program). -/
import Derived.Test.YtgadlpdbkohlbaaGreatPQF
import Derived.Lib.AppendZeros
import Derived.Laws.AppendOwnNone
namespace Go.Proofs.YtgadlpdbkohlbaaGreat
open Go.RowKit
structure BInv (m : Module) (r : ByteArray) (i : Nat) (l : List ByteArray) : Prop where
 le : i ≤ l.length
 root : r ∈ l
 nodup : l.Nodup
 sub : ∀ x ∈ l, x = r ∨ x ∈ namesM m
 rch : ∀ x ∈ l, Rch m [r] x
 out : ∀ j (h : j < l.length), j < i → ∀ y ∈ leads m l[j], y ∈ l
theorem BInv.len {m : Module} {r : ByteArray} {i : Nat} {l : List ByteArray} (h : BInv m r i l) : l.length ≤ m.funcs.length + m.globs.length + 1 := by
 have h1 := nodup_le (l' := r :: namesM m) h.nodup fun x hx => by
  rcases h.sub x hx with rfl | h'
  ·simp
  ·simp [h']
 rw [List.length_cons, namesM_length] at h1
 exact h1
theorem BInv.start (m : Module) (r : ByteArray) : BInv m r 0 [r] := ⟨by simp, by simp, by simp, fun x hx => .inl (by simpa using hx), fun x hx => .root hx, fun j h hj => by omega⟩
theorem BInv.add {m : Module} {r : ByteArray} {i : Nat} {l : List ByteArray} (h : BInv m r i l) {x : ByteArray} (hx : hasN l x = false) (hn : x ∈ namesM m) (hr : Rch m [r] x) : BInv m r i (l ++ [x]) := by
 have hxl : x ∉ l := fun h' => by rw [mem_hasN.2 h'] at hx; cases hx
 refine ⟨by simp; have := h.le; omega, by simp [h.root], List.nodup_append.2 ⟨h.nodup, by simp, fun a ha b hb e => ?_⟩, fun y hy => ?_, fun y hy => ?_, fun j hj hji y hy => ?_⟩
 ·rw [List.mem_singleton.1 hb] at e
  exact hxl (e ▸ ha)
 ·rcases List.mem_append.1 hy with hy | hy
  ·exact h.sub y hy
  ·rw [List.mem_singleton.1 hy]; exact .inr hn
 ·rcases List.mem_append.1 hy with hy | hy
  ·exact h.rch y hy
  ·rw [List.mem_singleton.1 hy]; exact hr
 ·have hjl : j < l.length := by have := h.le; omega
  rw [List.getElem_append_left hjl] at hy
  exact List.mem_append_left _ (h.out j hjl hji y hy)
theorem BInv.next {m : Module} {r : ByteArray} {i : Nat} {l : List ByteArray} (h : BInv m r i l) (hi : i < l.length) (ho : ∀ y ∈ leads m l[i], y ∈ l) : BInv m r (i + 1) l :=
 ⟨hi, h.root, h.nodup, h.sub, h.rch, fun j hj hji y hy => by
  by_cases e : j = i
  ·subst e; exact ho y hy
  ·exact h.out j hj (by omega) y hy⟩
theorem BInv.done {m : Module} {r : ByteArray} {l : List ByteArray} (h : BInv m r l.length l) (s : ByteArray) : s ∈ l ↔ Rch m [r] s := by
  refine ⟨h.rch s, fun hs => ?_⟩
  induction hs with
  | root hx => rw [List.mem_singleton.1 hx]; exact h.root
  | step _ ht ih =>
    obtain ⟨j, hj, rfl⟩ := List.getElem_of_mem ih
    exact h.out j hj hj _ ht
def flO (l : List ByteArray) (m : Module) (k : Nat) : List ByteArray := onceL (((namesM m).take k).filter fun s => hasN l s)
@[simp] theorem flO_zero (l : List ByteArray) (m : Module) : flO l m 0 = [] := rfl
theorem findG_drop {m : Module} {s : ByteArray} (h : Rch m (rootsL m) s) : findG (dropM m) s = findG m s := by
 unfold findG dropM
 refine find?_filter _ _ _ fun f hf hs => ?_
 obtain rfl : f.name = s := by simpa using hs
 exact mem_hasN.2 (fromL_mem.2 ⟨gname_mem hf, h⟩)
theorem thereB_drop {m : Module} {s : ByteArray} (h : Rch m (rootsL m) s) : thereB (dropM m) s = thereB m s := by
 unfold thereB
 rw [findF_drop h, findG_drop h]
theorem main_root {m : Module} (h : mainB m = true) : mainS ∈ rootsL m := by
  unfold mainB at h
  cases hf : findF m mainS with
  | none => rw [hf] at h; cases h
  | some f =>
    have h1 := List.mem_of_find?_eq_some hf
    have h2 : f.name = mainS := by simpa using List.find?_some hf
    exact rootsL_mem.2 (.inl ⟨f, h1, by unfold rootF; rw [h2]; simp [mainS], h2⟩)
theorem whole_drop {m : Module} (h : wholeE m = 0) : wholeE (dropM m) = 0 := by
 obtain ⟨h1, h2, h3⟩ := wholeE_zero.1 h
 refine wholeE_zero.2 ⟨drop_ok h1, ?_, fun s hs => ?_⟩
 ·have hr : Rch m (rootsL m) mainS := .root (main_root h2)
  unfold mainB at h2 ⊢
  rw [findF_drop hr]
  exact h2
 ·rw [thereB_drop (named_stays h1 hs)]
  refine h3 s ?_
  obtain ⟨f, hf, hsf⟩ := List.mem_flatMap.1 hs
  exact List.mem_flatMap.2 ⟨f, (mem_dropF.1 hf).1, hsf⟩

structure SimD (m : Module) (w w' : Wd) : Prop where
 same : w' = { w with globs := w'.globs }
 globs : ∀ s, Rch m (rootsL m) s → (∃ g ∈ m.globs, g.name = s) → valAt w'.globs (globI (dropM m) s) = valAt w.globs (globI m s)
 len : w.globs.length = m.globs.length
 len' : w'.globs.length = (dropM m).globs.length
theorem SimD.step {m : Module} {w w' : Wd} (h : SimD m w w') (fuel : Nat) : SimD m (stepW fuel w) (stepW fuel w') := by
 have hs := h.same
 unfold stepW
 rw [show w'.steps = w.steps from by rw [hs]]
 split <;> exact ⟨by rw [hs], h.globs, h.len, h.len'⟩
theorem SimD.enter {m : Module} {w w' : Wd} (h : SimD m w w') (n : Nat) : SimD m (enterW n w) (enterW n w') := by
 have hs := h.same
 unfold enterW
 rw [show w'.deep = w.deep from by rw [hs]]
 split <;> exact ⟨by rw [hs], h.globs, h.len, h.len'⟩
theorem SimD.gives {m : Module} (hok : ModOk m) {w w' : Wd} (h : SimD m w w') (inp : ByteArray) (x : Inst) (vals : List Int) (hr : x.op = 12 ∨ x.op = 13 → Rch m (rootsL m) x.name ∧ ∃ g ∈ m.globs, g.name = x.name) :
  SimD m (givesW m inp x vals w).1 (givesW (dropM m) inp x vals w').1 ∧ (givesW (dropM m) inp x vals w').2 = (givesW m inp x vals w).2 := by
 have hs := h.same
 have hrd : w'.read = w.read := by rw [hs]
 unfold givesW
 split
 ·exact ⟨h, rfl⟩
 split
 ·rename_i h12
  obtain ⟨h1, h2⟩ := hr (.inl h12)
  exact ⟨h, h.globs _ h1 h2⟩
 split
 ·rename_i h13
  obtain ⟨h1, h2⟩ := hr (.inr h13)
  refine ⟨⟨by simp only; rw [hs], fun s hs1 hs2 => ?_, by simp only [List.length_set]; exact h.len, by simp only [List.length_set]; exact h.len'⟩, rfl⟩
  simp only [valAt_set]
  have hdrop : ∀ t, Rch m (rootsL m) t → (∃ g ∈ m.globs, g.name = t) → ∃ g ∈ (dropM m).globs, g.name = t := fun t ht ⟨g, hg, hn⟩ => ⟨g, mem_dropG.2 ⟨hg, by rw [hn]; exact ht⟩, hn⟩
  obtain ⟨k, hk, e1, e2, e3⟩ := globI_at h2
  obtain ⟨j, hj, f1, f2, f3⟩ := globI_at hs2
  obtain ⟨k', hk', e1', e2', e3'⟩ := globI_at (hdrop _ h1 h2)
  obtain ⟨j', hj', f1', f2', f3'⟩ := globI_at (hdrop _ hs1 hs2)
  rw [h.globs s hs1 hs2, e1, f1, e1', f1', h.len, h.len']
  simp only [Int.toNat_natCast]
  by_cases e : s = x.name
  ·subst e
   rw [f1] at e1
   rw [f1'] at e1'
   rw [if_pos ⟨by omega, by omega⟩, if_pos ⟨by omega, by omega⟩]
  ·rw [if_neg, if_neg]
   ·rintro ⟨rfl, _⟩
    exact e (f3.symm.trans e3)
   ·rintro ⟨rfl, _⟩
    exact e (f3'.symm.trans e3')
 split
 ·rw [hrd]
  split
  ·exact ⟨h, rfl⟩
  ·exact ⟨⟨by simp only; rw [hs], h.globs, h.len, h.len'⟩, rfl⟩
 split
 ·exact ⟨⟨by simp only; rw [hs], h.globs, h.len, h.len'⟩, rfl⟩
 ·exact ⟨h, rfl⟩
theorem goR_drop {m : Module} (hok : ModOk m) {inp : ByteArray} {fuel deep : Nat} : ∀ (g : Nat) (w w' : Wd) (f : Func) (at' i : Nat) (vals : List Int) (n : Nat), SimD m w w' → f ∈ (dropM m).funcs →
    SimD m (goR m inp fuel deep g w f at' i vals n).1 (goR (dropM m) inp fuel deep g w' f at' i vals n).1 ∧ (goR (dropM m) inp fuel deep g w' f at' i vals n).2 = (goR m inp fuel deep g w f at' i vals n).2 := by
  intro g
  induction g with
  | zero => intro w w' f at' i vals n h hf; exact ⟨h, rfl⟩
  | succ g ih =>
    intro w w' f at' i vals n h hf
    have hb : ∀ {w w' : Wd}, SimD m w w' → w'.bad = w.bad := fun h => by rw [h.same]
    have h1 := h.step fuel
    obtain ⟨hf1, hf2⟩ := mem_dropF.1 hf
    rw [goR, goR]
    simp only [hb h1]
    split
    · exact ⟨h1, rfl⟩
    split
    · rename_i hi
      have hx : (f.blocks[at']?.getD default).ins[i]?.getD default ∈ allIns f := by
        cases hbl : f.blocks[at']? with
        | none => rw [hbl] at hi; simp at hi; exact absurd hi (by simp [show (default : Block).ins = [] from rfl])
        | some b =>
          rw [hbl] at hi
          simp only [Option.getD_some] at hi ⊢
          rw [List.getElem?_eq_getElem hi]
          exact List.mem_flatMap.2 ⟨b, List.mem_of_getElem? hbl, List.getElem_mem hi⟩
      generalize (f.blocks[at']?.getD default).ins[i]?.getD default = x at hx ⊢
      have hnm : isNamed x.op = true → Rch m (rootsL m) x.name := fun hn => .step hf2 (by rw [leads_of hok hf1]; exact List.mem_map.2 ⟨x, List.mem_filter.2 ⟨hx, hn⟩, rfl⟩)
      split
      · rename_i h14
        split
        · exact ⟨⟨by simp only; rw [h1.same], h1.globs, h1.len, h1.len'⟩, rfl⟩
        · obtain ⟨f', hf', hfn, hfp⟩ := hok.call (mem_insM hf1 hx) h14
          have hrc := hnm (isNamed_iff.2 (.inr (.inr h14)))
          have hff : findF m x.name = some f' := by rw [← hfn]; exact findF_uniq hok hf'
          have e1 : funcOf m x.name = f' := by unfold funcOf; rw [hff]; rfl
          have e2 : funcOf (dropM m) x.name = f' := by unfold funcOf; rw [findF_drop hrc, hff]; rfl
          rw [e1, e2]
          obtain ⟨a1, a2⟩ := ih (enterW (n + 1) (stepW fuel w)) (enterW (n + 1) (stepW fuel w')) f' 0 0 (pickI vals x.args) (n + 1) (h1.enter _) (mem_dropF.2 ⟨hf', by rw [hfn]; exact hrc⟩)
          rw [hb a1, a2]
          split
          · exact ⟨a1, rfl⟩
          · exact ih _ _ f at' (i + 1) _ n a1 hf
      · obtain ⟨a1, a2⟩ := h1.gives hok inp x vals (fun h12 => ⟨hnm (isNamed_iff.2 (by rcases h12 with h | h <;> simp [h])), hasG_iff.1 ((missI_false (hok.miss x (mem_insM hf1 hx))).2 h12)⟩)
        rw [a2]
        exact ih _ _ f at' (i + 1) _ n a1 hf
    · split
      · exact ⟨h1, rfl⟩
      · split
        · exact ih _ _ f _ 0 _ n h1 hf
        · exact ih _ _ f _ 0 _ n h1 hf
theorem runR_drop {m : Module} (hw : wholeE m = 0) (inp : ByteArray) (fuel deep : Nat) : runR (dropM m) inp fuel deep = { runR m inp fuel deep with globs := (runR (dropM m) inp fuel deep).globs } := by
  obtain ⟨hok, hmain, hthere⟩ := wholeE_zero.1 hw
  have hroot : Rch m (rootsL m) mainS := .root (main_root hmain)
  have hst : SimD m (startW m) (startW (dropM m)) := by
    refine ⟨rfl, fun s hs1 hs2 => ?_, by simp [startW], by simp [startW]⟩
    obtain ⟨g, hg, hn⟩ := hs2
    obtain ⟨k, hk, e1, e2, e3⟩ := globI_at ⟨g, hg, hn⟩
    obtain ⟨k', hk', e1', e2', e3'⟩ := globI_at (m := dropM m) ⟨g, mem_dropG.2 ⟨hg, by rw [hn]; exact hs1⟩, hn⟩
    rw [findG_drop hs1, e2] at e2'
    injection e2' with e2'
    rw [e1, e1']
    simp only [startW, valAt, Int.toNat_natCast, List.getElem?_map, List.getElem?_eq_getElem hk, List.getElem?_eq_getElem hk', Option.map_some, Option.getD_some, e2']
  unfold mainB at hmain
  cases hf : findF m mainS with
  | none => rw [hf] at hmain; cases hmain
  | some f =>
    have h1 := List.mem_of_find?_eq_some hf
    have h2 : f.name = mainS := by simpa using List.find?_some hf
    have e1 : funcOf m mainS = f := by unfold funcOf; rw [hf]; rfl
    have e2 : funcOf (dropM m) mainS = f := by unfold funcOf; rw [findF_drop hroot, hf]; rfl
    obtain ⟨a1, a2⟩ := goR_drop hok (inp := inp) (fuel := fuel) (deep := deep) (fuel + 1) _ _ f 0 0 [] 1 (hst.enter 1) (mem_dropF.2 ⟨h1, by rw [h2]; exact hroot⟩)
    have hb := a1.same
    unfold runR
    rw [e1, e2]
    simp only
    have hbb : (goR (dropM m) inp fuel deep (fuel + 1) (enterW 1 (startW (dropM m))) f 0 0 [] 1).1.bad = (goR m inp fuel deep (fuel + 1) (enterW 1 (startW m)) f 0 0 [] 1).1.bad := by rw [hb]
    rw [hbb, a2]
    split
    · exact hb
    · generalize (goR (dropM m) inp fuel deep (fuel + 1) (enterW 1 (startW (dropM m))) f 0 0 [] 1).1 = a at hb ⊢
      rw [hb]
def c_marlineref07_gives : ACode :=
 (.seq (.reg [Ro 5 (.box true (Sv 0)), Ro 6 (.box false (Sv 1)), Ro 8 (.box true (Sv 3)), Ro 10 (.new [(.bool false), (.int .u64 0), (.string ⟨#[]⟩), (.int .i64 0), (.int .i64 0), (.int .i64 0), (.slice none 0 0), (.int .i64 0)]), Ro 11 (.mv (.c (.int .u64 0)))])
 (.seq (.seq (.reg [Ro 13 (Fd 8 0), Ro 14 (Ld 13), Ro 15 (.bin .eql (Sv 14) (Ci 1))])
 (.cond (Sv 15)
 (.seq (.reg [Rl 16 (.ld false (Sv 6) (some 8)) 0, Rl 17 (Fd 8 3) 1, Rl 18 (Ld 17) 2, ⟨none, none, (.st (Sv 10) (Sv 16) 8), (some (3, []))⟩, Rl 11 (Mv 18) 4])
 .ret)
 .skip))
 (.seq (.seq (.reg [Ro 19 (Fd 8 0), Ro 20 (Ld 19), Ro 21 (.bin .eql (Sv 20) (Ci 12))])
 (.cond (Sv 21)
 (.seq (.reg [⟨(some (sl 22)), none, (.ld false (Sv 6) (some 8)), (some (0, [(sl 10)]))⟩, ⟨(some (sl 23)), none, (Fd 6 6), (some (1, [(sl 10)]))⟩, ⟨(some (sl 24)), none, (.ld false (Sv 23) none), (some (2, [(sl 10)]))⟩, ⟨(some (sl 25)), none, (Lk 5 2), (some (3, [(sl 10)]))⟩, ⟨(some (sl 26)), none, (Fd 8 4), (some (4, [(sl 10)]))⟩, ⟨(some (sl 27)), none, (Ld 26), (some (5, [(sl 10)]))⟩, ⟨(some (sl 28)), none, (.call true (.f 22) [Sv 25, Sv 27]), (some (6, [(sl 10)]))⟩, ⟨(some (sl 29)), none, (.idx false (Sv 24) (Sv 28) 1), (some (7, [(sl 10)]))⟩, ⟨(some (sl 30)), none, (.ld false (Sv 29) none), (some (8, [(sl 10)]))⟩, ⟨none, none, (.st (Sv 10) (Sv 22) 8), (some (9, [(sl 10)]))⟩, ⟨(some (sl 11)), none, (Mv 30), (some (10, [(sl 10)]))⟩])
 .ret)
 .skip))
 (.seq (.seq (.reg [Ro 31 (Fd 8 0), Ro 32 (Ld 31), Ro 33 (.bin .eql (Sv 32) (Ci 13))])
 (.cond (Sv 33)
 (.seq (.reg [Ro 34 (.nrow 43 1), Ro 35 (Fd 6 6), Ro 36 (.ld false (Sv 35) none), Ro 37 (.vapp 43 1 8 (Sv 34) (Sv 36)), Ro 12 (Mv 37)])
 (.seq (.reg [Rl 38 (Mv 12) 0, Rl 39 (Lk 5 2) 1, Rl 40 (Fd 8 4) 2, Rl 41 (Ld 40) 3, Rl 42 (.call true (.f 22) [Sv 39, Sv 41]) 4, Rl 43 (Mv 4) 5, Rl 44 (Fd 8 1) 6, Rl 45 (Ld 44) 7, Rl 46 (.idx true (Sv 43) (Sv 45) 1) 8, Rl 47 (Ld 46) 9, Rl 48 (.idx false (Sv 38) (Sv 42) 1) 10, ⟨none, none, (.st (Sv 48) (Sv 47) 1), (some (11, []))⟩])
 (.seq (.reg [Ro 49 (Mv 12), Ro 50 (Fd 6 6), Rn (.st (Sv 50) (Sv 49) 1)])
 (.seq (.reg [Ro 51 (.ld false (Sv 6) (some 8)), Rn (.st (Sv 10) (Sv 51) 8), Ro 11 (.mv (.c (.int .u64 0)))])
 .ret))))
 .skip))
 (.seq (.seq (.reg [Ro 52 (Fd 8 0), Ro 53 (Ld 52), Ro 54 (.bin .eql (Sv 53) (Ci 15))])
 (.cond (Sv 54)
 (.seq (.seq (.reg [Ro 55 (Fd 6 0), Ro 56 (Fd 55 3), Ro 57 (.ld false (Sv 56) none), Ro 58 (Mv 2), Ro 59 (.len true (Sv 58)), Ro 60 (.bin .geq (Sv 57) (Sv 59))])
 (.cond (Sv 60)
 (.seq (.reg [Ro 61 (.ld false (Sv 6) (some 8)), Rn (.st (Sv 10) (Sv 61) 8), Ro 11 (.mv (.c (.int .u64 256)))])
 .ret)
 .skip))
 (.seq (.reg [Ro 62 (Fd 6 0), Ro 63 (Fd 62 3), Ro 64 (.ld false (Sv 63) none), Ro 65 (.bin .add (Sv 64) (Ci 1)), Ro 66 (Fd 6 0), Ro 67 (Fd 66 3), Rn (.st (Sv 67) (Sv 65) 1)])
 (.seq (.reg [⟨(some (sl 68)), none, (.ld false (Sv 6) (some 8)), (some (0, [(sl 10)]))⟩, ⟨(some (sl 69)), none, (Mv 2), (some (1, [(sl 10)]))⟩, ⟨(some (sl 70)), none, (Fd 6 0), (some (2, [(sl 10)]))⟩, ⟨(some (sl 71)), none, (Fd 70 3), (some (3, [(sl 10)]))⟩, ⟨(some (sl 72)), none, (.ld false (Sv 71) none), (some (4, [(sl 10)]))⟩, ⟨(some (sl 73)), none, (.bin .sub (Sv 72) (Ci 1)), (some (5, [(sl 10)]))⟩, ⟨(some (sl 74)), none, (.sidx (Sv 69) (Sv 73)), (some (6, [(sl 10)]))⟩, ⟨(some (sl 75)), none, (.cnv .u64 (Sv 74)), (some (7, [(sl 10)]))⟩, ⟨none, none, (.st (Sv 10) (Sv 68) 8), (some (8, [(sl 10)]))⟩, ⟨(some (sl 11)), none, (Mv 75), (some (9, [(sl 10)]))⟩])
 .ret)))
 .skip))
 (.seq (.seq (.reg [Ro 76 (Fd 8 0), Ro 77 (Ld 76), Ro 78 (.bin .eql (Sv 77) (Ci 16))])
 (.cond (Sv 78)
 (.seq (.reg [Rl 79 (Fd 6 0) 0, Rl 80 (Fd 79 2) 1, Rl 81 (.ld false (Sv 80) none) 2, Rl 82 (Mv 4) 3, Rl 83 (Fd 8 1) 4, Rl 84 (Ld 83) 5, Rl 85 (.idx true (Sv 82) (Sv 84) 1) 6, Rl 86 (Ld 85) 7, Rl 87 (.bin .rem (Sv 86) (.c (.int .u64 256))) 8, Rl 88 (.cnv .u8 (Sv 87)) 9, Rl 89 (.mksl 1 1 [(.int .u8 0)] [(0, 1, (Sv 88))]) 10, Rl 90 (.cnvs (Sv 89)) 11, Rl 91 (.bin .add (Sv 81) (Sv 90)) 12, Rl 92 (Fd 6 0) 13, Rl 93 (Fd 92 2) 14, ⟨none, none, (.st (Sv 93) (Sv 91) 1), (some (15, []))⟩])
 (.seq (.reg [Ro 94 (.ld false (Sv 6) (some 8)), Rn (.st (Sv 10) (Sv 94) 8), Ro 11 (.mv (.c (.int .u64 0)))])
 .ret))
 .skip))
 (.seq (.reg [Rl 95 (.ld false (Sv 6) (some 8)) 0, Rl 96 (Fd 8 0) 1, Rl 97 (Ld 96) 2, Rl 98 (Mv 4) 3, Rl 99 (Fd 8 1) 4, Rl 100 (Ld 99) 5, Rl 101 (.idx true (Sv 98) (Sv 100) 1) 6, Rl 102 (Ld 101) 7, Rl 103 (Mv 4) 8, Rl 104 (Fd 8 2) 9, Rl 105 (Ld 104) 10, Rl 106 (.idx true (Sv 103) (Sv 105) 1) 11, Rl 107 (Ld 106) 12, Rl 108 (.call true (.f 83) [Sv 97, Sv 102, Sv 107]) 13, ⟨none, none, (.st (Sv 10) (Sv 95) 8), (some (14, []))⟩, Rl 11 (Mv 108) 15])
 .ret)))))))
def r_marlineref07_gives : List ARes := [(.cell (sl 10) (some 8)), (.tmp (sl 11))]
theorem t_marlineref07_gives : (Tryz.f54).body.bind (trCode Tryz.prog 8 (Tryz.f54).ntmps [6, 10, 11, 12, 16, 22, 23, 24, 29, 30, 35, 36, 37, 38, 48, 49, 50, 51, 55, 56, 57, 61, 62, 63, 64, 66, 67, 68, 70, 71, 72, 79, 80, 81, 92, 93, 94, 95] [(2000037, 0, 1)] (drOk 8)) = some c_marlineref07_gives := by kernel_rfl
theorem u_marlineref07_gives : trRess Tryz.prog 8 (Tryz.f54).results.toList = some r_marlineref07_gives := by kernel_rfl
def u64C (x : Int) : List DV := [.lit (.int .u64 x)]
@[simp] theorem u64C_length (x : Int) : (u64C x).length = 1 := rfl
@[simp] theorem u64C_0 (x : Int) : (u64C x)[0]? = some (.lit (.int .u64 x)) := rfl
@[simp] theorem u64C_cells (x : Int) : (∀ d, d ∈ u64C x → d.cell = true) ↔ True := by unfold u64C; simp
@[simp] theorem u64C_len? (x : Int) : (u64C x)[1]? = none := rfl
@[simp] theorem u64C_map (x : Int) : (u64C x).map AV.d = [.d (.lit (.int .u64 x))] := rfl
@[reducible] def u64sD (xs : List Int) : DV := .sl 1 xs.length fun k => u64C (xs[k]?.getD 0)
@[simp high] theorem u64sD_cell (xs : List Int) : DV.cell (u64sD xs) = true := rfl
@[simp high] theorem u64sD_isLit (xs : List Int) : DV.isLit (u64sD xs) = false := rfl
@[simp high] theorem u64sD_lenV (xs : List Int) : lenV (.d (u64sD xs)) = .int xs.length := rfl
@[simp high] theorem u64sD_lenOk (H : Heap) (s : Bool) (xs : List Int) : lenOk H s (.d (u64sD xs)) = (s = false) := rfl
@[simp high] theorem u64sD_slLen (xs : List Int) : slLen (.d (u64sD xs)) = xs.length := rfl
@[simp high] theorem u64sD_idxV (H : Heap) (xs : List Int) (k : IntKind) (i : Int) : idxH H (.d (u64sD xs)) (.d (.lit (.int k i))) = .d (.cref (u64C (xs[i.toNat]?.getD 0)) 0) := rfl
@[simp high] theorem u64sD_idxOk (H : Heap) (n : Nat) (xs : List Int) (k : IntKind) (i : Int) : idxHOk H n (.d (u64sD xs)) (.d (.lit (.int k i))) = (1 = n ∧ 0 ≤ i ∧ i < xs.length) := rfl
@[simp high] theorem u64sD_moreV (n : Nat) (xs : List Int) : moreV n (.d (u64sD xs)) = if 1 = n then some (xs.length, fun k => u64C (xs[k]?.getD 0)) else none := rfl
@[simp high] theorem u64sD_slcV (xs : List Int) (lo hi : Int) : slcV (.d (u64sD xs)) lo hi = .d (.sl 1 (hi.toNat - lo.toNat) fun i => u64C (xs[lo.toNat + i]?.getD 0)) := rfl
@[simp high] theorem u64sD_slcOk (n : Nat) (xs : List Int) (lo hi : Int) : slcOk n (.d (u64sD xs)) lo hi = (1 = n ∧ 0 ≤ lo ∧ lo ≤ hi ∧ hi ≤ xs.length) := rfl
theorem u64sD_le {len : Nat} {row : Nat → List DV} {xs : List Int} (hl : len = xs.length) (h : ∀ i (hi : i < xs.length), row i = u64C xs[i]) : DLe (.sl 1 len row) (u64sD xs) := by
 subst hl
 exact DLe.sl fun i hi => by rw [h i hi, List.getElem?_eq_getElem hi]; rfl
theorem u64sD_nil : DLe (.lit (.slice none 0 0)) (u64sD []) := by
 intro X w v h; cases h; exact .nil _ _
abbrev DV.u64 (n : Int) : DV := .lit (.int .u64 n)
def worldC (w : Wd) : List DV := [.bool w.ended, .u64 w.code, .str w.out, .int w.read, .int w.steps, .int w.deep, u64sD w.globs, .int w.bad]
@[simp] theorem worldC_length (x : Wd) : (worldC x).length = 8 := rfl
@[simp] theorem worldC_cells (x : Wd) : (∀ d, d ∈ worldC x → d.cell = true) ↔ True := by unfold worldC; simp
@[simp] theorem worldC_len? (x : Wd) : (worldC x)[8]? = none := rfl
@[simp] theorem worldC_map (w : Wd) : (worldC w).map AV.d = [.d (.bool w.ended), .d (.u64 w.code), .d (.str w.out), .d (.int w.read), .d (.int w.steps), .d (.int w.deep), .d (u64sD w.globs), .d (.int w.bad)] := rfl
theorem wrapU_id {n : Int} (h : 0 ≤ n) (h' : n < 18446744073709551616) : IntKind.u64.wrap n = n := by
 unfold IntKind.wrap
 simp only [show IntKind.u64.signed = false from rfl, Bool.false_and, if_neg (by simp : ¬ false = true)]
 exact Int.emod_eq_of_lt h h'
theorem powI_ne : ∀ q, q < 64 → ¬ powI q = 0 := by decide
set_option maxRecDepth 10000 in
theorem power_pure (n : Nat) (h : n < 64) : APure Tryz.prog 108 [.u64 n] (.u64 (powI n)) := by
 refine apureG _ _ Tryz.func108 (by kernel_rfl) t_marlineref07_power u_marlineref07_power rfl rfl (fun _ => ?_)
 simp [c_marlineref07_power, r_marlineref07_power]
 refine loop_s (κ := Nat) (fun k => k ≤ n) (fun k => n - k) (fun k => [(sl 0, .d (.u64 ((n - k : Nat) : Int))), (sl 3, .d (.u64 (powI k)))]) (fun _ => []) 0 0 (srcs []) (by simp) (by simp [powI]) ?_
 rintro k hk
 simp
 refine ⟨fun hlt => ?_, fun hge => ?_⟩
 ·refine ⟨k + 1, by omega, by omega, srcs [], ?_⟩
  simp [SLeK]
  refine ⟨DLe.of_eq ?_, DLe.refl _⟩
  rw [show IntKind.u64.wrap (((n - k : Nat) : Int) - 1) = ((n - (k + 1) : Nat) : Int) from ?_]
  rw [wrapU_id (by omega) (by omega)]
  omega
 ·obtain rfl : k = n := by omega
  exact DLe.refl _
set_option maxRecDepth 10000 in
theorem reckon_pure (op a b : Int) (ha : 0 ≤ a) (hb : 0 ≤ b) : APure Tryz.prog 83 [.int op, .u64 a, .u64 b] (.u64 (reckI op a b)) := by
 refine apureG _ _ Tryz.func83 (by kernel_rfl) t_marlineref07_Reckon u_marlineref07_Reckon rfl rfl (fun _ => ?_)
 simp [c_marlineref07_Reckon, r_marlineref07_Reckon]
 have hm : 0 ≤ b.tmod 64 ∧ b.tmod 64 < 64 := ⟨Int.tmod_nonneg _ hb, Int.tmod_lt_of_pos _ (by decide)⟩
 obtain ⟨q, hq⟩ := Int.eq_ofNat_of_zero_le hm.1
 refine ⟨fun h => DLe.of_eq (by simp [reckI, wrapU, h]), fun h2 => ⟨fun h => DLe.of_eq (by simp [reckI, wrapU, h]), fun h3 => ⟨fun h => DLe.of_eq (by simp [reckI, wrapU, h]), fun h4 => ⟨fun h => DLe.of_eq (by simp [reckI, wrapU, h]), fun h5 => ⟨fun h => DLe.of_eq (by simp [reckI, wrapU, h]),
  fun h6 => ⟨fun h => DLe.of_eq (by simp [reckI, wrapU, h]), fun h7 => ⟨fun h => ?_, fun h8 => ⟨fun h => ?_, fun h9 => ?_⟩⟩⟩⟩⟩⟩⟩⟩
 ·refine call_plain (ds := [.u64 (b.tmod 64)]) _ (by simp) (by simp) (fun _ => rfl) (fun _ => by rw [hq]; exact power_pure q (by omega)) ?_
  simp
  refine DLe.of_eq ?_
  simp [reckI, wrapU, h, hq]
 ·refine call_plain (ds := [.u64 (b.tmod 64)]) _ (by simp) (by simp) (fun _ => rfl) (fun _ => by rw [hq]; exact power_pure q (by omega)) ?_
  simp
  refine ⟨powI_ne q (by omega), DLe.of_eq ?_⟩
  simp [reckI, wrapU, h, hq]
 ·refine ⟨fun h => ⟨h, fun h' => ⟨h, h'⟩⟩, fun h => ?_, fun h => DLe.of_eq ?_, fun h h' => DLe.of_eq ?_⟩
  ·by_cases h10 : op = 10
   ·exact .inr (h h10)
   ·exact .inl h10
  ·simp only [reckI, if_neg h2, if_neg h3, if_neg h4, if_neg h5, if_neg h6, if_neg h7, if_neg h8, if_neg h9, if_pos h]
  ·simp only [reckI, if_neg h2, if_neg h3, if_neg h4, if_neg h5, if_neg h6, if_neg h7, if_neg h8, if_neg h9]
   rw [if_neg]
   rintro (⟨h1, k⟩ | ⟨h1, k⟩)
   ·have := h h1; omega
   ·exact h' h1 k
theorem getI_some {l : List Int} {k : Nat} (h : k < l.length) : l[k]?.getD 0 = l[k] := by rw [List.getElem?_eq_getElem h]; rfl
set_option maxRecDepth 10000 in
theorem pick_pure (vals l : List Int) (hl : ∀ x ∈ l, 0 ≤ x ∧ x < vals.length) (h : l.length ≤ 1000) : APure Tryz.prog 53 [u64sD vals, intsD l] (u64sD (pickI vals l)) := by
 refine apureG _ _ Tryz.func53 (by kernel_rfl) t_marlineref07_pick u_marlineref07_pick rfl rfl (fun _ => ?_)
 simp [c_marlineref07_pick, r_marlineref07_pick]
 refine loop_s (κ := Nat) (fun k => k ≤ l.length) (fun k => l.length - k) (fun k => [(sl 6, .int k), (sl 5, .own 0 k)])
  (fun k => [(0, .row 43 1 k fun i => u64C ((pickI vals l)[i]?.getD 0))]) 1 0 (srcs [(0, .nil)]) (by simp) (by simp) ?_
 rintro k hk
 simp
 refine ⟨fun hlt => ?_, fun hge => ?_⟩
 ·have hx := hl _ (List.getElem_mem hlt)
  rw [getI_some hlt]
  refine ⟨hlt, hx, by omega, k + 1, by omega, by omega, srcs [(0, .id 14)], ?_⟩
  simp [SLeK]
  refine ⟨DLe_int (wrap_succ (by omega)), fun i hi => ?_⟩
  unfold appRow
  split
  ·rfl
  ·obtain rfl : i = k := by omega
   simp [pickI, valAt, hlt, u64C]
 ·obtain rfl : k = l.length := by omega
  exact DLe.of_eq (by simp only [u64sD, pickI_length])
set_option maxRecDepth 10000 in
theorem step_pure (w : Wd) (fuel : Nat) (hs : w.steps ≤ 1000000) : APure Tryz.prog 52 [.agg (worldC w), .int fuel] (.agg (worldC (stepW fuel w))) := by
 refine apureG _ _ Tryz.func52 (by kernel_rfl) t_marlineref07_step u_marlineref07_step rfl rfl (fun _ => ?_)
 simp [c_marlineref07_step, r_marlineref07_step]
 refine ⟨fun h => DLe.of_eq ?_, fun h => DLe.of_eq ?_⟩
 ·have h' : w.steps = fuel := by omega
  simp [worldC, stepW, h']
 ·have h' : ¬ w.steps = fuel := by omega
  rw [wrap_succ (by omega)]
  simp [worldC, stepW, h']
def InstIn2 (m : Module) (x : Inst) (n : Nat) : Prop :=
 (∀ v ∈ uses x, 0 ≤ v ∧ v < n) ∧ (x.op = 12 ∨ x.op = 13 → 0 ≤ globI m x.name ∧ globI m x.name < m.globs.length) ∧ 1 ≤ x.op ∧ x.op ≤ 16 ∧ x.op ≠ 14
set_option maxRecDepth 10000 in
theorem gives_pure (m : Module) (w : Wd) (inp : ByteArray) (x : Inst) (vals : List Int) (hin : InstIn2 m x vals.length) (hv : ∀ v ∈ vals, 0 ≤ v) (hg : w.globs.length = m.globs.length) (hgl : m.globs.length ≤ 16) (hr : w.read ≤ 1000000) (ho : w.out.size ≤ 1000000) :
  APure Tryz.prog 54 [.agg (moduleC m), .agg (worldC w), .str inp, .agg (instC x), u64sD vals] (.tup [.agg (worldC (givesW m inp x vals w).1), .u64 (givesW m inp x vals w).2]) := by
 refine apureG _ _ Tryz.func54 (by kernel_rfl) t_marlineref07_gives u_marlineref07_gives rfl rfl (fun _ => ?_)
 simp [c_marlineref07_gives, r_marlineref07_gives]
 refine ⟨fun h1 => DLe.of_eq (by simp [givesW, worldC, h1]), fun h1 => ⟨fun h12 => ?_, fun h12 => ⟨fun h13 => ?_, fun h13 => ⟨fun h15 => ?_, fun h15 => ⟨fun h16 => ?_, fun h16 => ?_⟩⟩⟩⟩⟩
 ·obtain ⟨g0, g1⟩ := hin.2.1 (.inl h12)
  refine call_plain (ds := [.agg (moduleC m), .str x.name]) _ (by simp) (by simp) (fun _ => rfl) (fun _ => findGlob_pure m x.name) ?_
  simp
  rw [show findI (fun f : Glob => decide (f.name = x.name)) m.globs = globI m x.name from rfl]
  exact ⟨⟨g0, by omega⟩, DLe.of_eq (by simp [givesW, worldC, h12, valAt])⟩
 ·obtain ⟨g0, g1⟩ := hin.2.1 (.inr h13)
  have hu := hin.1 x.a (by simp [uses, h13])
  refine ⟨by omega, ?_⟩
  refine call_plain (ds := [.agg (moduleC m), .str x.name]) _ (by simp) (by simp) (fun _ => rfl) (fun _ => findGlob_pure m x.name) ?_
  simp
  rw [show findI (fun f : Glob => decide (f.name = x.name)) m.globs = globI m x.name from rfl]
  refine ⟨hu, ⟨g0, by omega⟩, by omega, DLe.of_eq ?_⟩
  have e : (fun i => List.map AV.dv (if i = (globI m x.name).toNat then [AV.d (DV.lit (Value.int IntKind.u64 (vals[x.a.toNat]?.getD 0)))] else [AV.d (DV.lit (Value.int IntKind.u64 (w.globs[i]?.getD 0)))])) =
    fun i => u64C ((w.globs.set (globI m x.name).toNat (valAt vals x.a))[i]?.getD 0) := by
   funext i
   rw [List.getElem?_set]
   by_cases h : i = (globI m x.name).toNat
   ·rw [if_pos h, if_pos h.symm, if_pos (by omega)]
    rfl
   ·rw [if_neg h, if_neg (Ne.symm h)]
    rfl
  rw [e]
  simp [givesW, worldC, h13]
 ·refine ⟨fun h => DLe.of_eq (by simp [givesW, worldC, h15, h]), fun h => ?_⟩
  rw [wrap_succ (by omega)]
  rw [show IntKind.i64.wrap (((w.read + 1 : Nat) : Int) - 1) = (w.read : Int) from by rw [wrap_in (by omega)]; omega]
  refine ⟨⟨by omega, by omega⟩, DLe.of_eq ?_⟩
  have h' : ¬ inp.size ≤ w.read := by omega
  simp [givesW, worldC, h15, h', wrapU]
 ·have hu := hin.1 x.a (by simp [uses, h16])
  refine ⟨hu, ?_, DLe.of_eq (by simp [givesW, worldC, h16, byteS, valAt])⟩
  have : (pushB [IntKind.u8.wrap ((vals[x.a.toNat]?.getD 0).tmod 256)]).size = 1 := rfl
  omega
 ·have ho2 : 2 ≤ x.op ∧ x.op ≤ 11 := by
   obtain ⟨_, _, a1, a2, a3⟩ := hin
   omega
  have hu := hin.1 x.a (by simp [uses, ho2])
  have hu' := hin.1 x.b (by simp [uses, ho2])
  refine ⟨hu, hu', ?_⟩
  refine call_plain (ds := [.int x.op, .u64 (valAt vals x.a), .u64 (valAt vals x.b)]) _ (by simp) (by simp) (fun _ => rfl) (fun _ => reckon_pure x.op _ _ (valAt_nonneg hv _) (valAt_nonneg hv _)) ?_
  simp
  exact DLe.of_eq (by simp [givesW, worldC, h1, h12, h13, h15, h16])
def c_marlineref07_call : ACode :=
 (.seq (.reg [Ro 8 (.box true (Sv 0)), Ro 9 (.box false (Sv 1)), Ro 16 (.new [(.bool false), (.int .u64 0), (.string ⟨#[]⟩), (.int .i64 0), (.int .i64 0), (.int .i64 0), (.slice none 0 0), (.int .i64 0)]), Ro 17 (.mv (.c (.int .u64 0)))])
 (.seq (.seq (.reg [Ro 25 (Mv 5), Ro 26 (Fd 9 0), Ro 27 (Fd 26 5), Ro 28 (.ld false (Sv 27) none), Ro 29 (.bin .gtr (Sv 25) (Sv 28))])
 (.cond (Sv 29)
 (.reg [Ro 30 (Mv 5), Ro 31 (Fd 9 0), Ro 32 (Fd 31 5), Rn (.st (Sv 32) (Sv 30) 1)])
 .skip))
 (.seq (.seq (.reg [Rl 33 (Fd 8 0) 0, Rl 34 (Ld 33) 1, Rl 35 (Lk 8 2) 2, Rl 36 (Mv 3) 3, Rl 37 (.call true (.f 21) [Sv 35, Sv 36]) 4, Rl 38 (.idx true (Sv 34) (Sv 37) 4) 5, Rl 39 (Lk 38 4) 6, Rl 18 (.new [(.string ⟨#[]⟩), (.int .i64 0), (.int .i64 0), (.slice none 0 0)]) 7, Rn (.ini 1 (Sv 18) (Sv 39) 4)])
 (.frz (sl 18)))
 (.seq (.reg [Ro 19 (.mv (Ci 0))])
 (.seq (.seq (.reg [Ro 40 (Mv 4), Ro 20 (Mv 40)])
 (.frz (sl 20)))
 (.block 0
 (.loop (.block 1
 (.seq (.seq (.reg [Ro 41 (Fd 18 3), Ro 42 (Ld 41), Ro 43 (Mv 19), Ro 44 (.idx true (Sv 42) (Sv 43) 8), Ro 45 (Lk 44 8), Ro 21 (.new [(.int .i64 0), (.slice none 0 0), (.int .i64 0), (.int .i64 0), (.int .i64 0), (.slice none 0 0), (.int .i64 0), (.slice none 0 0)]), Rn (.ini 1 (Sv 21) (Sv 45) 8)])
 (.frz (sl 21)))
 (.seq (.seq (.reg [Ro 22 (.mv (Ci 0))])
 (.block 2
 (.loop (.seq (.seq (.reg [Ro 46 (Mv 22), Ro 47 (Fd 21 1), Ro 48 (Ld 47), Ro 49 (.len false (Sv 48)), Ro 50 (.bin .lss (Sv 46) (Sv 49))])
 (.cond (Sv 50)
 .skip
 (.exit 2)))
 (.seq (.block 3
 (.seq (.seq (.reg [Ro 53 (Fd 21 1), Ro 54 (Ld 53), Ro 55 (Mv 22), Ro 56 (.idx true (Sv 54) (Sv 55) 6), Ro 57 (Lk 56 6), Ro 23 (.new [(.int .i64 0), (.int .i64 0), (.int .i64 0), (.int .u64 0), (.string ⟨#[]⟩), (.slice none 0 0)]), Rn (.ini 1 (Sv 23) (Sv 57) 6)])
 (.frz (sl 23)))
 (.seq (.reg [Ro 58 (.ld false (Sv 9) (some 8)), Ro 59 (Mv 6), Ro 60 (.call false (.f 52) [Sv 58, Sv 59]), Rn (.st (Sv 9) (Sv 60) 8)])
 (.seq (.seq (.reg [Ro 61 (Fd 9 7), Ro 62 (.ld false (Sv 61) none), Ro 63 (.bin .neq (Sv 62) (Ci 0))])
 (.cond (Sv 63)
 (.seq (.reg [Ro 64 (.ld false (Sv 9) (some 8)), Rn (.st (Sv 16) (Sv 64) 8), Ro 17 (.mv (.c (.int .u64 0)))])
 .ret)
 .skip))
 (.seq (.reg [Ro 24 (.mv (.c (.int .u64 0)))])
 (.seq (.seq (.reg [Ro 65 (Fd 23 0), Ro 66 (Ld 65), Ro 67 (.bin .eql (Sv 66) (Ci 14))])
 (.cond (Sv 67)
 (.seq (.seq (.reg [Ro 68 (Mv 5), Ro 69 (Mv 7), Ro 70 (.bin .eql (Sv 68) (Sv 69))])
 (.cond (Sv 70)
 (.seq (.reg [Ro 71 (Fd 9 7), Rn (.st (Sv 71) (Ci 13) 1)])
 (.seq (.reg [Ro 72 (.ld false (Sv 9) (some 8)), Rn (.st (Sv 16) (Sv 72) 8), Ro 17 (.mv (.c (.int .u64 0)))])
 .ret))
 .skip))
 (.seq (.reg [Rl 74 (Lk 8 2) 0, Rl 75 (.ld false (Sv 9) (some 8)) 1, Rl 76 (Mv 2) 2, Rl 77 (Fd 23 4) 3, Rl 78 (Ld 77) 4, Rl 79 (Mv 20) 5, Rl 80 (Fd 23 5) 6, Rl 81 (Ld 80) 7, Rl 82 (.call false (.f 53) [Sv 79, Sv 81]) 8, Rl 83 (Mv 5) 9, Rl 84 (.bin .add (Sv 83) (Ci 1)) 10, Rl 85 (Mv 6) 11, Rl 86 (Mv 7) 12, Rl 87 (.call false (.f 32) [Sv 74, Sv 75, Sv 76, Sv 78, Sv 82, Sv 84, Sv 85, Sv 86]) 13, Rl 73 (Mv 87) 14, Rl 88 (.ext (Sv 73) 0) 15, Rl 89 (.ext (Sv 73) 1) 16, ⟨none, none, (.st (Sv 9) (Sv 88) 8), (some (17, []))⟩, Rl 24 (Mv 89) 18])
 (.seq (.reg [Ro 90 (Fd 9 7), Ro 91 (.ld false (Sv 90) none), Ro 92 (.bin .neq (Sv 91) (Ci 0))])
 (.cond (Sv 92)
 (.seq (.reg [Ro 93 (.ld false (Sv 9) (some 8)), Rn (.st (Sv 16) (Sv 93) 8), Ro 17 (.mv (.c (.int .u64 0)))])
 .ret)
 .skip))))
 (.reg [Ro 95 (Lk 8 2), Ro 96 (.ld false (Sv 9) (some 8)), Ro 97 (Mv 2), Ro 98 (Lk 23 6), Ro 99 (Mv 20), Ro 100 (.call false (.f 54) [Sv 95, Sv 96, Sv 97, Sv 98, Sv 99]), Ro 94 (Mv 100), Ro 101 (.ext (Sv 94) 0), Ro 102 (.ext (Sv 94) 1), Rn (.st (Sv 9) (Sv 101) 8), Ro 24 (Mv 102)])))
 (.seq (.reg [Ro 103 (.nrow 43 1), Ro 104 (Mv 20), Ro 105 (.app 43 1 8 (Sv 103) (Sv 104)), Ro 106 (Mv 24), Ro 107 (.mksl 1 1 [(.int .u64 0)] [(0, 1, (Sv 106))]), Ro 108 (.app 43 1 8 (Sv 105) (Sv 107)), Ro 20 (Mv 108)])
 (.frz (sl 20)))))))))
 (.reg [Ro 51 (Mv 22), Ro 52 (.bin .add (Sv 51) (Ci 1)), Ro 22 (Mv 52)]))))))
 (.seq (.reg [Ro 109 (.ld false (Sv 9) (some 8)), Ro 110 (Mv 6), Ro 111 (.call false (.f 52) [Sv 109, Sv 110]), Rn (.st (Sv 9) (Sv 111) 8)])
 (.seq (.seq (.reg [Ro 112 (Fd 9 7), Ro 113 (.ld false (Sv 112) none), Ro 114 (.bin .neq (Sv 113) (Ci 0))])
 (.cond (Sv 114)
 (.seq (.reg [Ro 115 (.ld false (Sv 9) (some 8)), Rn (.st (Sv 16) (Sv 115) 8), Ro 17 (.mv (.c (.int .u64 0)))])
 .ret)
 .skip))
 (.seq (.seq (.reg [Ro 116 (Fd 21 2), Ro 117 (Fd 116 0), Ro 118 (Ld 117), Ro 119 (.bin .eql (Sv 118) (Ci 3))])
 (.cond (Sv 119)
 (.seq (.reg [⟨(some (sl 120)), none, (.ld false (Sv 9) (some 8)), (some (0, [(sl 16)]))⟩, ⟨(some (sl 121)), none, (Mv 20), (some (1, [(sl 16)]))⟩, ⟨(some (sl 122)), none, (Fd 21 2), (some (2, [(sl 16)]))⟩, ⟨(some (sl 123)), none, (Fd 122 1), (some (3, [(sl 16)]))⟩, ⟨(some (sl 124)), none, (Ld 123), (some (4, [(sl 16)]))⟩, ⟨(some (sl 125)), none, (.idx false (Sv 121) (Sv 124) 1), (some (5, [(sl 16)]))⟩, ⟨(some (sl 126)), none, (.ld false (Sv 125) none), (some (6, [(sl 16)]))⟩, ⟨none, none, (.st (Sv 16) (Sv 120) 8), (some (7, [(sl 16)]))⟩, ⟨(some (sl 17)), none, (Mv 126), (some (8, [(sl 16)]))⟩])
 .ret)
 .skip))
 (.seq (.reg [Ro 127 (Fd 21 2), Ro 128 (Fd 127 0), Ro 129 (Ld 128), Ro 130 (.bin .eql (Sv 129) (Ci 2)), Ro 131 (Mv 130), Rg 132 131 true (Mv 20), Rg 133 131 true (Fd 21 2), Rg 134 131 true (Fd 133 1), Rg 135 131 true (Ld 134), Rg 136 131 true (.idx false (Sv 132) (Sv 135) 1), Rg 137 131 true (.ld false (Sv 136) none), Rg 138 131 true (.bin .eql (Sv 137) (.c (.int .u64 0))), Ro 139 (.pick (Sv 131) (Sv 138) (.c (.bool false)))])
 (.cond (Sv 139)
 (.seq (.reg [Ro 140 (Fd 21 2), Ro 141 (Fd 140 4), Ro 142 (Ld 141), Ro 19 (Mv 142)])
 (.seq (.reg [Ro 143 (Mv 20), Ro 144 (Fd 21 2), Ro 145 (Fd 144 5), Ro 146 (Ld 145), Ro 147 (.call false (.f 53) [Sv 143, Sv 146]), Ro 20 (Mv 147)])
 (.frz (sl 20))))
 (.seq (.reg [Ro 148 (Fd 21 2), Ro 149 (Fd 148 2), Ro 150 (Ld 149), Ro 19 (Mv 150)])
 (.seq (.reg [Ro 151 (Mv 20), Ro 152 (Fd 21 2), Ro 153 (Fd 152 3), Ro 154 (Ld 153), Ro 155 (.call false (.f 53) [Sv 151, Sv 154]), Ro 20 (Mv 155)])
 (.frz (sl 20)))))))))))))))))))
def r_marlineref07_call : List ARes := [(.cell (sl 16) (some 8)), (.tmp (sl 17))]
theorem t_marlineref07_call : (Tryz.f32).body.bind (trCode Tryz.prog 8 (Tryz.f32).ntmps [9, 16, 17, 20, 26, 27, 28, 31, 32, 58, 61, 62, 64, 71, 72, 75, 79, 90, 91, 93, 96, 99, 104, 105, 108, 109, 112, 113, 115, 120, 121, 125, 126, 132, 136, 137, 143, 151] [(3000020, 0, 1)] (drOk 8)) = some c_marlineref07_call := by kernel_rfl
theorem u_marlineref07_call : trRess Tryz.prog 8 (Tryz.f32).results.toList = some r_marlineref07_call := by kernel_rfl
structure CallIn (m : Module) (fuel deep : Nat) (w : Wd) (name : ByteArray) (args : List Int) (n : Nat) (f : Func) : Prop where
 good : Good m fuel w
 pos : ∀ v ∈ args, 0 ≤ v
 n1 : 1 ≤ n
 nd : n ≤ deep
 found : findF m name = some f
 has : 0 < f.blocks.length
 len : (args.length : Int) = f.params
theorem u64sD_snoc {l : List Int} {v : Int} : DLe (.sl 1 (l.length + 1) (appRow l.length (fun k => u64C (l[k]?.getD 0)) fun i => List.take 1 (List.drop i [DV.u64 v]))) (u64sD (l ++ [v])) := by
 refine u64sD_le (by simp) fun i hi => ?_
 unfold appRow
 split
 ·rename_i h
  rw [List.getElem_append_left h]
  simp only [List.getElem?_eq_getElem h]
  rfl
 ·rename_i h
  have : i = l.length := by simp at hi; omega
  subst this
  simp [u64C]
theorem instIn2_of {m : Module} (hok : ModOk m) {f : Func} (hf : f ∈ m.funcs) {x : Inst} (hx : x ∈ allIns f) {n : Nat} (h : instOk x n = true) (h14 : ¬ x.op = 14) : InstIn2 m x n := by
 have ho := instOk_op h
 exact ⟨belowB_mem (instOk_below h), globI_in hok hf hx, ho.1, ho.2, h14⟩
set_option maxRecDepth 10000 in
set_option maxHeartbeats 2000000 in
theorem call_pure (m : Module) (hw : wholeE m = 0) (inp : ByteArray) (fuel deep : Nat) (hfu : fuel ≤ 100000) (hde : deep ≤ 64) : ∀ (g : Nat) (w : Wd) (name : ByteArray) (args : List Int) (n : Nat) (f : Func), CallIn m fuel deep w name args n f → fuel < g + w.steps →
    APure Tryz.prog 32 [.agg (moduleC m), .agg (worldC w), .str inp, .str name, u64sD args, .int n, .int fuel, .int deep]
      (.tup [.agg (worldC (goF m inp fuel deep (enterW n w) f 0 0 args n).1), .u64 (goF m inp fuel deep (enterW n w) f 0 0 args n).2]) := by
  obtain ⟨hok, hmain, hthere⟩ := wholeE_zero.1 hw
  intro g
  induction g with
  | zero => intro w name args n f h hg; have := h.good.steps; omega
  | succ g ih =>
    intro w name args n f hc hg
    refine apureG _ _ Tryz.func32 (by kernel_rfl) t_marlineref07_call u_marlineref07_call rfl rfl (fun _ => ?_)
    simp [c_marlineref07_call, r_marlineref07_call]
    obtain ⟨k, hk, h1, h2⟩ | ⟨_, h2⟩ := leads_eq m name
    rotate_left
    · rw [hc.found] at h2; cases h2
    have hf : m.funcs[k] = f := by
      have := hc.found
      rw [h2] at this
      injection this
    have hfm : f ∈ m.funcs := by rw [← hf]; exact List.getElem_mem hk
    have hfo := hok.funcs f hfm
    have hn := hc.nd
    have hgood := hc.good.enter n
    have hst : (enterW n w).steps = w.steps := enterW_steps n w
    have hst0 := hc.good.steps
    have hR : ∃ R, goF m inp fuel deep (enterW n w) f 0 0 args n = R := ⟨_, rfl⟩
    obtain ⟨R, hR⟩ := hR
    rw [hR]
    obtain ⟨W, hW⟩ : ∃ W, enterW n w = W := ⟨_, rfl⟩
    have hW2 := hW
    rw [hW] at hgood hst hR
    unfold enterW at hW2
    refine ⟨fun hd => ?_, fun hd => ?_⟩
    all_goals (first | rw [if_pos hd] at hW2 | rw [if_neg (by omega)] at hW2)
    all_goals refine call_plain (ds := [.agg (moduleC m), .str name]) _ (by simp) (by simp) (fun _ => rfl) (fun _ => findFunc_pure m name) ?_
    all_goals simp
    all_goals rw [h1]
    all_goals simp only [Int.toNat_natCast, getD_some hk, hf]
    all_goals refine ⟨⟨by omega, by omega⟩, ?_⟩
    all_goals subst hW2
    all_goals
     refine loop_s (κ := Wd × Nat × List Int) (fun q => Good m fuel q.1 ∧ w.steps ≤ q.1.steps ∧ (∃ b, f.blocks[q.2.1]? = some b ∧ (q.2.2.length : Int) = b.params) ∧ (∀ v ∈ q.2.2, 0 ≤ v) ∧ goF m inp fuel deep q.1 f q.2.1 0 q.2.2 n = R) (fun q => fuel + 1 - q.1.steps)
       (fun q => [(sl 19, .int q.2.1), (sl 20, .d (u64sD q.2.2))])
       (fun q => [(1, .box ((worldC q.1).map .d)), (2, .box [.d (.bool false), .d (.u64 0), .d (.str ⟨#[]⟩), .d (.int 0), .d (.int 0), .d (.int 0), .d (.lit (.slice none 0 0)), .d (.int 0)])]) 3 (_, 0, args) (srcs [(1, .id 1), (2, .id 2)])
       ⟨hgood, Nat.le_of_eq hst.symm, ⟨_, List.getElem?_eq_getElem hc.has, by rw [funcOk_first hfo hc.has]; exact hc.len⟩, hc.pos, hR⟩ (by simp) ?_
     rintro ⟨w1, at1, vs1⟩ ⟨hg1, hst1, ⟨b, hb, hlen⟩, hpos, hR1⟩
     simp at hg1 hst1 hb hlen hpos hR1 ⊢
     have hat : at1 < f.blocks.length := (List.getElem?_eq_some_iff.1 hb).1
     have hbk : blockOk f b = true := by
       have := funcOk_block hfo hat
       rwa [(List.getElem?_eq_some_iff.1 hb).2] at this
     obtain ⟨hp0, hp6, hi32, hins, hend⟩ := blockOk_parts hbk
     have hbm : b ∈ f.blocks := List.mem_of_getElem? hb
     refine ⟨hat, ?_⟩
     simp only [hb, Option.getD_some]
     refine loop_s (κ := Nat × Wd × List Int) (fun q => q.1 ≤ b.ins.length ∧ Good m fuel q.2.1 ∧ w1.steps ≤ q.2.1.steps ∧ (q.2.2.length : Int) = b.params + q.1 ∧ (∀ v ∈ q.2.2, 0 ≤ v) ∧ goF m inp fuel deep q.2.1 f at1 q.1 q.2.2 n = R) (fun q => b.ins.length - q.1)
       (fun q => [(sl 22, .int q.1), (sl 20, .d (u64sD q.2.2))])
       (fun q => [(1, .box ((worldC q.2.1).map .d)), (2, .box [.d (.bool false), .d (.u64 0), .d (.str ⟨#[]⟩), .d (.int 0), .d (.int 0), .d (.int 0), .d (.lit (.slice none 0 0)), .d (.int 0)])]) 3 (0, w1, vs1) (srcs [(1, .id 1), (2, .id 2)])
       ⟨by simp, hg1, Nat.le_refl _, by simpa using hlen, hpos, hR1⟩ (by simp) ?_
     rintro ⟨i, w2, vs2⟩ ⟨hi, hg2, hst2, hlen2, hpos2, hR2⟩
     simp at hi hg2 hst2 hlen2 hpos2 hR2 ⊢
     have hs2 := hg2.steps
     refine ⟨fun hlt => ⟨hlt, ?_⟩, fun hge => ?_⟩
     · rw [getD_some hlt]
       obtain ⟨x, hx⟩ : ∃ x, b.ins[i] = x := ⟨_, rfl⟩
       have hx? : b.ins[i]? = some x := by rw [List.getElem?_eq_getElem hlt, hx]
       have hxi : x ∈ allIns f := List.mem_flatMap.2 ⟨b, hbm, List.mem_of_getElem? hx?⟩
       have hxo : instOk x vs2.length = true := by
         have := hins i hlt
         rw [hx] at this
         rw [hlen2]; exact this
       simp only [hx]
       refine call_plain (ds := [.agg (worldC w2), .int fuel]) _ (by simp) (by simp) (fun _ => by simp; rfl) (fun _ => step_pure w2 fuel (by omega)) ?_
       simp
       have hover : ¬ (stepW fuel w2).bad = 0 → R = (stepW fuel w2, 0) := fun h => by rw [← hR2]; exact goF_over hg2 ((stepW_bad hg2.bad).1 h)
       refine ⟨fun h => by rw [hover h]; exact DLe.refl _, fun hbad => ?_⟩
       have hs : ¬ w2.steps = fuel := fun h => (stepW_bad hg2.bad).2 h hbad
       have hg3 := hg2.step hs
       have hst3 : (stepW fuel w2).steps = w2.steps + 1 := by rw [stepW_go hs]
       have hp3 := step_pos hg2 hs
       refine ⟨fun h14 => ⟨fun hnd => ?_, fun hnd => ?_⟩, fun h14 => ?_⟩
       · have e := goF_deep (m := m) (inp := inp) (vals := vs2) hg2 hs hb hx? h14 (by omega : n = deep)
         rw [hR2] at e
         rw [e]
         exact DLe.refl _
       · refine call_plain (ds := [u64sD vs2, intsD x.args]) _ (by simp) (by simp) (fun _ => by simp) (fun _ => pick_pure vs2 x.args ?_ (by have := instOk_args hxo; omega)) ?_
         · intro v hv
           obtain ⟨j, hj, rfl⟩ := List.getElem_of_mem hv
           have hu := instOk_below hxo
           have hue : uses x = x.args := by unfold uses; rw [if_neg (by omega), if_neg (by omega), if_pos h14]
           rw [hue] at hu
           exact belowB_at hu hj
         simp
         obtain ⟨f', hf', hfn, hfp⟩ := hok.call (mem_insM hfm hxi) h14
         have hff : findF m x.name = some f' := by rw [← hfn]; exact findF_uniq hok hf'
         have hth := hthere x.name (List.mem_flatMap.2 ⟨f, hfm, List.mem_map.2 ⟨x, List.mem_filter.2 ⟨hxi, isNamed_iff.2 (.inr (.inr h14))⟩, rfl⟩⟩)
         have hbl : 0 < f'.blocks.length := by
           unfold thereB at hth
           rw [hff] at hth
           have : f'.blocks.length ≠ 0 := by simpa using hth
           omega
         have hfo' : funcOf m x.name = f' := by unfold funcOf; rw [hff]; rfl
         have hn1 := hc.n1
         have hcin : CallIn m fuel deep (stepW fuel w2) x.name (pickI vs2 x.args) (n + 1) f' := ⟨hg3, pickI_nonneg hpos2 _, by omega, by omega, hff, hbl, by rw [pickI_length]; exact hfp.symm⟩
         obtain ⟨r, hr⟩ : ∃ r, goF m inp fuel deep (enterW (n + 1) (stepW fuel w2)) f' 0 0 (pickI vs2 x.args) (n + 1) = r := ⟨_, rfl⟩
         have hcall := ih (stepW fuel w2) x.name (pickI vs2 x.args) (n + 1) f' hcin (by omega)
         rw [hr] at hcall
         refine call_plain (ds := [.agg (moduleC m), .agg (worldC (stepW fuel w2)), .str inp, .str x.name, u64sD (pickI vs2 x.args), .int ((n + 1 : Nat) : Int), .int fuel, .int deep]) _ (by simp) (by simp) (fun _ => by simp [wrap_succ (show n < 9223372036854775807 by omega)]; exact ⟨rfl, rfl⟩) (fun _ => hcall) ?_
         simp
         have hgood4 := goR_good (inp := inp) (deep := deep) (fuel + 1) (enterW (n + 1) (stepW fuel w2)) f' 0 0 (pickI vs2 x.args) (n + 1) (hg3.enter _) (pickI_nonneg hpos2 _)
         rw [show goR m inp fuel deep (fuel + 1) (enterW (n + 1) (stepW fuel w2)) f' 0 0 (pickI vs2 x.args) (n + 1) = r from hr] at hgood4
         rw [enterW_steps] at hgood4
         obtain ⟨a1, a2, a3, a4, a5⟩ := hgood4
         have hstepc := goF_call (m := m) (inp := inp) hg2 hpos2 hs hb hx? h14 (by omega : ¬ n = deep) (r := r) (by rw [hfo']; exact hr)
         rw [hR2] at hstepc
         refine ⟨fun hb2 => ?_, fun hb2 => ?_⟩
         · rw [if_pos hb2] at hstepc
           rw [hstepc]
           exact DLe.refl _
         · rw [if_neg (fun h => h hb2)] at hstepc
           refine ⟨by omega, by omega, i + 1, r.1, vs2 ++ [r.2], ⟨by omega, a3 hb2, by omega, by simp; omega, ?_, hstepc.symm⟩, by omega, srcs [(1, .id 1), (2, .id 2)], ?_⟩
           · intro v hv
             rcases List.mem_append.1 hv with hv | hv
             · exact hpos2 v hv
             · rw [List.mem_singleton.1 hv]; exact a4
           simp [SLeK]
           exact ⟨u64sD_snoc, DLe_int (wrap_succ (by omega))⟩
       · obtain ⟨c1, c2, c3⟩ := hg2.gives hs inp x hpos2
         have hstepc := goF_plain (m := m) (inp := inp) (deep := deep) (n := n) hg2 hpos2 hs hb hx? h14
         rw [hR2] at hstepc
         have hin : InstIn2 m x vs2.length := instIn2_of hok hfm hxi hxo h14
         refine call_plain (ds := [.agg (moduleC m), .agg (worldC (stepW fuel w2)), .str inp, .agg (instC x), u64sD vs2]) _ (by simp) (by simp) (fun _ => by simp; exact ⟨rfl, rfl, rfl⟩) (fun _ => gives_pure m (stepW fuel w2) inp x vs2 hin hpos2 hg3.globs hok.ng (by have := hg3.read; omega) (by have := hg3.out; omega)) ?_
         simp
         obtain ⟨r, hr⟩ : ∃ r, givesW m inp x vs2 (stepW fuel w2) = r := ⟨_, rfl⟩
         rw [hr] at c1 c2 c3 hstepc
         simp only [hr]
         refine ⟨by omega, by omega, i + 1, r.1, vs2 ++ [r.2], ⟨by omega, c1, by omega, by simp; omega, ?_, hstepc.symm⟩, by omega, srcs [(1, .id 1), (2, .id 2)], ?_⟩
         · intro v hv
           rcases List.mem_append.1 hv with hv | hv
           · exact hpos2 v hv
           · rw [List.mem_singleton.1 hv]; exact c2
         simp [SLeK]
         exact ⟨u64sD_snoc, DLe_int (wrap_succ (by omega))⟩
     · obtain rfl : i = b.ins.length := by omega
       refine call_plain (ds := [.agg (worldC w2), .int fuel]) _ (by simp) (by simp) (fun _ => by simp; rfl) (fun _ => step_pure w2 fuel (by omega)) ?_
       simp
       have hover : ¬ (stepW fuel w2).bad = 0 → R = (stepW fuel w2, 0) := fun h => by rw [← hR2]; exact goF_over hg2 ((stepW_bad hg2.bad).1 h)
       refine ⟨fun h => by rw [hover h]; exact DLe.refl _, fun hbad => ?_⟩
       have hs : ¬ w2.steps = fuel := fun h => (stepW_bad hg2.bad).2 h hbad
       have hg3 := hg2.step hs
       have hst3 : (stepW fuel w2).steps = w2.steps + 1 := by rw [stepW_go hs]
       have hp3 := step_pos hg2 hs
       have hends := endB_parts hend
       have hk2of : b.kind = 2 → 0 ≤ b.ta ∧ b.ta < b.params + b.ins.length ∧ goesB f b.to b.args (b.params + b.ins.length) = true ∧ goesB f b.els b.elses (b.params + b.ins.length) = true := fun h2 => by
         rcases hends with ⟨h, _⟩ | ⟨_, h⟩ | ⟨h, _⟩
         · omega
         · exact h
         · omega
       have hto : ¬ b.kind = 3 → goesB f b.to b.args (b.params + b.ins.length) = true := fun h3 => by
         rcases hends with ⟨_, h⟩ | ⟨_, _, _, h, _⟩ | ⟨h, _⟩
         · exact h
         · exact h
         · omega
       refine ⟨fun hk3 => ⟨?_, ?_⟩, fun hk3 => ⟨fun hk2 => ?_, fun hk2 hz => ?_, fun hz => ?_⟩⟩
       · rcases hends with ⟨h, _⟩ | ⟨h, _⟩ | ⟨_, h⟩
         · omega
         · omega
         · omega
       · have e := goF_ret (m := m) (inp := inp) (deep := deep) (n := n) (vals := vs2) hg2 hs hb (Nat.le_refl _) hk3
         rw [hR2] at e
         rw [e]
         exact DLe.refl _
       · have := hk2of hk2
         omega
       · obtain ⟨_, _, _, hgo⟩ := hk2of hk2
         obtain ⟨g0, g1, g2⟩ := goes_there hfo hgo
         have hbel := belowB_mem (goesB_belowB hgo)
         have g1' : ∃ b', f.blocks[b.els.toNat]? = some b' ∧ ((pickI vs2 b.elses).length : Int) = b'.params := by rw [pickI_length]; exact g1
         refine call_plain (ds := [u64sD vs2, intsD b.elses]) _ (by simp) (by simp) (fun _ => by simp) (fun _ => pick_pure vs2 b.elses (by rw [hlen2]; exact hbel) (by omega)) ?_
         simp
         refine ⟨stepW fuel w2, b.els.toNat, pickI vs2 b.elses, ⟨hg3, by omega, g1', pickI_nonneg hpos2 _, ?_⟩, by omega, srcs [(1, .id 1), (2, .id 2)], ?_⟩
         · rw [← hR2]
           exact (goF_else hg2 hpos2 hs hb (Nat.le_refl _) hk3 ⟨hk2, hz⟩).symm
         simp [SLeK]
         exact DLe_int (by omega)
       · have hgo := hto hk3
         obtain ⟨g0, g1, g2⟩ := goes_there hfo hgo
         have hbel := belowB_mem (goesB_belowB hgo)
         have g1' : ∃ b', f.blocks[b.to.toNat]? = some b' ∧ ((pickI vs2 b.args).length : Int) = b'.params := by rw [pickI_length]; exact g1
         refine call_plain (ds := [u64sD vs2, intsD b.args]) _ (by simp) (by simp) (fun _ => by simp) (fun _ => pick_pure vs2 b.args (by rw [hlen2]; exact hbel) (by omega)) ?_
         simp
         refine ⟨stepW fuel w2, b.to.toNat, pickI vs2 b.args, ⟨hg3, by omega, g1', pickI_nonneg hpos2 _, ?_⟩, by omega, srcs [(1, .id 1), (2, .id 2)], ?_⟩
         · rw [← hR2]
           exact (goF_to hg2 hpos2 hs hb (Nat.le_refl _) hk3 (fun h => hz h.1 h.2)).symm
         simp [SLeK]
         exact DLe_int (by omega)
def traceC (w : Wd) : List DV := [.bool w.ended, .u64 w.code, .str w.out, .int w.read, .int w.steps, .int w.deep]
@[simp] theorem traceC_length (x : Wd) : (traceC x).length = 6 := rfl
@[simp] theorem traceC_cells (x : Wd) : (∀ d, d ∈ traceC x → d.cell = true) ↔ True := by unfold traceC; simp
@[simp] theorem traceC_len? (x : Wd) : (traceC x)[6]? = none := rfl
@[simp] theorem traceC_map (w : Wd) : (traceC w).map AV.d = [.d (.bool w.ended), .d (.u64 w.code), .d (.str w.out), .d (.int w.read), .d (.int w.steps), .d (.int w.deep)] := rfl
def errW (e : Int) : Wd := ⟨false, 0, ⟨#[]⟩, 0, 0, 0, [], e⟩
def runA (m : Module) (inp : ByteArray) (fuel deep : Int) : Wd :=
 if fuel < 0 ∨ 100000 < fuel ∨ deep < 1 ∨ 64 < deep then errW 1 else if wholeE m ≠ 0 then errW (wholeE m) else runR m inp fuel.toNat deep.toNat
set_option maxRecDepth 10000 in
set_option maxHeartbeats 1000000 in
theorem run_pure (m : Module) (hm : ArgsOk m) (inp : ByteArray) (fuel deep : Int) : APure Tryz.prog 17 [.agg (moduleC m), .str inp, .int fuel, .int deep] (.tup [.agg (traceC (runA m inp fuel deep)), .int (runA m inp fuel deep).bad]) := by
  refine apureG _ _ Tryz.func17 (by kernel_rfl) t_marlineref07_Run u_marlineref07_Run rfl rfl (fun _ => ?_)
  simp [c_marlineref07_Run, r_marlineref07_Run]
  refine ⟨fun h => DLe.of_eq ?_, fun h0 h1 h2 h3 => ?_⟩
  · have e : runA m inp fuel deep = errW 1 := if_pos (by omega)
    rw [e]
    rfl
  have hno : ¬ (fuel < 0 ∨ 100000 < fuel ∨ deep < 1 ∨ 64 < deep) := by omega
  refine call_plain (ds := [.agg (moduleC m)]) _ (by simp) (by simp) (fun _ => by simp; rfl) (fun _ => whole_any m hm) ?_
  simp
  refine ⟨fun hz => DLe.of_eq ?_, fun hz => ?_⟩
  · have e : runA m inp fuel deep = errW (wholeE m) := by unfold runA; rw [if_neg hno, if_pos hz]
    rw [e]
    rfl
  have er : runA m inp fuel deep = runR m inp fuel.toNat deep.toNat := by unfold runA; rw [if_neg hno, if_neg (fun h => h hz)]
  rw [er]
  have hg16 := (wholeE_zero.1 hz).1.ng
  refine loop_s (κ := Nat) (fun k => k ≤ m.globs.length) (fun k => m.globs.length - k) (fun k => [(sl 12, .int k)])
    (fun k => [(0, .row 43 1 k fun i => u64C ((startW m).globs[i]?.getD 0)), (1, .box ((traceC (errW 0)).map .d)), (23, .box ((traceC (errW 0)).map .d ++ [.own 0 k, .d (.int 0)]))]) 24 0 (srcs [(0, .nil), (1, .id 1), (23, .id 23)]) (by simp) (by simp [errW]) ?_
  rintro k hk
  simp
  refine ⟨fun hlt => ?_, fun hge => ?_⟩
  · refine ⟨hlt, by omega, k + 1, by omega, by omega, srcs [(0, .id 38), (1, .id 1), (23, .id 23)], ?_⟩
    simp [SLeK]
    refine ⟨DLe_int (wrap_succ (by omega)), fun i hi => ?_⟩
    unfold appRow
    split
    · rfl
    · obtain rfl : i = k := by omega
      simp [startW, hlt, u64C]
  · obtain rfl : k = m.globs.length := by omega
    obtain ⟨R, hR⟩ : ∃ R, goF m inp fuel.toNat deep.toNat (enterW 1 (startW m)) (funcOf m mainS) 0 0 [] 1 = R := ⟨_, rfl⟩
    have hrun : runR m inp fuel.toNat deep.toNat = if R.1.bad ≠ 0 then R.1 else { R.1 with ended := true, code := R.2 } := by rw [← hR]; rfl
    have hcall : APure Tryz.prog 32 [.agg (moduleC m), .agg (worldC (startW m)), .str inp, .str mainS, u64sD [], .int 1, .int fuel, .int deep] (.tup [.agg (worldC R.1), .u64 R.2]) := by
      obtain ⟨hok, hmain, hthere⟩ := wholeE_zero.1 hz
      unfold mainB at hmain
      cases hf : findF m mainS with
      | none => rw [hf] at hmain; cases hmain
      | some f =>
        rw [hf] at hmain
        simp only [Bool.and_eq_true, decide_eq_true_eq] at hmain
        have e1 : funcOf m mainS = f := by unfold funcOf; rw [hf]; rfl
        rw [e1] at hR
        have := call_pure m hz inp fuel.toNat deep.toNat (by omega) (by omega) (fuel.toNat + 1) (startW m) mainS [] 1 f ⟨startW_good m _, by simp, by omega, by omega, hf, by omega, by rw [hmain.2]; rfl⟩ (by simp [startW])
        rw [hR, Int.toNat_of_nonneg h0, Int.toNat_of_nonneg (by omega)] at this
        exact this
    refine call_arg (ds := [.agg (moduleC m), .agg [.bool false, .u64 0, .str ⟨#[]⟩, .int 0, .int 0, .int 0, .sl 1 m.globs.length fun i => u64C ((startW m).globs[i]?.getD 0), .int 0], .str inp, .str mainS, .lit (.slice none 0 0), .int 1, .int fuel, .int deep]) hcall (by simp) (by simp) (fun _ => by simp [errW]; exact ⟨rfl, rfl⟩) (fun _ => ?_) ?_
    · simp [DLes]
      refine ⟨DLe.of_eq ?_, u64sD_nil⟩
      rw [show m.globs.length = (startW m).globs.length from by simp [startW]]
      rfl
    simp
    refine ⟨fun hb => DLe.of_eq ?_, fun hb => DLe.of_eq ?_⟩
    · rw [hrun, if_pos hb]
      rfl
    · rw [hrun, if_neg (fun h => h hb)]
      simp only [hb]
      rfl
def oneP (m : Module) (tag budget : Int) : Module := if tag = 1 then foldM m else if tag = 2 then trimM m else if tag = 3 then dropM m else if tag = 4 then inlM m budget else m
def runP (m : Module) (tags : List Int) (budget : Int) : Module := tags.foldl (fun m t => oneP m t budget) m
def tagOk (t : Int) : Bool := decide (1 ≤ t) && decide (t ≤ 4)
def passE (m : Module) (tags : List Int) : Int := if tags.length ≤ 16 ∧ tags.all tagOk = true then wholeE m else 1
def sizeM (m : Module) : Nat := (m.funcs.map fun f => (f.blocks.map fun b => b.ins.length + 1).sum).sum
theorem tagOk_iff {t : Int} : tagOk t = true ↔ t = 1 ∨ t = 2 ∨ t = 3 ∨ t = 4 := by
 unfold tagOk
 simp only [Bool.and_eq_true, decide_eq_true_eq]
 omega
theorem oneP_ok {m : Module} (h : ModOk m) (t budget : Int) : ModOk (oneP m t budget) := by
 unfold oneP
 repeat' split
 ·exact fold_ok h
 ·exact trim_ok h
 ·exact drop_ok h
 ·exact inl_ok h budget
 ·exact h
theorem oneP_whole {m : Module} (h : wholeE m = 0) (t budget : Int) : wholeE (oneP m t budget) = 0 := by
 unfold oneP
 repeat' split
 ·exact fold_whole h
 ·exact trim_whole h
 ·exact whole_drop h
 ·exact inl_whole h budget
 ·exact h
theorem drop_runs {m : Module} (hw : wholeE m = 0) : RunRel m (dropM m) := fun inp fuel deep hb => by
 have e := runR_drop hw inp fuel deep
 have he := runR_ended hb
 generalize runR (dropM m) inp fuel deep = r at *
 rw [e]
 exact ⟨hb, he, rfl, rfl, rfl, Nat.le_refl _, Nat.le_refl _⟩
theorem oneP_runs {m : Module} (h : wholeE m = 0) (t budget : Int) : RunRel m (oneP m t budget) := by
 unfold oneP
 repeat' split
 ·exact fold_runs h
 ·exact trim_runs h
 ·exact drop_runs h
 ·exact inl_runs h budget
 ·exact RunRel.refl m
theorem runP_ok {budget : Int} : ∀ (tags : List Int) {m : Module}, ModOk m → ModOk (runP m tags budget)
 | [], _, h => h
 | t :: tags, m, h => runP_ok tags (oneP_ok h t budget)
theorem runP_whole {budget : Int} : ∀ (tags : List Int) {m : Module}, wholeE m = 0 → wholeE (runP m tags budget) = 0
 | [], _, h => h
 | t :: tags, m, h => runP_whole tags (oneP_whole h t budget)
theorem runP_runs {budget : Int} : ∀ (tags : List Int) {m : Module}, wholeE m = 0 → RunRel m (runP m tags budget)
 | [], m, _ => RunRel.refl m
 | t :: tags, m, h => (oneP_runs h t budget).trans (runP_runs tags (oneP_whole h t budget))
theorem runP_append (m : Module) (a b : List Int) (budget : Int) : runP m (a ++ b) budget = runP (runP m a budget) b budget := List.foldl_append
theorem runP_take {m : Module} {tags : List Int} {budget : Int} {k : Nat} (hk : k < tags.length) : runP m (tags.take (k + 1)) budget = oneP (runP m (tags.take k) budget) tags[k] budget := by
 rw [List.take_succ_eq_append_getElem hk, runP_append]
 rfl
theorem passE_zero {m : Module} {tags : List Int} : passE m tags = 0 ↔ (tags.length ≤ 16 ∧ tags.all tagOk = true) ∧ wholeE m = 0 := by
 unfold passE
 split
 ·rename_i h
  exact ⟨fun h' => ⟨h, h'⟩, fun h' => h'.2⟩
 ·rename_i h
  exact ⟨fun h' => by omega, fun h' => absurd h'.1 h⟩
theorem passE_or (m : Module) (tags : List Int) : passE m tags = 1 ∨ passE m tags = wholeE m := by
 unfold passE
 split
 ·exact .inr rfl
 ·exact .inl rfl
theorem run_is {m : Module} {inp : ByteArray} {fuel deep : Int} (h : ¬ (fuel < 0 ∨ 100000 < fuel ∨ deep < 1 ∨ 64 < deep)) (hw : wholeE m = 0) : runA m inp fuel deep = runR m inp fuel.toNat deep.toNat := by
 unfold runA
 rw [if_neg h, if_neg (fun h => h hw)]
theorem runA_passes {m : Module} (hw : wholeE m = 0) (tags : List Int) (budget : Int) (inp : ByteArray) {fuel deep : Int} (h : ¬ (fuel < 0 ∨ 100000 < fuel ∨ deep < 1 ∨ 64 < deep)) (hb : (runA m inp fuel deep).bad = 0) :
  (runA (runP m tags budget) inp fuel deep).bad = 0 ∧ (runA (runP m tags budget) inp fuel deep).ended = true ∧ (runA (runP m tags budget) inp fuel deep).code = (runA m inp fuel deep).code ∧ (runA (runP m tags budget) inp fuel deep).out = (runA m inp fuel deep).out ∧
  (runA (runP m tags budget) inp fuel deep).read = (runA m inp fuel deep).read ∧ (runA (runP m tags budget) inp fuel deep).steps ≤ (runA m inp fuel deep).steps ∧ (runA (runP m tags budget) inp fuel deep).deep ≤ (runA m inp fuel deep).deep := by
 rw [run_is h hw] at hb ⊢
 rw [run_is h (runP_whole tags hw)]
 exact runP_runs tags hw inp fuel.toNat deep.toNat hb
def KOk' (m : Module) : Prop := ∀ f ∈ m.funcs, ∀ b ∈ f.blocks, ∀ i ∈ b.ins, i.k < 18446744073709551616
def c_pass_Size : ACode :=
 (.seq (.reg [Ro 1 (.box true (Sv 0)), Ro 2 (.mv (Ci 0))])
 (.seq (.reg [Ro 3 (.mv (Ci 0))])
 (.seq (.seq (.reg [Ro 8 (Fd 1 0), Ro 9 (Ld 8), Ro 10 (.len false (Sv 9)), Ro 11 (.mv (Ci 0))])
 (.block 0
 (.loop (.seq (.reg [Ro 12 (.bin .lss (Sv 11) (Sv 10))])
 (.seq (.cond (Sv 12)
 .skip
 (.exit 0))
 (.seq (.block 1
 (.seq (.seq (.reg [Ro 13 (.idx true (Sv 9) (Sv 11) 4), Ro 14 (Lk 13 4), Ro 5 (.new [(.string ⟨#[]⟩), (.int .i64 0), (.int .i64 0), (.slice none 0 0)]), Rn (.ini 1 (Sv 5) (Sv 14) 4)])
 (.frz (sl 5)))
 (.seq (.reg [Ro 15 (Fd 5 3), Ro 16 (Ld 15), Ro 17 (.len false (Sv 16)), Ro 18 (.mv (Ci 0))])
 (.block 2
 (.loop (.seq (.reg [Ro 19 (.bin .lss (Sv 18) (Sv 17))])
 (.seq (.cond (Sv 19)
 .skip
 (.exit 2))
 (.seq (.block 3
 (.seq (.seq (.reg [Ro 20 (.idx true (Sv 16) (Sv 18) 8), Ro 21 (Lk 20 8), Ro 7 (.new [(.int .i64 0), (.slice none 0 0), (.int .i64 0), (.int .i64 0), (.int .i64 0), (.slice none 0 0), (.int .i64 0), (.slice none 0 0)]), Rn (.ini 1 (Sv 7) (Sv 21) 8)])
 (.frz (sl 7)))
 (.reg [Ro 22 (Mv 3), Ro 23 (Fd 7 1), Ro 24 (Ld 23), Ro 25 (.len false (Sv 24)), Ro 26 (.bin .add (Sv 25) (Ci 1)), Ro 27 (.bin .add (Sv 22) (Sv 26)), Ro 3 (Mv 27)])))
 (.reg [Ro 28 (.bin .add (Sv 18) (Ci 1)), Ro 18 (Mv 28)])))))))))
 (.reg [Ro 29 (.bin .add (Sv 11) (Ci 1)), Ro 11 (Mv 29)])))))))
 (.seq (.reg [Ro 30 (Mv 3), Ro 2 (Mv 30)])
 .ret))))
def r_pass_Size : List ARes := [(.tmp (sl 2))]
theorem t_pass_Size : (Tryz.f14).body.bind (trCode Tryz.prog 8 (Tryz.f14).ntmps [] [] (drOk 8)) = some c_pass_Size := by kernel_rfl
theorem u_pass_Size : trRess Tryz.prog 8 (Tryz.f14).results.toList = some r_pass_Size := by kernel_rfl
def c_fold_two : ACode :=
 (.seq (.reg [Ro 2 (.mv (.c (.bool false)))])
 (.seq (.reg [Ro 3 (Mv 0), Ro 4 (.bin .geq (Sv 3) (Ci 2)), Ro 5 (Mv 4), Rg 6 5 true (Mv 0), Rg 7 5 true (.bin .leq (Sv 6) (Ci 11)), Ro 8 (.pick (Sv 5) (Sv 7) (.c (.bool false))), Ro 2 (Mv 8)])
 .ret))
def r_fold_two : List ARes := [(.tmp (sl 2))]
theorem t_fold_two : (Tryz.f133).body.bind (trCode Tryz.prog 8 (Tryz.f133).ntmps [] [] (drOk 8)) = some c_fold_two := by kernel_rfl
theorem u_fold_two : trRess Tryz.prog 8 (Tryz.f133).results.toList = some r_fold_two := by kernel_rfl
def c_fold_values : ACode :=
 (.seq (.reg [Ro 1 (.box true (Sv 0)), Ro 2 (.mv (.c (.slice none 0 0)))])
 (.seq (.reg [Ro 10 (Fd 1 0), Ro 11 (Ld 10), Ro 12 (.mx (Sv 11) (Ci 0)), Ro 13 (.vop 4 147 2 16 (Sv 12) (.c (.agg #[(.int .u64 0), (.bool false)]))), Ro 3 (.new [(.slice none 0 0)]), Rn (.st (Sv 3) (Sv 13) 1)])
 (.seq (.reg [Ro 14 (.mkfn 132 [Sv 3]), Ro 4 (Mv 14)])
 (.seq (.seq (.reg [Ro 15 (Fd 1 1), Ro 16 (Ld 15), Ro 17 (.len false (Sv 16)), Ro 18 (.mv (Ci 0))])
 (.block 0
 (.loop (.seq (.reg [Ro 19 (.bin .lss (Sv 18) (Sv 17))])
 (.seq (.cond (Sv 19)
 .skip
 (.exit 0))
 (.seq (.block 1
 (.seq (.seq (.reg [Ro 20 (.idx true (Sv 16) (Sv 18) 6), Ro 21 (Lk 20 6), Ro 6 (.new [(.int .i64 0), (.int .i64 0), (.int .i64 0), (.int .u64 0), (.string ⟨#[]⟩), (.slice none 0 0)]), Rn (.ini 1 (Sv 6) (Sv 21) 6)])
 (.frz (sl 6)))
 (.seq (.reg [Ro 22 (.bld [(.int .u64 0), (.bool false)] []), Ro 7 (.new [(.int .u64 0), (.bool false)]), Rn (.ini 1 (Sv 7) (Sv 22) 2)])
 (.seq (.seq (.seq (.seq (.reg [Rl 23 (Mv 4) 0, Rl 24 (Fd 6 1) 1, Rl 25 (Ld 24) 2, Rl 26 (.call false (Sv 23) [Sv 25]) 3, Rl 27 (Mv 4) 4, Rl 28 (Fd 6 2) 5, Rl 29 (Ld 28) 6, Rl 30 (.call false (Sv 27) [Sv 29]) 7, Rl 8 (.new [(.int .u64 0), (.bool false)]) 8, Rl 9 (.new [(.int .u64 0), (.bool false)]) 9, Rn (.ini 2 (Sv 8) (Sv 26) 2), Rn (.ini 2 (Sv 9) (Sv 30) 2)])
 (.frz (sl 8)))
 (.frz (sl 9)))
 (.block 2
 (.seq (.reg [Ro 32 (Fd 6 0), Ro 33 (Ld 32), Ro 34 (.bin .eql (Sv 33) (Ci 1)), Ro 31 (Mv 34)])
 (.cond (Sv 31)
 (.reg [Ro 35 (Fd 6 3), Ro 36 (Ld 35), Ro 37 (.bld [(.int .u64 0), (.bool false)] [(0, 1, (Sv 36)), (1, 1, (.c (.bool true)))]), Rn (.st (Sv 7) (Sv 37) 2)])
 (.seq (.reg [Ro 39 (Fd 6 0), Ro 40 (Ld 39), Ro 41 (.call true (.f 133) [Sv 40]), Ro 42 (Mv 41), Rg 43 42 true (Fd 8 1), Rg 44 42 true (Ld 43), Ro 45 (.pick (Sv 42) (Sv 44) (.c (.bool false))), Ro 46 (Mv 45), Rg 47 46 true (Fd 9 1), Rg 48 46 true (Ld 47), Ro 49 (.pick (Sv 46) (Sv 48) (.c (.bool false))), Ro 38 (Mv 49)])
 (.cond (Sv 38)
 (.reg [Ro 50 (Fd 6 0), Ro 51 (Ld 50), Ro 52 (Fd 8 0), Ro 53 (Ld 52), Ro 54 (Fd 9 0), Ro 55 (Ld 54), Ro 56 (.call true (.f 134) [Sv 51, Sv 53, Sv 55]), Ro 57 (.bld [(.int .u64 0), (.bool false)] [(0, 1, (Sv 56)), (1, 1, (.c (.bool true)))]), Rn (.st (Sv 7) (Sv 57) 2)])
 .skip))))))
 (.reg [Ro 58 (.ld false (Sv 3) none), Ro 59 (.ld false (Sv 7) (some 2)), Ro 60 (.mksl 2 1 [(.int .u64 0), (.bool false)] [(0, 2, (Sv 59))]), Ro 61 (.app 147 2 16 (Sv 58) (Sv 60)), Rn (.st (Sv 3) (Sv 61) 1)])))))
 (.reg [Ro 62 (.bin .add (Sv 18) (Ci 1)), Ro 18 (Mv 62)])))))))
 (.seq (.reg [Ro 63 (.ld false (Sv 3) none), Ro 2 (Mv 63)])
 .ret)))))
def r_fold_values : List ARes := [(.tmp (sl 2))]
theorem t_fold_values : (Tryz.f112).body.bind (trCode Tryz.prog 8 (Tryz.f112).ntmps [2, 3, 4, 7, 14, 23, 27, 58, 59, 60, 61, 63] [(6000013, 0, 4), (8000003, 0, 1)] (drOk 8)) = some c_fold_values := by kernel_rfl
theorem u_fold_values : trRess Tryz.prog 8 (Tryz.f112).results.toList = some r_fold_values := by kernel_rfl
def c_fold_values_1 : ACode :=
 (.seq (.reg [Ro 3 (.new [(.int .u64 0), (.bool false)])])
 (.seq (.seq (.reg [Ro 4 (Mv 0), Ro 5 (.bin .lss (Sv 4) (Ci 0)), Ro 6 (Mv 5), Rg 7 6 false (Mv 0), Rg 8 6 false (Ld 1), Rg 9 6 false (.len false (Sv 8)), Rg 10 6 false (.bin .geq (Sv 7) (Sv 9)), Ro 11 (.pick (Sv 6) (.c (.bool true)) (Sv 10))])
 (.cond (Sv 11)
 (.seq (.reg [Ro 12 (.bld [(.int .u64 0), (.bool false)] []), Rn (.st (Sv 3) (Sv 12) 2)])
 .ret)
 .skip))
 (.seq (.reg [Ro 13 (Ld 1), Ro 14 (Mv 0), Ro 15 (.idx true (Sv 13) (Sv 14) 2), Ro 16 (Lk 15 2), Rn (.st (Sv 3) (Sv 16) 2)])
 .ret)))
def r_fold_values_1 : List ARes := [(.cell (sl 3) (some 2))]
theorem t_fold_values_1 : (Tryz.f132).body.bind (trCode Tryz.prog 8 (Tryz.f132).ntmps [3] [] (drOk 8)) = some c_fold_values_1 := by kernel_rfl
theorem u_fold_values_1 : trRess Tryz.prog 8 (Tryz.f132).results.toList = some r_fold_values_1 := by kernel_rfl
def c_fold_each_api_Func_api_Func_ : ACode :=
 (.seq (.reg [Ro 4 (.mv (.c (.slice none 0 0)))])
 (.seq (.reg [Ro 5 (.mv (.c (.slice none 0 0)))])
 (.seq (.seq (.reg [Ro 8 (Mv 0), Ro 9 (.len false (Sv 8)), Ro 10 (.mv (Ci 0))])
 (.block 0
 (.loop (.seq (.reg [Ro 11 (.bin .lss (Sv 10) (Sv 9))])
 (.seq (.cond (Sv 11)
 .skip
 (.exit 0))
 (.seq (.block 1
 (.seq (.seq (.reg [Ro 12 (.idx true (Sv 8) (Sv 10) 4), Ro 13 (Lk 12 4), Ro 7 (.new [(.string ⟨#[]⟩), (.int .i64 0), (.int .i64 0), (.slice none 0 0)]), Rn (.ini 1 (Sv 7) (Sv 13) 4)])
 (.frz (sl 7)))
 (.reg [Ro 14 (Mv 5), Ro 15 (Mv 1), Ro 16 (Lk 7 4), Ro 17 (.call true (Sv 15) [Sv 16]), Ro 18 (.mksl 4 1 [(.string ⟨#[]⟩), (.int .i64 0), (.int .i64 0), (.slice none 0 0)] [(0, 4, (Sv 17))]), Ro 19 (.app 61 4 56 (Sv 14) (Sv 18)), Ro 5 (Mv 19)])))
 (.reg [Ro 20 (.bin .add (Sv 10) (Ci 1)), Ro 10 (Mv 20)])))))))
 (.seq (.reg [Ro 21 (Mv 5), Ro 4 (Mv 21)])
 .ret))))
def r_fold_each_api_Func_api_Func_ : List ARes := [(.tmp (sl 4))]
theorem t_fold_each_api_Func_api_Func_ : (Tryz.f65).body.bind (trCode Tryz.prog 8 (Tryz.f65).ntmps [4, 5, 14, 19, 21] [] (drOk 8)) = some c_fold_each_api_Func_api_Func_ := by kernel_rfl
theorem u_fold_each_api_Func_api_Func_ : trRess Tryz.prog 8 (Tryz.f65).results.toList = some r_fold_each_api_Func_api_Func_ := by kernel_rfl
def c_fold_each_api_Block_api_Block_ : ACode :=
 (.seq (.reg [Ro 4 (.mv (.c (.slice none 0 0)))])
 (.seq (.reg [Ro 5 (.mv (.c (.slice none 0 0)))])
 (.seq (.seq (.reg [Ro 8 (Mv 0), Ro 9 (.len false (Sv 8)), Ro 10 (.mv (Ci 0))])
 (.block 0
 (.loop (.seq (.reg [Ro 11 (.bin .lss (Sv 10) (Sv 9))])
 (.seq (.cond (Sv 11)
 .skip
 (.exit 0))
 (.seq (.block 1
 (.seq (.seq (.reg [Ro 12 (.idx true (Sv 8) (Sv 10) 8), Ro 13 (Lk 12 8), Ro 7 (.new [(.int .i64 0), (.slice none 0 0), (.int .i64 0), (.int .i64 0), (.int .i64 0), (.slice none 0 0), (.int .i64 0), (.slice none 0 0)]), Rn (.ini 1 (Sv 7) (Sv 13) 8)])
 (.frz (sl 7)))
 (.reg [Ro 14 (Mv 5), Ro 15 (Mv 1), Ro 16 (Lk 7 8), Ro 17 (.call true (Sv 15) [Sv 16]), Ro 18 (.mksl 8 1 [(.int .i64 0), (.slice none 0 0), (.int .i64 0), (.int .i64 0), (.int .i64 0), (.slice none 0 0), (.int .i64 0), (.slice none 0 0)] [(0, 8, (Sv 17))]), Ro 19 (.app 58 8 112 (Sv 14) (Sv 18)), Ro 5 (Mv 19)])))
 (.reg [Ro 20 (.bin .add (Sv 10) (Ci 1)), Ro 10 (Mv 20)])))))))
 (.seq (.reg [Ro 21 (Mv 5), Ro 4 (Mv 21)])
 .ret))))
def r_fold_each_api_Block_api_Block_ : List ARes := [(.tmp (sl 4))]
theorem t_fold_each_api_Block_api_Block_ : (Tryz.f91).body.bind (trCode Tryz.prog 8 (Tryz.f91).ntmps [4, 5, 14, 19, 21] [] (drOk 8)) = some c_fold_each_api_Block_api_Block_ := by kernel_rfl
theorem u_fold_each_api_Block_api_Block_ : trRess Tryz.prog 8 (Tryz.f91).results.toList = some r_fold_each_api_Block_api_Block_ := by kernel_rfl
def c_fold_Block : ACode :=
 (.seq (.reg [Ro 1 (.box false (Sv 0)), Ro 2 (.new [(.int .i64 0), (.slice none 0 0), (.int .i64 0), (.int .i64 0), (.int .i64 0), (.slice none 0 0), (.int .i64 0), (.slice none 0 0)])])
 (.seq (.reg [Ro 8 (.ld false (Sv 1) (some 8)), Ro 9 (.call false (.f 112) [Sv 8]), Ro 3 (Mv 9)])
 (.seq (.reg [Ro 10 (Mv 3), Ro 11 (.len false (Sv 10)), Ro 12 (Fd 1 1), Ro 13 (.ld false (Sv 12) none), Ro 14 (.len false (Sv 13)), Ro 15 (.bin .sub (Sv 11) (Sv 14)), Ro 4 (Mv 15)])
 (.seq (.reg [Ro 16 (Fd 1 1), Ro 17 (.ld false (Sv 16) none), Ro 18 (.callv 53 6 (.f 113) [Sv 17]), Ro 19 (Fd 1 1), Rn (.st (Sv 19) (Sv 18) 1)])
 (.seq (.seq (.reg [Ro 20 (Fd 1 1), Ro 21 (.ld false (Sv 20) none), Ro 22 (.len false (Sv 21)), Ro 23 (.mv (Ci 0))])
 (.block 0
 (.loop (.seq (.reg [Ro 24 (.bin .lss (Sv 23) (Sv 22))])
 (.seq (.cond (Sv 24)
 .skip
 (.exit 0))
 (.seq (.block 1
 (.seq (.reg [Ro 25 (Mv 23), Ro 5 (Mv 25)])
 (.seq (.seq (.reg [Ro 26 (Mv 3), Ro 27 (Mv 4), Ro 28 (Mv 5), Ro 29 (.bin .add (Sv 27) (Sv 28)), Ro 30 (.idx true (Sv 26) (Sv 29) 2), Ro 31 (Lk 30 2), Ro 6 (.new [(.int .u64 0), (.bool false)]), Rn (.ini 1 (Sv 6) (Sv 31) 2)])
 (.frz (sl 6)))
 (.seq (.reg [Ro 32 (Fd 6 1), Ro 33 (Ld 32)])
 (.cond (Sv 33)
 (.reg [Ro 34 (Fd 1 1), Ro 35 (.ld false (Sv 34) none), Ro 36 (Mv 5), Ro 37 (Fd 6 0), Ro 38 (Ld 37), Ro 39 (.bld [(.int .i64 0), (.int .i64 0), (.int .i64 0), (.int .u64 0), (.string ⟨#[]⟩), (.slice none 0 0)] [(0, 1, (Ci 1)), (3, 1, (Sv 38))]), Ro 40 (.idx false (Sv 35) (Sv 36) 6), Rn (.st (Sv 40) (Sv 39) 6)])
 .skip)))))
 (.reg [Ro 41 (.bin .add (Sv 23) (Ci 1)), Ro 23 (Mv 41)])))))))
 (.seq (.reg [Ro 42 (Fd 1 2), Ro 43 (.ld false (Sv 42) (some 6)), Ro 7 (.new [(.int .i64 0), (.int .i64 0), (.int .i64 0), (.slice none 0 0), (.int .i64 0), (.slice none 0 0)]), Rn (.ini 1 (Sv 7) (Sv 43) 6)])
 (.seq (.block 2
 (.seq (.block 5
 (.seq (.block 4
 (.seq (.block 3
 (.seq (.seq (.seq (.reg [Ro 45 (Fd 7 0), Ro 46 (.ld false (Sv 45) none), Ro 47 (.bin .neq (Sv 46) (Ci 2)), Ro 48 (Mv 47), Rg 49 48 false (Fd 7 1), Rg 50 48 false (.ld false (Sv 49) none), Rg 51 48 false (.bin .lss (Sv 50) (Ci 0)), Ro 52 (.pick (Sv 48) (.c (.bool true)) (Sv 51)), Ro 53 (Mv 52), Rg 54 53 false (Fd 7 1), Rg 55 53 false (.ld false (Sv 54) none), Rg 56 53 false (Mv 3), Rg 57 53 false (.len false (Sv 56)), Rg 58 53 false (.bin .geq (Sv 55) (Sv 57)), Ro 59 (.pick (Sv 53) (.c (.bool true)) (Sv 58)), Ro 60 (Mv 59), Rg 61 60 false (Mv 3), Rg 62 60 false (Fd 7 1), Rg 63 60 false (.ld false (Sv 62) none), Rg 64 60 false (.idx true (Sv 61) (Sv 63) 2), Rg 65 60 false (Fd 64 1), Rg 66 60 false (.ld false (Sv 65) none), Rg 67 60 false (.not (Sv 66)), Ro 68 (.pick (Sv 60) (.c (.bool true)) (Sv 67)), Ro 44 (Mv 68)])
 (.cond (Sv 44)
 (.exit 3)
 .skip))
 (.seq (.reg [Ro 70 (Mv 3), Ro 71 (Fd 7 1), Ro 72 (.ld false (Sv 71) none), Ro 73 (.idx true (Sv 70) (Sv 72) 2), Ro 74 (Fd 73 0), Ro 75 (.ld false (Sv 74) none), Ro 76 (.bin .eql (Sv 75) (.c (.int .u64 0))), Ro 69 (Mv 76)])
 (.cond (Sv 69)
 (.exit 4)
 .skip)))
 (.exit 5)))
 (.seq (.seq (.reg [Ro 77 (.ld false (Sv 1) (some 8)), Rn (.st (Sv 2) (Sv 77) 8)])
 .ret)
 (.exit 2))))
 (.reg [Ro 78 (Fd 7 4), Ro 79 (.ld false (Sv 78) none), Ro 80 (Fd 7 5), Ro 81 (.ld false (Sv 80) none), Ro 82 (Fd 7 2), Rn (.st (Sv 82) (Sv 79) 1), Ro 83 (Fd 7 3), Rn (.st (Sv 83) (Sv 81) 1)])))
 (.seq (.reg [Ro 84 (Fd 7 2), Ro 85 (.ld false (Sv 84) none), Ro 86 (Fd 7 3), Ro 87 (.ld false (Sv 86) none), Ro 88 (.bld [(.int .i64 0), (.int .i64 0), (.int .i64 0), (.slice none 0 0), (.int .i64 0), (.slice none 0 0)] [(0, 1, (Ci 1)), (2, 1, (Sv 85)), (3, 1, (Sv 87))]), Ro 89 (Fd 1 2), Rn (.st (Sv 89) (Sv 88) 6)])
 (.exit 2))))
 (.seq (.reg [Ro 90 (.ld false (Sv 1) (some 8)), Rn (.st (Sv 2) (Sv 90) 8)])
 .ret))))))))
def r_fold_Block : List ARes := [(.cell (sl 2) (some 8))]
theorem t_fold_Block : (Tryz.f92).body.bind (trCode Tryz.prog 8 (Tryz.f92).ntmps [1, 2, 7, 8, 12, 13, 16, 17, 18, 19, 20, 21, 34, 35, 40, 42, 43, 45, 46, 49, 50, 54, 55, 62, 63, 64, 65, 66, 71, 72, 73, 74, 75, 77, 78, 79, 80, 81, 82, 83, 84, 85, 86, 87, 88, 89, 90] [(113, 53, 1006)] (drOk 8)) = some c_fold_Block := by kernel_rfl
theorem u_fold_Block : trRess Tryz.prog 8 (Tryz.f92).results.toList = some r_fold_Block := by kernel_rfl
def c_fold_Func : ACode :=
 (.seq (.reg [Ro 1 (.box false (Sv 0)), Ro 2 (.new [(.string ⟨#[]⟩), (.int .i64 0), (.int .i64 0), (.slice none 0 0)])])
 (.seq (.reg [Ro 3 (Fd 1 3), Ro 4 (.ld false (Sv 3) none), Ro 5 (.call false (.f 91) [Sv 4, (.f 92)]), Ro 6 (Fd 1 3), Rn (.st (Sv 6) (Sv 5) 1)])
 (.seq (.reg [Ro 7 (.ld false (Sv 1) (some 4)), Rn (.st (Sv 2) (Sv 7) 4)])
 .ret)))
def r_fold_Func : List ARes := [(.cell (sl 2) (some 4))]
theorem t_fold_Func : (Tryz.f66).body.bind (trCode Tryz.prog 8 (Tryz.f66).ntmps [1, 2, 3, 4, 6, 7] [] (drOk 8)) = some c_fold_Func := by kernel_rfl
theorem u_fold_Func : trRess Tryz.prog 8 (Tryz.f66).results.toList = some r_fold_Func := by kernel_rfl
def c_fold_Module : ACode :=
 (.seq (.reg [Ro 1 (.box false (Sv 0)), Ro 2 (.new [(.slice none 0 0), (.slice none 0 0)])])
 (.seq (.reg [Ro 3 (Fd 1 0), Ro 4 (.ld false (Sv 3) none), Ro 5 (.call false (.f 65) [Sv 4, (.f 66)]), Ro 6 (Fd 1 0), Rn (.st (Sv 6) (Sv 5) 1)])
 (.seq (.reg [Ro 7 (.ld false (Sv 1) (some 2)), Rn (.st (Sv 2) (Sv 7) 2)])
 .ret)))
def r_fold_Module : List ARes := [(.cell (sl 2) (some 2))]
theorem t_fold_Module : (Tryz.f39).body.bind (trCode Tryz.prog 8 (Tryz.f39).ntmps [1, 2, 3, 4, 6, 7] [] (drOk 8)) = some c_fold_Module := by kernel_rfl
theorem u_fold_Module : trRess Tryz.prog 8 (Tryz.f39).results.toList = some r_fold_Module := by kernel_rfl
def c_slices_Clone___api_Inst_api_Inst_ : ACode :=
 (.seq (.reg [Ro 2 (.mv (.c (.slice none 0 0)))])
 (.seq (.seq (.reg [Ro 3 (Mv 0), Ro 4 (.isnil false (Sv 3))])
 (.cond (Sv 4)
 (.seq (.reg [Ro 2 (.mv (.c (.slice none 0 0)))])
 .ret)
 .skip))
 (.seq (.reg [Ro 5 (.nrow 53 6), Ro 6 (Mv 0), Ro 7 (.vapp 53 6 72 (Sv 5) (Sv 6)), Ro 2 (Mv 7)])
 .ret)))
def r_slices_Clone___api_Inst_api_Inst_ : List ARes := [(.tmp (sl 2))]
theorem t_slices_Clone___api_Inst_api_Inst_ : (Tryz.f113).body.bind (trCode Tryz.prog 8 (Tryz.f113).ntmps [2, 7] [(2000007, 53, 6)] (drOk 8)) = some c_slices_Clone___api_Inst_api_Inst_ := by kernel_rfl
theorem u_slices_Clone___api_Inst_api_Inst_ : trRess Tryz.prog 8 (Tryz.f113).results.toList = some r_slices_Clone___api_Inst_api_Inst_ := by kernel_rfl
def knC (x : Option Int) : List DV := [.lit (.int .u64 (x.getD 0)), .bool x.isSome]
@[simp] theorem knC_length (x : Option Int) : (knC x).length = 2 := rfl
@[simp] theorem knC_0 (x : Option Int) : (knC x)[0]? = some (.lit (.int .u64 (x.getD 0))) := rfl
@[simp] theorem knC_1 (x : Option Int) : (knC x)[1]? = some (.bool x.isSome) := rfl
@[simp] theorem knC_cells (x : Option Int) : (∀ d, d ∈ knC x → d.cell = true) ↔ True := by unfold knC; simp
@[simp] theorem knC_len? (x : Option Int) : (knC x)[2]? = none := rfl
@[simp] theorem knC_map (x : Option Int) : (knC x).map AV.d = [.d (.lit (.int .u64 (x.getD 0))), .d (.bool x.isSome)] := rfl
def boolC (x : Bool) : List DV := [.bool x]
@[simp] theorem boolC_length (x : Bool) : (boolC x).length = 1 := rfl
@[simp] theorem boolC_0 (x : Bool) : (boolC x)[0]? = some (.bool x) := rfl
@[simp] theorem boolC_len? (x : Bool) : (boolC x)[1]? = none := rfl
@[simp] theorem boolC_map (x : Bool) : (boolC x).map AV.d = [.d (.bool x)] := rfl
@[simp] theorem knC_all (x : Option Int) : (knC x).take 2 = knC x := rfl
theorem appRow_snocG {α : Type} (C : α → List DV) (d : α) {acc : List α} {x : α} {more : Nat → List DV} (h0 : more 0 = C x) {i : Nat} (hi : i < acc.length + 1) : appRow acc.length (fun i => C (acc[i]?.getD d)) more i = C ((acc ++ [x])[i]?.getD d) := by
 unfold appRow
 split
 ·rename_i h; rw [List.getElem?_append_left h]
 ·rename_i h
  obtain rfl : i = acc.length := by omega
  rw [Nat.sub_self, h0, List.getElem?_append_right (Nat.le_refl _), Nat.sub_self]
  rfl
@[reducible] def knsD (xs : List (Option Int)) : DV := .sl 2 xs.length fun k => knC (xs[k]?.getD none)
@[simp high] theorem knsD_cell (xs : List (Option Int)) : DV.cell (knsD xs) = true := rfl
@[simp high] theorem knsD_isLit (xs : List (Option Int)) : DV.isLit (knsD xs) = false := rfl
@[simp high] theorem knsD_lenV (xs : List (Option Int)) : lenV (.d (knsD xs)) = .int xs.length := rfl
@[simp high] theorem knsD_lenOk (H : Heap) (s : Bool) (xs : List (Option Int)) : lenOk H s (.d (knsD xs)) = (s = false) := rfl
@[simp high] theorem knsD_slLen (xs : List (Option Int)) : slLen (.d (knsD xs)) = xs.length := rfl
@[simp high] theorem knsD_idxV (H : Heap) (xs : List (Option Int)) (k : IntKind) (i : Int) : idxH H (.d (knsD xs)) (.d (.lit (.int k i))) = .d (.cref (knC (xs[i.toNat]?.getD none)) 0) := rfl
@[simp high] theorem knsD_idxOk (H : Heap) (n : Nat) (xs : List (Option Int)) (k : IntKind) (i : Int) : idxHOk H n (.d (knsD xs)) (.d (.lit (.int k i))) = (2 = n ∧ 0 ≤ i ∧ i < xs.length) := rfl
@[simp high] theorem knsD_moreV (n : Nat) (xs : List (Option Int)) : moreV n (.d (knsD xs)) = if 2 = n then some (xs.length, fun k => knC (xs[k]?.getD none)) else none := rfl
@[simp high] theorem knsD_slcV (xs : List (Option Int)) (lo hi : Int) : slcV (.d (knsD xs)) lo hi = .d (.sl 2 (hi.toNat - lo.toNat) fun i => knC (xs[lo.toNat + i]?.getD none)) := rfl
@[simp high] theorem knsD_slcOk (n : Nat) (xs : List (Option Int)) (lo hi : Int) : slcOk n (.d (knsD xs)) lo hi = (2 = n ∧ 0 ≤ lo ∧ lo ≤ hi ∧ hi ≤ xs.length) := rfl
@[reducible] def boolsD (xs : List Bool) : DV := .sl 1 xs.length fun k => boolC (xs[k]?.getD false)
@[simp high] theorem boolsD_cell (xs : List Bool) : DV.cell (boolsD xs) = true := rfl
@[simp high] theorem boolsD_isLit (xs : List Bool) : DV.isLit (boolsD xs) = false := rfl
@[simp high] theorem boolsD_lenV (xs : List Bool) : lenV (.d (boolsD xs)) = .int xs.length := rfl
@[simp high] theorem boolsD_lenOk (H : Heap) (s : Bool) (xs : List Bool) : lenOk H s (.d (boolsD xs)) = (s = false) := rfl
@[simp high] theorem boolsD_slLen (xs : List Bool) : slLen (.d (boolsD xs)) = xs.length := rfl
@[simp high] theorem boolsD_idxV (H : Heap) (xs : List Bool) (k : IntKind) (i : Int) : idxH H (.d (boolsD xs)) (.d (.lit (.int k i))) = .d (.cref (boolC (xs[i.toNat]?.getD false)) 0) := rfl
@[simp high] theorem boolsD_idxOk (H : Heap) (n : Nat) (xs : List Bool) (k : IntKind) (i : Int) : idxHOk H n (.d (boolsD xs)) (.d (.lit (.int k i))) = (1 = n ∧ 0 ≤ i ∧ i < xs.length) := rfl
@[simp high] theorem boolsD_moreV (n : Nat) (xs : List Bool) : moreV n (.d (boolsD xs)) = if 1 = n then some (xs.length, fun k => boolC (xs[k]?.getD false)) else none := rfl
@[simp high] theorem boolsD_slcV (xs : List Bool) (lo hi : Int) : slcV (.d (boolsD xs)) lo hi = .d (.sl 1 (hi.toNat - lo.toNat) fun i => boolC (xs[lo.toNat + i]?.getD false)) := rfl
@[simp high] theorem boolsD_slcOk (n : Nat) (xs : List Bool) (lo hi : Int) : slcOk n (.d (boolsD xs)) lo hi = (1 = n ∧ 0 ≤ lo ∧ lo ≤ hi ∧ hi ≤ xs.length) := rfl

def c_eval_Reckon : ACode :=
 (.seq (.reg [Ro 6 (.mv (.c (.int .u64 0)))])
 (.seq (.seq (.reg [Ro 7 (Mv 0)])
 (.block 0
 (.seq (.block 10
 (.seq (.block 9
 (.seq (.block 8
 (.seq (.block 7
 (.seq (.block 6
 (.seq (.block 5
 (.seq (.block 4
 (.seq (.block 3
 (.seq (.block 2
 (.seq (.block 1
 (.seq (.seq (.seq (.reg [Ro 9 (.bin .eql (Sv 7) (Ci 3)), Ro 8 (Mv 9)])
 (.cond (Sv 8)
 (.exit 1)
 .skip))
 (.seq (.seq (.reg [Ro 11 (.bin .eql (Sv 7) (Ci 2)), Ro 10 (Mv 11)])
 (.cond (Sv 10)
 (.exit 2)
 .skip))
 (.seq (.seq (.reg [Ro 13 (.bin .eql (Sv 7) (Ci 4)), Ro 12 (Mv 13)])
 (.cond (Sv 12)
 (.exit 3)
 .skip))
 (.seq (.seq (.reg [Ro 15 (.bin .eql (Sv 7) (Ci 5)), Ro 14 (Mv 15)])
 (.cond (Sv 14)
 (.exit 4)
 .skip))
 (.seq (.seq (.reg [Ro 17 (.bin .eql (Sv 7) (Ci 6)), Ro 16 (Mv 17)])
 (.cond (Sv 16)
 (.exit 5)
 .skip))
 (.seq (.seq (.reg [Ro 19 (.bin .eql (Sv 7) (Ci 7)), Ro 18 (Mv 19)])
 (.cond (Sv 18)
 (.exit 6)
 .skip))
 (.seq (.seq (.reg [Ro 21 (.bin .eql (Sv 7) (Ci 8)), Ro 20 (Mv 21)])
 (.cond (Sv 20)
 (.exit 7)
 .skip))
 (.seq (.seq (.reg [Ro 23 (.bin .eql (Sv 7) (Ci 9)), Ro 22 (Mv 23)])
 (.cond (Sv 22)
 (.exit 8)
 .skip))
 (.seq (.seq (.reg [Ro 25 (.bin .eql (Sv 7) (Ci 10)), Ro 24 (Mv 25)])
 (.cond (Sv 24)
 (.exit 9)
 .skip))
 (.seq (.reg [Ro 27 (.bin .eql (Sv 7) (Ci 11)), Ro 26 (Mv 27)])
 (.cond (Sv 26)
 (.exit 10)
 .skip)))))))))))
 (.exit 0)))
 (.reg [Ro 28 (Mv 2), Ro 29 (.bin .sub (.c (.int .u64 0)) (Sv 28)), Ro 2 (Mv 29)])))
 (.seq (.seq (.reg [Ro 30 (Mv 1), Ro 31 (Mv 2), Ro 32 (.bin .add (Sv 30) (Sv 31)), Ro 6 (Mv 32)])
 .ret)
 (.exit 0))))
 (.seq (.seq (.reg [Ro 33 (Mv 1), Ro 34 (Mv 2), Ro 35 (.bin .mul (Sv 33) (Sv 34)), Ro 6 (Mv 35)])
 .ret)
 (.exit 0))))
 (.seq (.seq (.reg [Ro 36 (Mv 1), Ro 37 (Mv 2), Ro 38 (.bin .and (Sv 36) (Sv 37)), Ro 6 (Mv 38)])
 .ret)
 (.exit 0))))
 (.seq (.seq (.reg [Ro 39 (Mv 1), Ro 40 (Mv 2), Ro 41 (.bin .or (Sv 39) (Sv 40)), Ro 6 (Mv 41)])
 .ret)
 (.exit 0))))
 (.seq (.seq (.reg [Ro 42 (Mv 1), Ro 43 (Mv 2), Ro 44 (.bin .xor (Sv 42) (Sv 43)), Ro 6 (Mv 44)])
 .ret)
 (.exit 0))))
 (.seq (.seq (.reg [Ro 45 (Mv 1), Ro 46 (Mv 2), Ro 47 (.bin .rem (Sv 46) (.c (.int .u64 64))), Ro 48 (.bin .shl (Sv 45) (Sv 47)), Ro 6 (Mv 48)])
 .ret)
 (.exit 0))))
 (.seq (.seq (.reg [Ro 49 (Mv 1), Ro 50 (Mv 2), Ro 51 (.bin .rem (Sv 50) (.c (.int .u64 64))), Ro 52 (.bin .shr (Sv 49) (Sv 51)), Ro 6 (Mv 52)])
 .ret)
 (.exit 0))))
 (.seq (.seq (.reg [Ro 53 (Mv 1), Ro 54 (Mv 2), Ro 55 (.bin .lss (Sv 53) (Sv 54)), Ro 56 (.call true (.f 145) [Sv 55]), Ro 6 (Mv 56)])
 .ret)
 (.exit 0))))
 (.seq (.seq (.reg [Ro 57 (Mv 1), Ro 58 (Mv 2), Ro 59 (.bin .eql (Sv 57) (Sv 58)), Ro 60 (.call true (.f 145) [Sv 59]), Ro 6 (Mv 60)])
 .ret)
 (.exit 0)))))
 (.seq (.reg [Ro 6 (.mv (.c (.int .u64 0)))])
 .ret)))
def r_eval_Reckon : List ARes := [(.tmp (sl 6))]
theorem t_eval_Reckon : (Tryz.f134).body.bind (trCode Tryz.prog 8 (Tryz.f134).ntmps [] [] (drOk 8)) = some c_eval_Reckon := by kernel_rfl
theorem u_eval_Reckon : trRess Tryz.prog 8 (Tryz.f134).results.toList = some r_eval_Reckon := by kernel_rfl
def c_eval_one : ACode :=
 (.seq (.reg [Ro 2 (.mv (.c (.int .u64 0)))])
 (.seq (.seq (.reg [Ro 3 (Mv 0)])
 (.cond (Sv 3)
 (.seq (.reg [Ro 2 (.mv (.c (.int .u64 1)))])
 .ret)
 .skip))
 (.seq (.reg [Ro 2 (.mv (.c (.int .u64 0)))])
 .ret)))
def r_eval_one : List ARes := [(.tmp (sl 2))]
theorem t_eval_one : (Tryz.f145).body.bind (trCode Tryz.prog 8 (Tryz.f145).ntmps [] [] (drOk 8)) = some c_eval_one := by kernel_rfl
theorem u_eval_one : trRess Tryz.prog 8 (Tryz.f145).results.toList = some r_eval_one := by kernel_rfl
def c_eval_find : ACode :=
 (.seq (.reg [Ro 2 (.box true (Sv 0)), Ro 3 (.box true (Sv 1)), Ro 4 (.new [(.string ⟨#[]⟩), (.int .i64 0), (.int .i64 0), (.slice none 0 0)]), Ro 5 (.mv (.c (.bool false)))])
 (.seq (.reg [Ro 7 (Fd 2 0), Ro 8 (Ld 7), Ro 9 (.mkfn 61 [Sv 3]), Ro 10 (.call true (.f 60) [Sv 8, Sv 9]), Ro 6 (Mv 10)])
 (.seq (.seq (.reg [Ro 11 (Mv 6), Ro 12 (.bin .lss (Sv 11) (Ci 0))])
 (.cond (Sv 12)
 (.seq (.reg [Ro 13 (.bld [(.string ⟨#[]⟩), (.int .i64 0), (.int .i64 0), (.slice none 0 0)] []), Rn (.st (Sv 4) (Sv 13) 4), Ro 5 (.mv (.c (.bool false)))])
 .ret)
 .skip))
 (.seq (.reg [Ro 14 (Fd 2 0), Ro 15 (Ld 14), Ro 16 (Mv 6), Ro 17 (.idx true (Sv 15) (Sv 16) 4), Ro 18 (Lk 17 4), Rn (.st (Sv 4) (Sv 18) 4), Ro 5 (.mv (.c (.bool true)))])
 .ret))))
def r_eval_find : List ARes := [(.cell (sl 4) (some 4)), (.tmp (sl 5))]
theorem t_eval_find : (Tryz.f35).body.bind (trCode Tryz.prog 8 (Tryz.f35).ntmps [4] [] (drOk 8)) = some c_eval_find := by kernel_rfl
theorem u_eval_find : trRess Tryz.prog 8 (Tryz.f35).results.toList = some r_eval_find := by kernel_rfl
def c_eval_find_1 : ACode :=
 (.seq (.reg [Ro 2 (.box true (Sv 0)), Ro 3 (.mv (.c (.bool false)))])
 (.seq (.reg [Ro 4 (Fd 2 0), Ro 5 (Ld 4), Ro 6 (Ld 1), Ro 7 (.bin .eql (Sv 5) (Sv 6)), Ro 3 (Mv 7)])
 .ret))
def r_eval_find_1 : List ARes := [(.tmp (sl 3))]
theorem t_eval_find_1 : (Tryz.f61).body.bind (trCode Tryz.prog 8 (Tryz.f61).ntmps [] [] (drOk 8)) = some c_eval_find_1 := by kernel_rfl
theorem u_eval_find_1 : trRess Tryz.prog 8 (Tryz.f61).results.toList = some r_eval_find_1 := by kernel_rfl
set_option maxRecDepth 10000 in
theorem one_pure (b : Bool) : APure Tryz.prog 145 [.bool b] (.u64 (if b then 1 else 0)) := by
 refine apureG _ _ Tryz.func145 (by kernel_rfl) t_eval_one u_eval_one rfl rfl (fun _ => ?_)
 simp [c_eval_one, r_eval_one]
 cases b <;> simp <;> exact DLe.refl _
theorem powI_eq : ∀ q, q < 64 → powI q = 2 ^ q := by decide
theorem wrap_u64 (n : Int) : IntKind.u64.wrap n = n % 18446744073709551616 := by
 unfold IntKind.wrap
 simp only [show IntKind.u64.signed = false from rfl, Bool.false_and, if_neg (by simp : ¬ false = true)]
 rfl
theorem wrap_neg (a b : Int) : IntKind.u64.wrap (a + IntKind.u64.wrap (-b)) = IntKind.u64.wrap (a - b) := by
 simp only [wrap_u64]
 omega
set_option maxRecDepth 10000 in
theorem ereckon_pure (op a b : Int) (ha : 0 ≤ a ∧ a < 18446744073709551616) (hb : 0 ≤ b) : APure Tryz.prog 134 [.int op, .u64 a, .u64 b] (.u64 (reckI op a b)) := by
 refine apureG _ _ Tryz.func134 (by kernel_rfl) t_eval_Reckon u_eval_Reckon rfl rfl (fun _ => ?_)
 simp [c_eval_Reckon, r_eval_Reckon]
 have hm : 0 ≤ b.tmod 64 ∧ b.tmod 64 < 64 := ⟨Int.tmod_nonneg _ hb, Int.tmod_lt_of_pos _ (by decide)⟩
 obtain ⟨q, hq⟩ := Int.eq_ofNat_of_zero_le hm.1
 have hb64 : min q IntKind.u64.bits = q := Nat.min_eq_left (by show q ≤ 64; omega)
 have hp := powI_eq q (by omega)
 refine ⟨fun h => DLe.of_eq ?_, fun h3 => ⟨fun h => DLe.of_eq ?_, fun h2 => ⟨fun h => DLe.of_eq ?_, fun h4 => ⟨fun h => DLe.of_eq ?_, fun h5 => ⟨fun h => DLe.of_eq ?_, fun h6 => ⟨fun h => DLe.of_eq ?_, fun h7 => ⟨fun h => ⟨hm.1, DLe.of_eq ?_⟩, fun h8 => ⟨fun h => ⟨hm.1, DLe.of_eq ?_⟩, fun h9 => ⟨fun h => ?_, fun h10 => ⟨fun h => ?_, fun h11 => DLe.of_eq ?_⟩⟩⟩⟩⟩⟩⟩⟩⟩⟩
 ·rw [wrap_neg]
  simp [reckI, wrapU, h]
 ·simp [reckI, wrapU, h]
 ·simp [reckI, wrapU, h]
 ·simp [reckI, wrapU, h]
 ·simp [reckI, wrapU, h]
 ·simp [reckI, wrapU, h]
 ·simp [reckI, wrapU, h, hq, hb64, hp]
 ·simp only [hq, Int.toNat_natCast, hb64]
  have hpos : (0 : Int) < 2 ^ q := Int.pow_pos (by decide)
  have e1 : a.fdiv (2 ^ q) = a / 2 ^ q := Int.fdiv_eq_ediv_of_nonneg _ (Int.le_of_lt hpos)
  have e2 : a.tdiv (2 ^ q) = a / 2 ^ q := Int.tdiv_eq_ediv_of_nonneg ha.1
  have h0 : 0 ≤ a / 2 ^ q := Int.ediv_nonneg ha.1 (Int.le_of_lt hpos)
  have h1 : a / 2 ^ q ≤ a := Int.ediv_le_self _ ha.1
  have e3 : reckI op a b = a / 2 ^ q := by
   simp only [reckI, h, hq, Int.toNat_natCast, hp, e2]
   exact wrapU_id h0 (by omega)
  rw [e3, e1]
 ·refine call_plain (ds := [.bool (decide (a < b))]) _ (by simp) (by simp) (fun _ => rfl) (fun _ => one_pure _) ?_
  simp
  refine DLe.of_eq ?_
  by_cases hlt : a < b <;> simp [reckI, h, hlt]
 ·refine call_plain (ds := [.bool (decide (a = b))]) _ (by simp) (by simp) (fun _ => rfl) (fun _ => one_pure _) ?_
  simp
  refine DLe.of_eq ?_
  by_cases hlt : a = b <;> simp [reckI, h, hlt]
 ·simp [reckI, *]
set_option maxRecDepth 10000 in
theorem efind1_pure (f : Func) (s : ByteArray) : APure Tryz.prog 61 [.agg (funcC f), .cref [.str s] 0] (.bool (decide (f.name = s))) := by
 refine apureG _ _ Tryz.func61 (by kernel_rfl) t_eval_find_1 u_eval_find_1 rfl rfl (fun _ => ?_)
 simp [c_eval_find_1, r_eval_find_1]
def efindR (m : Module) (s : ByteArray) : DV := match findF m s with | some f => .tup [.agg (funcC f), .bool true] | none => .tup [.agg [.str ⟨#[]⟩, .int 0, .int 0, .lit (.slice none 0 0)], .bool false]
set_option maxRecDepth 10000 in
theorem efind_pure (m : Module) (s : ByteArray) : APure Tryz.prog 35 [.agg (moduleC m), .str s] (efindR m s) := by
 refine apureG _ _ Tryz.func35 (by kernel_rfl) t_eval_find u_eval_find rfl rfl (fun _ => ?_)
 simp [c_eval_find, r_eval_find]
 refine call_plain (ds := [funcsD m.funcs, .fn 61 [.cref [.str s] 0]]) _ (by simp) (by simp) (fun _ => by simp) (fun _ => indexF_pure m.funcs _ _ _ (fun f _ => efind1_pure f s)) ?_
 simp
 unfold efindR findF
 rcases find_idx (fun f : Func => decide (f.name = s)) m.funcs with ⟨k, hk, h1, h2⟩ | ⟨h1, h2⟩
 ·rw [h1, h2]
  refine ⟨fun h => by omega, fun _ => ⟨⟨by omega, by omega⟩, ?_⟩⟩
  simp only [Int.toNat_natCast, getD_some hk]
  exact DLe.refl _
 ·rw [h1, h2]
  exact ⟨fun _ => DLe.refl _, fun h => by omega⟩
theorem reckI_lt (op a b : Int) : 0 ≤ reckI op a b ∧ reckI op a b < 18446744073709551616 := by
 have hw : ∀ n, 0 ≤ wrapU n ∧ wrapU n < 18446744073709551616 := fun n => by
  unfold wrapU
  rw [wrap_u64]
  omega
 unfold reckI
 repeat' split
 all_goals first | exact hw _ | exact ⟨by omega, by omega⟩
def KnOk (l : List (Option Int)) : Prop := ∀ v, some v ∈ l → 0 ≤ v ∧ v < 18446744073709551616
theorem KnOk.at {l : List (Option Int)} (h : KnOk l) {i v : Int} (hv : atO l i = some v) : 0 ≤ v ∧ v < 18446744073709551616 := by
  unfold atO at hv
  split at hv
  · cases hl : l[i.toNat]? with
    | none => rw [hl] at hv; cases hv
    | some o =>
      rw [hl] at hv
      simp only [Option.getD_some] at hv
      subst hv
      exact h _ (List.mem_of_getElem? hl)
  · cases hv
theorem KnOk.foldV {l : List (Option Int)} {x : Inst} (hx : x.k < 18446744073709551616) {v : Int} (hv : foldV l x = some v) : 0 ≤ v ∧ v < 18446744073709551616 := by
 unfold Proofs.YtgadlpdbkohlbaaGreat.foldV at hv
 repeat' split at hv
 all_goals first | (injection hv with hv; subst hv; exact reckI_lt _ _ _) | (injection hv with hv; omega) | cases hv
theorem KnOk.foldL : ∀ (xs : List Inst) {l : List (Option Int)}, (∀ x ∈ xs, x.k < 18446744073709551616) → KnOk l → KnOk (foldL l xs)
  | [], _, _, h => h
  | x :: xs, l, hx, h => by
    show KnOk (Proofs.YtgadlpdbkohlbaaGreat.foldL (l ++ [Proofs.YtgadlpdbkohlbaaGreat.foldV l x]) xs)
    refine KnOk.foldL xs (fun y hy => hx y (List.mem_cons_of_mem _ hy)) fun v hv => ?_
    rcases List.mem_append.1 hv with hv | hv
    · exact h v hv
    · exact KnOk.foldV (hx x (List.mem_cons_self ..)) (List.mem_singleton.1 hv).symm
theorem KnOk.none (b : Block) : KnOk (noneL b) := fun v hv => by
 unfold noneL at hv
 have := List.eq_of_mem_replicate hv
 cases this
theorem ftwo_pure (op : Int) : APure Tryz.prog 133 [.int op] (.bool (decide (2 ≤ op ∧ op ≤ 11))) := by
 refine apureG _ _ Tryz.func133 (by kernel_rfl) t_fold_two u_fold_two rfl rfl (fun _ => ?_)
 simp [c_fold_two, r_fold_two]
theorem fvalues1_pure (l : List (Option Int)) (i : Int) : APure Tryz.prog 132 [.int i, .cref [knsD l] 0] (.agg (knC (atO l i))) := by
 refine apureG _ _ Tryz.func132 (by kernel_rfl) t_fold_values_1 u_fold_values_1 rfl rfl (fun _ => ?_)
 simp [c_fold_values_1, r_fold_values_1]
 refine ⟨fun h => ?_, fun h0 h => ⟨⟨h0, h⟩, ?_⟩⟩
 ·have e : atO l i = none := by
   unfold atO
   split
   ·rw [List.getElem?_eq_none (by omega)]
    rfl
   ·rfl
  rw [e]
  exact DLe.refl _
 ·have e : atO l i = l[i.toNat]?.getD none := by unfold atO; rw [if_pos h0]
  rw [e]
  exact DLe.refl _
set_option maxRecDepth 10000 in
theorem fvalues_pure (b : Block) (hp : 0 ≤ b.params ∧ b.params ≤ 1000) (hn : b.ins.length ≤ 1000) (hk : ∀ x ∈ b.ins, x.k < 18446744073709551616) : APure Tryz.prog 112 [.agg (blockC b)] (knsD (foldVals b)) := by
 refine apureG _ _ Tryz.func112 (by kernel_rfl) t_fold_values u_fold_values rfl rfl (fun _ => ?_)
 have hmx : (if b.params < 0 then 0 else b.params) = b.params := if_neg (by omega)
 simp [c_fold_values, r_fold_values, hmx]
 refine ⟨by omega, ?_⟩
 refine loop_s (κ := Nat) (fun k => k ≤ b.ins.length) (fun k => b.ins.length - k) (fun k => [(sl 18, .int k)]) (fun k => [(6, .box [.own 0 (foldL (noneL b) (b.ins.take k)).length]), (0, .row 147 2 (foldL (noneL b) (b.ins.take k)).length fun i => knC ((foldL (noneL b) (b.ins.take k))[i]?.getD none))]) 10 0 (srcs [(0, .id 5), (6, .id 6)]) (by simp) (by
  simp [noneL, foldL]
  intro i hi
  rw [List.getElem?_replicate]
  split <;> rfl) ?_
 rintro k hk1
 simp
 obtain ⟨l, hl⟩ : ∃ l, foldL (noneL b) (b.ins.take k) = l := ⟨_, rfl⟩
 have hlen : l.length ≤ 2000 := by rw [← hl, foldL_length, noneL_length]; simp; omega
 have hkn : KnOk l := by
  rw [← hl]
  exact KnOk.foldL _ (fun x hx => hk x (List.mem_of_mem_take hx)) (.none b)
 simp only [hl]
 refine ⟨fun hlt => ⟨hlt, ?_⟩, fun hge => ?_⟩
 ·rw [getD_some hlt]
  have hsucc : foldL (noneL b) (b.ins.take (k + 1)) = l ++ [foldV l b.ins[k]] := by rw [foldL_snoc (List.getElem?_eq_getElem hlt), hl]
  obtain ⟨x, hx⟩ : ∃ x, b.ins[k] = x := ⟨_, rfl⟩
  simp only [hx] at hsucc ⊢
  refine call_read (ds := [.int x.a, .cref [knsD l] 0]) _ rfl (by simp) (by simp) (fun _ => by simp) (fun _ => fvalues1_pure l x.a) ?_
  simp
  refine call_read (ds := [.int x.b, .cref [knsD l] 0]) _ rfl (by simp) (by simp) (fun _ => by simp) (fun _ => fvalues1_pure l x.b) ?_
  simp
  have hno : foldV l x = none → (l.length + 1) * 16 ≤ 140737488355328 ∧ ∀ i, i < l.length + 1 → appRow l.length (fun i => knC (l[i]?.getD none)) (fun i => List.take 2 (List.drop (i * 2) [DV.lit (Value.int IntKind.u64 0), DV.lit (Value.bool false)])) i = knC ((l ++ [foldV l x])[i]?.getD none) := fun h => by
   rw [h]
   exact ⟨by omega, fun i hi => appRow_snocG knC none rfl hi⟩
  refine ⟨fun h1 => ?_, fun h1 => ?_⟩
  ·refine ⟨by omega, k + 1, by omega, by omega, srcs [(0, .id 41), (6, .id 6)], ?_⟩
   have hv : foldV l x = some (x.k : Int) := by unfold foldV; rw [if_pos h1]
   simp [SLeK, hsucc]
   refine ⟨DLe_int (wrap_succ (by omega)), fun i hi => ?_⟩
   rw [hv]
   exact appRow_snocG knC none rfl hi
  ·refine call_plain (ds := [.int x.op]) _ (by simp) (by simp) (fun _ => by simp) (fun _ => ftwo_pure x.op) ?_
   cases ha : atO l x.a <;> cases hb : atO l x.b <;> simp [ha, hb]
   ·obtain ⟨q1, q2⟩ := hno (by unfold foldV; rw [if_neg h1, ha, hb]; split <;> rfl)
    refine ⟨q1, k + 1, by omega, by omega, srcs [(0, .id 49), (6, .id 6)], ?_⟩
    simp [SLeK, hsucc]
    exact ⟨DLe_int (wrap_succ (by omega)), q2⟩
   ·obtain ⟨q1, q2⟩ := hno (by unfold foldV; rw [if_neg h1, ha, hb]; split <;> rfl)
    refine ⟨q1, k + 1, by omega, by omega, srcs [(0, .id 49), (6, .id 6)], ?_⟩
    simp [SLeK, hsucc]
    exact ⟨DLe_int (wrap_succ (by omega)), q2⟩
   ·obtain ⟨q1, q2⟩ := hno (by unfold foldV; rw [if_neg h1, ha, hb]; split <;> rfl)
    refine ⟨q1, k + 1, by omega, by omega, srcs [(0, .id 49), (6, .id 6)], ?_⟩
    simp [SLeK, hsucc]
    exact ⟨DLe_int (wrap_succ (by omega)), q2⟩
   ·rename_i p q
    refine ⟨fun h2 h11 => ?_, fun h2 => ?_⟩
    ·refine call_plain (ds := [.int x.op, .lit (.int .u64 p), .lit (.int .u64 q)]) _ (by simp) (by simp) (fun _ => by simp) (fun _ => ereckon_pure x.op p q (hkn.at ha) (hkn.at hb).1) ?_
     simp
     refine ⟨by omega, k + 1, by omega, by omega, srcs [(0, .id 58), (6, .id 6)], ?_⟩
     have hv : foldV l x = some (reckI x.op p q) := by unfold foldV; rw [if_neg h1, if_pos ⟨h2, h11⟩, ha, hb]
     simp [SLeK, hsucc]
     refine ⟨DLe_int (wrap_succ (by omega)), fun i hi => ?_⟩
     rw [hv]
     exact appRow_snocG knC none rfl hi
    ·obtain ⟨q1, q2⟩ := hno (by unfold foldV; rw [if_neg h1, if_neg (by omega)])
     refine ⟨q1, k + 1, by omega, by omega, srcs [(0, .id 49), (6, .id 6)], ?_⟩
     simp [SLeK, hsucc]
     exact ⟨DLe_int (wrap_succ (by omega)), q2⟩
 ·rw [List.take_of_length_le hge] at hl
  rw [← hl]
  exact DLe.refl _
def c_inline_Put : ACode :=
 (.seq (.reg [Ro 3 (.box true (Sv 0)), Ro 4 (.box true (Sv 1)), Ro 6 (.new [(.int .i64 0), (.slice none 0 0), (.int .i64 0), (.int .i64 0), (.int .i64 0), (.slice none 0 0), (.int .i64 0), (.slice none 0 0)]), Ro 7 (.mv (.c (.bool false)))])
 (.seq (.seq (.reg [Rl 13 (Mv 2) 0, Rl 14 (.bin .lss (Sv 13) (Ci 0)) 1, Rl 15 (Mv 14) 2, Rh 16 15 false (Mv 2) 3, Rh 17 15 false (Fd 3 1) 4, Rh 18 15 false (Ld 17) 5, Rh 19 15 false (.len false (Sv 18)) 6, Rh 20 15 false (.bin .geq (Sv 16) (Sv 19)) 7, Rl 21 (.pick (Sv 15) (.c (.bool true)) (Sv 20)) 8, Rl 22 (Mv 21) 9, Rh 23 22 false (Fd 3 1) 10, Rh 24 22 false (Ld 23) 11, Rh 25 22 false (Mv 2) 12, Rh 26 22 false (.idx true (Sv 24) (Sv 25) 6) 13, Rh 27 22 false (Fd 26 0) 14, Rh 28 22 false (Ld 27) 15, Rh 29 22 false (.bin .neq (Sv 28) (Ci 14)) 16, Rl 30 (.pick (Sv 22) (.c (.bool true)) (Sv 29)) 17, Rl 31 (Mv 30) 18, Rh 32 31 false (Fd 3 1) 19, Rh 33 31 false (Ld 32) 20, Rh 34 31 false (Mv 2) 21, Rh 35 31 false (.idx true (Sv 33) (Sv 34) 6) 22, Rh 36 31 false (Fd 35 5) 23, Rh 37 31 false (Ld 36) 24, Rh 38 31 false (.len false (Sv 37)) 25, Rh 39 31 false (Fd 4 0) 26, Rh 40 31 false (Ld 39) 27, Rh 41 31 false (.bin .neq (Sv 38) (Sv 40)) 28, Rl 42 (.pick (Sv 31) (.c (.bool true)) (Sv 41)) 29, Rl 43 (Mv 42) 30, Rh 44 43 false (Fd 4 2) 31, Rh 45 43 false (Fd 44 0) 32, Rh 46 43 false (Ld 45) 33, Rh 47 43 false (.bin .neq (Sv 46) (Ci 3)) 34, Rl 48 (.pick (Sv 43) (.c (.bool true)) (Sv 47)) 35, Rl 49 (Mv 48) 36, Rh 50 49 false (Fd 3 1) 37, Rh 51 49 false (Ld 50) 38, Rh 52 49 false (.len false (Sv 51)) 39, Rh 53 49 false (.bin .sub (Sv 52) (Ci 1)) 40, Rh 54 49 false (Fd 4 1) 41, Rh 55 49 false (Ld 54) 42, Rh 56 49 false (.len false (Sv 55)) 43, Rh 57 49 false (.bin .add (Sv 53) (Sv 56)) 44, Rh 58 49 false (.bin .gtr (Sv 57) (Ci 32)) 45, Rl 59 (.pick (Sv 49) (.c (.bool true)) (Sv 58)) 46])
 (.cond (Sv 59)
 (.seq (.reg [Ro 60 (Lk 3 8), Rn (.st (Sv 6) (Sv 60) 8), Ro 7 (.mv (.c (.bool false)))])
 .ret)
 .skip))
 (.seq (.seq (.reg [Ro 61 (Fd 3 1), Ro 62 (Ld 61), Ro 63 (Mv 2), Ro 64 (.idx true (Sv 62) (Sv 63) 6), Ro 65 (Fd 64 5), Ro 66 (Ld 65), Ro 8 (.new [(.slice none 0 0)]), Rn (.ini 1 (Sv 8) (Sv 66) 1)])
 (.frz (sl 8)))
 (.seq (.seq (.reg [Ro 67 (Fd 3 0), Ro 68 (Ld 67), Ro 69 (Mv 2), Ro 70 (.bin .add (Sv 68) (Sv 69)), Ro 9 (.new [(.int .i64 0)]), Rn (.ini 1 (Sv 9) (Sv 70) 1)])
 (.frz (sl 9)))
 (.seq (.seq (.reg [Ro 71 (.mkfn 123 [Sv 4, Sv 8, Sv 9]), Ro 72 (.bld [.nilFunc] [(0, 1, (Sv 71))]), Ro 10 (.new [.nilFunc]), Rn (.ini 1 (Sv 10) (Sv 72) 1)])
 (.frz (sl 10)))
 (.seq (.seq (.reg [Ro 73 (.mkfn 124 [Sv 9, Sv 10, Sv 4]), Ro 74 (.bld [.nilFunc] [(0, 1, (Sv 73))]), Ro 11 (.new [.nilFunc]), Rn (.ini 1 (Sv 11) (Sv 74) 1)])
 (.frz (sl 11)))
 (.seq (.reg [Rl 75 (Fd 3 1) 0, Rl 76 (Ld 75) 1, Rl 77 (Mv 2) 2, Rl 78 (.slc (Sv 76) none (some (Sv 77)) 6) 3, Rl 79 (Lk 10 1) 4, Rl 80 (Fd 4 1) 5, Rl 81 (Ld 80) 6, Rl 82 (.call true (.f 126) [Sv 79, Sv 81]) 7, Rl 83 (Lk 11 1) 8, Rl 84 (Fd 3 1) 9, Rl 85 (Ld 84) 10, Rl 86 (Mv 2) 11, Rl 87 (.bin .add (Sv 86) (Ci 1)) 12, Rl 88 (.slc (Sv 85) (some (Sv 87)) none 6) 13, Rl 89 (.call true (.f 126) [Sv 83, Sv 88]) 14, Rl 90 (.mksl 1 3 [(.slice none 0 0), (.slice none 0 0), (.slice none 0 0)] [(0, 1, (Sv 78)), (1, 1, (Sv 82)), (2, 1, (Sv 89))]) 15, Rl 91 (.call true (.f 125) [Sv 90]) 16, Rl 12 (Mv 91) 17])
 (.seq (.reg [Rl 92 (Fd 3 0) 0, Rl 93 (Ld 92) 1, Rl 94 (Mv 12) 2, Rl 95 (Lk 11 1) 3, Rl 96 (Fd 3 2) 4, Rl 97 (Lk 96 6) 5, Rl 98 (.call true (.f 127) [Sv 95, Sv 97]) 6, Rl 99 (.bld [(.int .i64 0), (.slice none 0 0), (.int .i64 0), (.int .i64 0), (.int .i64 0), (.slice none 0 0), (.int .i64 0), (.slice none 0 0)] [(0, 1, (Sv 93)), (1, 1, (Sv 94)), (2, 6, (Sv 98))]) 7, ⟨none, none, (.st (Sv 6) (Sv 99) 8), (some (8, []))⟩, Rl 7 (.mv (.c (.bool true))) 9])
 .ret))))))))
def r_inline_Put : List ARes := [(.cell (sl 6) (some 8)), (.tmp (sl 7))]
theorem t_inline_Put : (Tryz.f102).body.bind (trCode Tryz.prog 8 (Tryz.f102).ntmps [6] [] (drOk 8)) = some c_inline_Put := by kernel_rfl
theorem u_inline_Put : trRess Tryz.prog 8 (Tryz.f102).results.toList = some r_inline_Put := by kernel_rfl
def c_inline_Put_1 : ACode :=
 (.seq (.reg [Ro 5 (.mv (Ci 0))])
 (.seq (.seq (.reg [Ro 6 (Mv 0), Ro 7 (Fd 1 0), Ro 8 (Ld 7), Ro 9 (.bin .lss (Sv 6) (Sv 8))])
 (.cond (Sv 9)
 (.seq (.reg [Ro 10 (Ld 2), Ro 11 (Mv 0), Ro 12 (.idx true (Sv 10) (Sv 11) 1), Ro 13 (Ld 12), Ro 5 (Mv 13)])
 .ret)
 .skip))
 (.seq (.reg [Ro 14 (Ld 3), Ro 15 (Mv 0), Ro 16 (.bin .add (Sv 14) (Sv 15)), Ro 17 (Fd 1 0), Ro 18 (Ld 17), Ro 19 (.bin .sub (Sv 16) (Sv 18)), Ro 5 (Mv 19)])
 .ret)))
def r_inline_Put_1 : List ARes := [(.tmp (sl 5))]
theorem t_inline_Put_1 : (Tryz.f123).body.bind (trCode Tryz.prog 8 (Tryz.f123).ntmps [] [] (drOk 8)) = some c_inline_Put_1 := by kernel_rfl
theorem u_inline_Put_1 : trRess Tryz.prog 8 (Tryz.f123).results.toList = some r_inline_Put_1 := by kernel_rfl
def c_inline_Put_2 : ACode :=
 (.seq (.reg [Ro 5 (.mv (Ci 0))])
 (.seq (.block 0
 (.seq (.reg [Ro 7 (Mv 0), Ro 8 (Ld 1), Ro 9 (.bin .lss (Sv 7) (Sv 8)), Ro 6 (Mv 9)])
 (.cond (Sv 6)
 (.seq (.reg [Ro 10 (Mv 0), Ro 5 (Mv 10)])
 .ret)
 (.seq (.reg [Ro 12 (Mv 0), Ro 13 (Ld 1), Ro 14 (.bin .eql (Sv 12) (Sv 13)), Ro 11 (Mv 14)])
 (.cond (Sv 11)
 (.seq (.reg [Ro 15 (Fd 2 0), Ro 16 (Ld 15), Ro 17 (Fd 3 2), Ro 18 (Fd 17 1), Ro 19 (Ld 18), Ro 20 (.call true (Sv 16) [Sv 19]), Ro 5 (Mv 20)])
 .ret)
 .skip)))))
 (.seq (.reg [Ro 21 (Mv 0), Ro 22 (.bin .sub (Sv 21) (Ci 1)), Ro 23 (Fd 3 1), Ro 24 (Ld 23), Ro 25 (.len false (Sv 24)), Ro 26 (.bin .add (Sv 22) (Sv 25)), Ro 5 (Mv 26)])
 .ret)))
def r_inline_Put_2 : List ARes := [(.tmp (sl 5))]
theorem t_inline_Put_2 : (Tryz.f124).body.bind (trCode Tryz.prog 8 (Tryz.f124).ntmps [] [] (drOk 8)) = some c_inline_Put_2 := by kernel_rfl
theorem u_inline_Put_2 : trRess Tryz.prog 8 (Tryz.f124).results.toList = some r_inline_Put_2 := by kernel_rfl
def c_inline_joined_api_Inst_ : ACode :=
 (.seq (.reg [Ro 2 (.mv (.c (.slice none 0 0)))])
 (.seq (.reg [Ro 3 (Mv 0), Ro 4 (.call true (.f 140) [Sv 3]), Ro 2 (Mv 4)])
 .ret))
def r_inline_joined_api_Inst_ : List ARes := [(.tmp (sl 2))]
theorem t_inline_joined_api_Inst_ : (Tryz.f125).body.bind (trCode Tryz.prog 8 (Tryz.f125).ntmps [] [] (drOk 8)) = some c_inline_joined_api_Inst_ := by kernel_rfl
theorem u_inline_joined_api_Inst_ : trRess Tryz.prog 8 (Tryz.f125).results.toList = some r_inline_joined_api_Inst_ := by kernel_rfl
def c__inline_numbers__insts : ACode :=
 (.seq (.reg [Ro 2 (.box true (Sv 0)), Ro 4 (.mv (.c (.slice none 0 0)))])
 (.seq (.reg [Ro 5 (.mv (.c (.slice none 0 0)))])
 (.seq (.seq (.reg [Ro 8 (Mv 1), Ro 9 (.len false (Sv 8)), Ro 10 (.mv (Ci 0))])
 (.block 0
 (.loop (.seq (.reg [Ro 11 (.bin .lss (Sv 10) (Sv 9))])
 (.seq (.cond (Sv 11)
 .skip
 (.exit 0))
 (.seq (.block 1
 (.seq (.seq (.reg [Ro 12 (.idx true (Sv 8) (Sv 10) 6), Ro 13 (Lk 12 6), Ro 7 (.new [(.int .i64 0), (.int .i64 0), (.int .i64 0), (.int .u64 0), (.string ⟨#[]⟩), (.slice none 0 0)]), Rn (.ini 1 (Sv 7) (Sv 13) 6)])
 (.frz (sl 7)))
 (.reg [Ro 14 (Mv 5), Ro 15 (Lk 2 1), Ro 16 (Lk 7 6), Ro 17 (.call true (.f 141) [Sv 15, Sv 16]), Ro 18 (.mksl 6 1 [(.int .i64 0), (.int .i64 0), (.int .i64 0), (.int .u64 0), (.string ⟨#[]⟩), (.slice none 0 0)] [(0, 6, (Sv 17))]), Ro 19 (.app 53 6 72 (Sv 14) (Sv 18)), Ro 5 (Mv 19)])))
 (.reg [Ro 20 (.bin .add (Sv 10) (Ci 1)), Ro 10 (Mv 20)])))))))
 (.seq (.reg [Ro 21 (Mv 5), Ro 4 (Mv 21)])
 .ret))))
def r__inline_numbers__insts : List ARes := [(.tmp (sl 4))]
theorem t__inline_numbers__insts : (Tryz.f126).body.bind (trCode Tryz.prog 8 (Tryz.f126).ntmps [4, 5, 14, 19, 21] [] (drOk 8)) = some c__inline_numbers__insts := by kernel_rfl
theorem u__inline_numbers__insts : trRess Tryz.prog 8 (Tryz.f126).results.toList = some r__inline_numbers__insts := by kernel_rfl
def c__inline_numbers__end : ACode :=
 (.seq (.reg [Ro 2 (.box true (Sv 0)), Ro 3 (.box false (Sv 1)), Ro 4 (.new [(.int .i64 0), (.int .i64 0), (.int .i64 0), (.slice none 0 0), (.int .i64 0), (.slice none 0 0)])])
 (.seq (.reg [Rl 5 (Lk 2 1) 0, Rl 6 (Fd 3 3) 1, Rl 7 (.ld false (Sv 6) none) 2, Rl 8 (.call false (.f 142) [Sv 5, Sv 7]) 3, Rl 9 (Lk 2 1) 4, Rl 10 (Fd 3 5) 5, Rl 11 (.ld false (Sv 10) none) 6, Rl 12 (.call false (.f 142) [Sv 9, Sv 11]) 7, Rl 13 (Fd 3 3) 8, ⟨none, none, (.st (Sv 13) (Sv 8) 1), (some (9, []))⟩, Rl 14 (Fd 3 5) 10, ⟨none, none, (.st (Sv 14) (Sv 12) 1), (some (11, []))⟩])
 (.seq (.seq (.reg [Ro 15 (Fd 3 0), Ro 16 (.ld false (Sv 15) none), Ro 17 (.bin .neq (Sv 16) (Ci 1))])
 (.cond (Sv 17)
 (.reg [Ro 18 (Fd 2 0), Ro 19 (Ld 18), Ro 20 (Fd 3 1), Ro 21 (.ld false (Sv 20) none), Ro 22 (.call false (Sv 19) [Sv 21]), Ro 23 (Fd 3 1), Rn (.st (Sv 23) (Sv 22) 1)])
 .skip))
 (.seq (.reg [Ro 24 (.ld false (Sv 3) (some 6)), Rn (.st (Sv 4) (Sv 24) 6)])
 .ret))))
def r__inline_numbers__end : List ARes := [(.cell (sl 4) (some 6))]
theorem t__inline_numbers__end : (Tryz.f127).body.bind (trCode Tryz.prog 8 (Tryz.f127).ntmps [3, 4, 6, 7, 10, 11, 13, 14, 15, 16, 20, 21, 23, 24] [] (drOk 8)) = some c__inline_numbers__end := by kernel_rfl
theorem u__inline_numbers__end : trRess Tryz.prog 8 (Tryz.f127).results.toList = some r__inline_numbers__end := by kernel_rfl
def c__inline_numbers__inst : ACode :=
 (.seq (.reg [Ro 2 (.box true (Sv 0)), Ro 3 (.box false (Sv 1)), Ro 4 (.new [(.int .i64 0), (.int .i64 0), (.int .i64 0), (.int .u64 0), (.string ⟨#[]⟩), (.slice none 0 0)])])
 (.seq (.reg [Ro 6 (Fd 3 0), Ro 7 (.ld false (Sv 6) none), Ro 8 (.bin .geq (Sv 7) (Ci 2)), Ro 9 (Mv 8), Rg 10 9 true (Fd 3 0), Rg 11 9 true (.ld false (Sv 10) none), Rg 12 9 true (.bin .leq (Sv 11) (Ci 11)), Ro 13 (.pick (Sv 9) (Sv 12) (.c (.bool false))), Ro 5 (Mv 13)])
 (.seq (.seq (.reg [Ro 14 (Mv 5), Ro 15 (Mv 14), Rg 16 15 false (Fd 3 0), Rg 17 15 false (.ld false (Sv 16) none), Rg 18 15 false (.bin .eql (Sv 17) (Ci 13)), Ro 19 (.pick (Sv 15) (.c (.bool true)) (Sv 18)), Ro 20 (Mv 19), Rg 21 20 false (Fd 3 0), Rg 22 20 false (.ld false (Sv 21) none), Rg 23 20 false (.bin .eql (Sv 22) (Ci 16)), Ro 24 (.pick (Sv 20) (.c (.bool true)) (Sv 23))])
 (.cond (Sv 24)
 (.reg [Ro 25 (Fd 2 0), Ro 26 (Ld 25), Ro 27 (Fd 3 1), Ro 28 (.ld false (Sv 27) none), Ro 29 (.call false (Sv 26) [Sv 28]), Ro 30 (Fd 3 1), Rn (.st (Sv 30) (Sv 29) 1)])
 .skip))
 (.seq (.seq (.reg [Ro 31 (Mv 5)])
 (.cond (Sv 31)
 (.reg [Ro 32 (Fd 2 0), Ro 33 (Ld 32), Ro 34 (Fd 3 2), Ro 35 (.ld false (Sv 34) none), Ro 36 (.call false (Sv 33) [Sv 35]), Ro 37 (Fd 3 2), Rn (.st (Sv 37) (Sv 36) 1)])
 .skip))
 (.seq (.reg [Ro 38 (Lk 2 1), Ro 39 (Fd 3 5), Ro 40 (.ld false (Sv 39) none), Ro 41 (.call false (.f 142) [Sv 38, Sv 40]), Ro 42 (Fd 3 5), Rn (.st (Sv 42) (Sv 41) 1)])
 (.seq (.reg [Ro 43 (.ld false (Sv 3) (some 6)), Rn (.st (Sv 4) (Sv 43) 6)])
 .ret))))))
def r__inline_numbers__inst : List ARes := [(.cell (sl 4) (some 6))]
theorem t__inline_numbers__inst : (Tryz.f141).body.bind (trCode Tryz.prog 8 (Tryz.f141).ntmps [3, 4, 6, 7, 10, 11, 16, 17, 21, 22, 27, 28, 30, 34, 35, 37, 39, 40, 42, 43] [] (drOk 8)) = some c__inline_numbers__inst := by kernel_rfl
theorem u__inline_numbers__inst : trRess Tryz.prog 8 (Tryz.f141).results.toList = some r__inline_numbers__inst := by kernel_rfl
def c__inline_numbers__all : ACode :=
 (.seq (.reg [Ro 2 (.box true (Sv 0)), Ro 4 (.mv (.c (.slice none 0 0)))])
 (.seq (.reg [Ro 5 (.mv (.c (.slice none 0 0)))])
 (.seq (.seq (.reg [Ro 8 (Mv 1), Ro 9 (.len false (Sv 8)), Ro 10 (.mv (Ci 0))])
 (.block 0
 (.loop (.seq (.reg [Ro 11 (.bin .lss (Sv 10) (Sv 9))])
 (.seq (.cond (Sv 11)
 .skip
 (.exit 0))
 (.seq (.block 1
 (.seq (.reg [Ro 12 (.idx true (Sv 8) (Sv 10) 1), Ro 13 (Ld 12), Ro 7 (Mv 13)])
 (.reg [Ro 14 (Mv 5), Ro 15 (Fd 2 0), Ro 16 (Ld 15), Ro 17 (Mv 7), Ro 18 (.call true (Sv 16) [Sv 17]), Ro 19 (.mksl 1 1 [(.int .i64 0)] [(0, 1, (Sv 18))]), Ro 20 (.app 3 1 8 (Sv 14) (Sv 19)), Ro 5 (Mv 20)])))
 (.reg [Ro 21 (.bin .add (Sv 10) (Ci 1)), Ro 10 (Mv 21)])))))))
 (.seq (.reg [Ro 22 (Mv 5), Ro 4 (Mv 22)])
 .ret))))
def r__inline_numbers__all : List ARes := [(.tmp (sl 4))]
theorem t__inline_numbers__all : (Tryz.f142).body.bind (trCode Tryz.prog 8 (Tryz.f142).ntmps [4, 5, 14, 20, 22] [] (drOk 8)) = some c__inline_numbers__all := by kernel_rfl
theorem u__inline_numbers__all : trRess Tryz.prog 8 (Tryz.f142).results.toList = some r__inline_numbers__all := by kernel_rfl

theorem appRow_int {ys : List Int} {k : Nat} {y : Int} (h : ys[k]?.getD 0 = y) : ∀ i, i < k + 1 → appRow k (fun i => intC (ys[i]?.getD 0)) (fun i => List.take 1 (List.drop i [DV.int y])) i = intC (ys[i]?.getD 0) := by
 intro i hi
 unfold appRow
 split
 ·rfl
 ·obtain rfl : i = k := by omega
  rw [h]
  simp [intC]
set_option maxRecDepth 10000 in
theorem mapInst_of (g : Int → Int) (x : Inst) {a b : Int} (ha : a = if isOne x.op then g x.a else x.a) (hb : b = if isTwo x.op then g x.b else x.b) : [DV.int x.op, DV.int a, DV.int b, DV.lit (Value.int IntKind.u64 x.k), DV.str x.name, intsD (x.args.map g)] = instC (mapInst g x) := by
 subst ha; subst hb
 rfl
theorem appRow_inst {ys : List Inst} {k : Nat} {y : Inst} (h : ys[k]?.getD default = y) : ∀ i, i < k + 1 → appRow k (fun i => instC (ys[i]?.getD default)) (fun i => List.take 6 (List.drop (i * 6) [DV.int y.op, DV.int y.a, DV.int y.b, DV.lit (Value.int IntKind.u64 y.k), DV.str y.name, intsD y.args])) i = instC (ys[i]?.getD default) := by
 intro i hi
 unfold appRow
 split
 ·rfl
 ·obtain rfl : i = k := by omega
  rw [h]
  simp [instC]
def Tells (F : FuncId) (caps : List DV) (dom : Int → Prop) (g : Int → Int) : Prop := ∀ v, dom v → APure Tryz.prog F (.int v :: caps) (.int (g v))
set_option maxRecDepth 10000 in
theorem numAll_pure {F : FuncId} {caps : List DV} {dom : Int → Prop} {g : Int → Int} (hF : Tells F caps dom g) (l : List Int) (hl : l.length ≤ 17592186044416) (hin : AllIn dom l) :
  APure Tryz.prog 142 [.agg [.fn F caps], intsD l] (intsD (l.map g)) := by
 refine apureG _ [] Tryz.func142 (by kernel_rfl) t__inline_numbers__all u__inline_numbers__all rfl rfl (fun _ => ?_)
 obtain ⟨ys, hys⟩ : ∃ ys, ys = l.map g := ⟨_, rfl⟩
 rw [← hys]
 have hyl : ys.length = l.length := by rw [hys]; simp
 have hyk : ∀ k (h : k < l.length), ys[k]?.getD 0 = g l[k] := fun k h => by rw [hys]; simp [h]
 clear hys
 simp [c__inline_numbers__all, r__inline_numbers__all]
 refine loop_c (κ := Nat) (fun k => k ≤ l.length) (fun k => l.length - k) (fun k => [(sl 10, .int k), (sl 5, .own 0 k)]) (fun k => [(0, .row 3 1 k (fun i => intC (ys[i]?.getD 0)))]) 1 0 (srcs [(0, .nil)]) (by simp) (by simp <;> (intros; omega)) ?_
 intro k hk
 simp
 refine ⟨fun hlt => ?_, fun hge => intsD_le (by omega) (fun i hi => by rw [getD_some hi])⟩
 have hc := hF _ (hin k hlt)
 rw [getD_some hlt]
 refine ⟨hlt, call_plain _ (by simp) (by simp) (fun _ => by simp) (fun _ => hc) ?_⟩
 simp
 refine ⟨by omega, k + 1, by omega, by omega, srcs [(0, .id 11)], ?_⟩
 simp
 exact ⟨DLe_int (wrap_succ (by omega)), appRow_int (hyk k hlt)⟩
set_option maxRecDepth 10000 in
theorem numInst_pure {F : FuncId} {caps : List DV} {dom : Int → Prop} {g : Int → Int} (hF : Tells F caps dom g) (x : Inst) (hl : x.args.length ≤ 17592186044416) (hin : InstIn dom x) :
  APure Tryz.prog 141 [.agg [.fn F caps], .agg (instC x)] (.agg (instC (mapInst g x))) := by
 refine apureG _ [] Tryz.func141 (by kernel_rfl) t__inline_numbers__inst u__inline_numbers__inst rfl rfl (fun _ => ?_)
 have hc := numAll_pure hF x.args hl hin.args
 have fin : ∀ a b : Int, (a = if isOne x.op then g x.a else x.a) → (b = if isTwo x.op then g x.b else x.b) → DLe (.agg [DV.int x.op, DV.int a, DV.int b, DV.lit (Value.int IntKind.u64 x.k), DV.str x.name, intsD (x.args.map g)]) (.agg (instC (mapInst g x))) := fun a b ha hb => by
  rw [← mapInst_of g x ha hb]; exact DLe.refl _
 by_cases h2 : isTwo x.op = true
 ·have h1 : isOne x.op = true := by simp [isOne, h2]
  have ha := hF _ (hin.a h1)
  have hb := hF _ (hin.b h2)
  have fin := fin (g x.a) (g x.b) (by rw [if_pos h1]) (by rw [if_pos h2])
  simp [isTwo] at h2
  simp [c__inline_numbers__inst, r__inline_numbers__inst, h2]
  refine call_plain _ (by simp) (by simp) (fun _ => by simp) (fun _ => ha) ?_
  simp
  refine call_plain _ (by simp) (by simp) (fun _ => by simp) (fun _ => hb) ?_
  simp
  refine call_plain _ (by simp) (by simp) (fun _ => rfl) (fun _ => hc) ?_
  simp
  exact fin
 ·have fin := fun a ha => fin a x.b ha (by rw [if_neg h2])
  by_cases h1 : isOne x.op = true
  ·have ha := hF _ (hin.a h1)
   have fin := fin (g x.a) (by rw [if_pos h1])
   have h1' := (isOne_iff _).1 h1
   rw [isTwo_iff] at h2
   rcases (by omega : x.op = 13 ∨ x.op = 16) with h | h
   all_goals
    simp [h] at fin
    simp [c__inline_numbers__inst, r__inline_numbers__inst, h]
    refine call_plain _ (by simp) (by simp) (fun _ => by simp) (fun _ => ha) ?_
    simp
    refine call_plain _ (by simp) (by simp) (fun _ => rfl) (fun _ => hc) ?_
    simp
    exact fin
  ·have fin := fin x.a (by rw [if_neg h1])
   rw [isOne_iff] at h1
   have h13 : ¬ x.op = 13 := by omega
   have h16 : ¬ x.op = 16 := by omega
   rcases (by omega : ¬ 2 ≤ x.op ∨ (2 ≤ x.op ∧ ¬ x.op ≤ 11)) with h | h
   all_goals
    simp [c__inline_numbers__inst, r__inline_numbers__inst, h13, h16, h]
    refine call_plain _ (by simp) (by simp) (fun _ => rfl) (fun _ => hc) ?_
    simp
    exact fin
set_option maxRecDepth 10000 in
theorem numInsts_pure {F : FuncId} {caps : List DV} {dom : Int → Prop} {g : Int → Int} (hF : Tells F caps dom g) (l : List Inst) (hl : l.length ≤ 1000) (hx : ∀ k (h : k < l.length), l[k].args.length ≤ 17592186044416 ∧ InstIn dom l[k]) :
  APure Tryz.prog 126 [.agg [.fn F caps], insD l] (insD (l.map (mapInst g))) := by
 refine apureG _ [] Tryz.func126 (by kernel_rfl) t__inline_numbers__insts u__inline_numbers__insts rfl rfl (fun _ => ?_)
 obtain ⟨ys, hys⟩ : ∃ ys, ys = l.map (mapInst g) := ⟨_, rfl⟩
 rw [← hys]
 have hyl : ys.length = l.length := by rw [hys]; simp
 have hyk : ∀ k (h : k < l.length), ys[k]?.getD default = mapInst g l[k] := fun k h => by rw [hys]; simp [h]
 clear hys
 simp [c__inline_numbers__insts, r__inline_numbers__insts]
 refine loop_c (κ := Nat) (fun k => k ≤ l.length) (fun k => l.length - k) (fun k => [(sl 10, .int k), (sl 5, .own 0 k)]) (fun k => [(0, .row 53 6 k (fun i => instC (ys[i]?.getD default)))]) 1 0 (srcs [(0, .nil)]) (by simp) (by simp <;> (intros; omega)) ?_
 intro k hk
 simp
 refine ⟨fun hlt => ?_, fun hge => insD_le (by omega) (fun i hi => by rw [getD_some hi])⟩
 have hc := numInst_pure hF l[k] (hx k hlt).1 (hx k hlt).2
 rw [getD_some hlt]
 refine ⟨hlt, call_plain _ (by simp) (by simp) (fun _ => rfl) (fun _ => hc) ?_⟩
 simp
 refine ⟨by omega, k + 1, by omega, by omega, srcs [(0, .id 11)], ?_⟩
 simp
 exact ⟨DLe_int (wrap_succ (by omega)), appRow_inst (hyk k hlt)⟩
set_option maxRecDepth 10000 in
theorem numEnd_pure {F : FuncId} {caps : List DV} {dom : Int → Prop} {g : Int → Int} (hF : Tells F caps dom g) (b : Block) (hl : b.args.length ≤ 17592186044416) (hl' : b.elses.length ≤ 17592186044416) (hin : AllIn dom b.args) (hin' : AllIn dom b.elses) (ht : ¬ b.kind = 1 → dom b.ta) :
  APure Tryz.prog 127 [.agg [.fn F caps], .agg (termC b)] (.agg [.int b.kind, .int (if b.kind = 1 then b.ta else g b.ta), .int b.to, intsD (b.args.map g), .int b.els, intsD (b.elses.map g)]) := by
 refine apureG _ [] Tryz.func127 (by kernel_rfl) t__inline_numbers__end u__inline_numbers__end rfl rfl (fun _ => ?_)
 have hc := numAll_pure hF b.args hl hin
 have hc' := numAll_pure hF b.elses hl' hin'
 simp [c__inline_numbers__end, r__inline_numbers__end]
 refine call_plain _ (by simp) (by simp) (fun _ => rfl) (fun _ => hc) ?_
 simp
 refine call_plain _ (by simp) (by simp) (fun _ => rfl) (fun _ => hc') ?_
 simp
 refine ⟨fun h => ?_, fun h => ?_⟩
 ·have hd := hF _ (ht h)
  refine call_plain _ (by simp) (by simp) (fun _ => by simp) (fun _ => hd) ?_
  simp [h]
 ·simp [h]
def c_slices_Concat___api_Inst_api_Inst_ : ACode :=
 (.seq (.reg [Ro 2 (.mv (.c (.slice none 0 0)))])
 (.seq (.reg [Ro 3 (.mv (Ci 0))])
 (.seq (.seq (.reg [Ro 9 (Mv 0), Ro 10 (.len false (Sv 9)), Ro 11 (.mv (Ci 0))])
 (.block 0
 (.loop (.seq (.reg [Ro 12 (.bin .lss (Sv 11) (Sv 10))])
 (.seq (.cond (Sv 12)
 .skip
 (.exit 0))
 (.seq (.block 1
 (.seq (.reg [Ro 13 (.idx true (Sv 9) (Sv 11) 1), Ro 14 (Ld 13), Ro 5 (Mv 14)])
 (.seq (.reg [Ro 15 (Mv 3), Ro 16 (Mv 5), Ro 17 (.len false (Sv 16)), Ro 18 (.bin .add (Sv 15) (Sv 17)), Ro 3 (Mv 18)])
 (.seq (.reg [Ro 19 (Mv 3), Ro 20 (.bin .lss (Sv 19) (Ci 0))])
 (.cond (Sv 20)
 (.reg [⟨(some (sl 21)), none, .bad, none⟩, ⟨none, none, .bad, none⟩])
 .skip)))))
 (.reg [Ro 22 (.bin .add (Sv 11) (Ci 1)), Ro 11 (Mv 22)])))))))
 (.seq (.reg [Ro 23 (Mv 3), Ro 24 (.callo 53 6 (.f 147) [(.c (.slice none 0 0)), Sv 23]), Ro 6 (Mv 24)])
 (.seq (.seq (.reg [Ro 25 (Mv 0), Ro 26 (.len false (Sv 25)), Ro 27 (.mv (Ci 0))])
 (.block 2
 (.loop (.seq (.reg [Ro 28 (.bin .lss (Sv 27) (Sv 26))])
 (.seq (.cond (Sv 28)
 .skip
 (.exit 2))
 (.seq (.block 3
 (.seq (.reg [Ro 29 (.idx true (Sv 25) (Sv 27) 1), Ro 30 (Ld 29), Ro 8 (Mv 30)])
 (.reg [Ro 31 (Mv 6), Ro 32 (Mv 8), Ro 33 (.app 53 6 72 (Sv 31) (Sv 32)), Ro 6 (Mv 33)])))
 (.reg [Ro 34 (.bin .add (Sv 27) (Ci 1)), Ro 27 (Mv 34)])))))))
 (.seq (.reg [Ro 35 (Mv 6), Ro 2 (Mv 35)])
 .ret))))))
def r_slices_Concat___api_Inst_api_Inst_ : List ARes := [(.tmp (sl 2))]
theorem t_slices_Concat___api_Inst_api_Inst_ : (Tryz.f140).body.bind (trCode Tryz.prog 8 (Tryz.f140).ntmps [2, 6, 24, 31, 33, 35] [(147, 53, 6)] (drOk 8)) = some c_slices_Concat___api_Inst_api_Inst_ := by kernel_rfl
theorem u_slices_Concat___api_Inst_api_Inst_ : trRess Tryz.prog 8 (Tryz.f140).results.toList = some r_slices_Concat___api_Inst_api_Inst_ := by kernel_rfl
theorem info_inst : (Tryz.prog.info? 53).map (fun i => (i.zero, i.size, i.bytes)) = some (some (.agg #[.int .i64 0, .int .i64 0, .int .i64 0, .int .u64 0, .string ⟨#[]⟩, .slice none 0 0]), 6, 72) := by kernel_rfl
theorem body_grow : HasBody Tryz.prog 147 := by
 cases hb : (Tryz.f147).body with
 | none => cases hb
 | some c => exact ⟨_, c, Tryz.func147, by kernel_rfl, hb⟩
set_option maxHeartbeats 1000000 in
set_option maxRecDepth 100000 in
theorem grow_own (n : Nat) (hn : n ≤ 1000) :
  AOwn Tryz.prog 147 [.lit (.slice none 0 0), .int n] 53 6 0 (fun _ => []) := by
 refine ⟨body_grow, fun X w vs _ hvs => ?_⟩
 obtain ⟨l⟩ := vs
 have hvs' : DReps X w l [.lit (.slice none 0 0), .int n] := hvs
 obtain ⟨v1, l1, rfl, h1, h2⟩ := hvs'.uncons
 obtain ⟨v2, l2, rfl, h3, h4⟩ := h2.uncons
 obtain rfl := h4.unnil
 cases h1
 cases h3
 clear h2 h4 hvs hvs'
 by_cases h0 : n = 0
 ·subst h0
  go_enter Tryz.func147, Tryz.ntmps147
  go_wp2_with fail
  go_ret
  exact ⟨Ext.refl _, _, rfl, fun _ => [], by simpa using World.ownsRow_nil _ _ _ _, fun i hi => by omega⟩
 ·obtain ⟨i0, hi, hz0, hz1, hz2⟩ := info_parts info_inst
  have hpos : 0 < n := by omega
  have hzr := Lib.run_append_nil_zeros (P := Tryz.prog) w 54 3 54 53 i0 _ .i64 .i64 Tryz.underlying54 Tryz.underlying3 hi hz0 n hpos (by omega) (by omega) (by rw [hz2]; omega)
  go_enter Tryz.func147, Tryz.ntmps147
  go_wp2_with (at_builtin; refine Lib.wpList_append_run _ rfl _ _ _ _ rfl _ _ rfl rfl _ _ hzr ?_)
  go_ret
  have hge := grownCap_ge w n 0 53
  have hle := grownCap_le_maxLen w n 0 53 (by unfold maxLen; omega)
  refine ⟨(Ext.drew w).trans (Ext.alloc _ _), _, rfl, fun _ => [], ?_, fun i hi => by omega⟩
  refine ⟨by simp, .inr ⟨w.heap.size, _, _, rfl, Nat.le_refl _, heap_alloc_new w.drew _, Nat.zero_le _, hle, ?_, by simp⟩⟩
  rw [Array.size_append, size_zeroCells, size_zeroCells]
  show n * 6 + (_ - n) * 6 = _ * 6
  omega
structure LeafOk (leaf : Block) (args : List Int) (first : Int) : Prop where
 p : (args.length : Int) = leaf.params
 p0 : 0 ≤ leaf.params
 p6 : leaf.params ≤ 6
 n : leaf.ins.length ≤ 32
 f0 : 0 ≤ first
 f1 : first ≤ 100
 t : upTo (leaf.params + leaf.ins.length) leaf.ta
def caps1 (leaf : Block) (args : List Int) (first : Int) : List DV := [.cref (blockC leaf) 0, .cref [intsD args] 0, .cref [.int first] 0]
def caps2 (leaf : Block) (args : List Int) (first : Int) : List DV := [.cref [.int first] 0, .cref [.fn 123 (caps1 leaf args first)] 0, .cref (blockC leaf) 0]
set_option maxRecDepth 10000 in
theorem put1_pure {leaf : Block} {args : List Int} {first : Int} (h : LeafOk leaf args first) : Tells 123 (caps1 leaf args first) (upTo 1000) (inNum leaf.params args first) := by
 intro v hv
 obtain ⟨hp, p0, p6, n, f0, f1, t⟩ := h
 refine apureG _ [] Tryz.func123 (by kernel_rfl) t_inline_Put_1 u_inline_Put_1 rfl rfl (fun _ => ?_)
 have hw : IntKind.i64.wrap (first + v) = first + v := wrap_in (by have := hv.1; have := hv.2; omega)
 have hw' : IntKind.i64.wrap (first + v - leaf.params) = first + v - leaf.params := wrap_in (by have := hv.1; have := hv.2; omega)
 simp [c_inline_Put_1, r_inline_Put_1, caps1, hw, hw']
 refine ⟨fun hlt => ⟨⟨hv.1, by omega⟩, DLe_int ?_⟩, fun hge => DLe_int ?_⟩
 ·unfold inNum; rw [if_pos hlt]
 ·unfold inNum; rw [if_neg (by omega)]
set_option maxRecDepth 10000 in
theorem put2_pure {leaf : Block} {args : List Int} {first : Int} (h : LeafOk leaf args first) : Tells 124 (caps2 leaf args first) (upTo 1000) (afterNum leaf.params args first leaf.ta leaf.ins.length) := by
 intro v hv
 have h1 := put1_pure h leaf.ta ⟨h.t.1, by have := h.t.2; have := h.p6; have := h.n; omega⟩
 obtain ⟨hp, p0, p6, n, f0, f1, t⟩ := h
 refine apureG _ [] Tryz.func124 (by kernel_rfl) t_inline_Put_2 u_inline_Put_2 rfl rfl (fun _ => ?_)
 have hw : IntKind.i64.wrap (v - 1) = v - 1 := wrap_in (by have := hv.1; have := hv.2; omega)
 have hw' : IntKind.i64.wrap (v - 1 + leaf.ins.length) = v - 1 + leaf.ins.length := wrap_in (by have := hv.1; have := hv.2; omega)
 simp [c_inline_Put_2, r_inline_Put_2, caps2, hw, hw']
 refine ⟨fun hlt => DLe_int ?_, fun hge => ⟨fun he => ?_, fun hne => DLe_int ?_⟩⟩
 ·unfold afterNum; rw [if_pos hlt]
 ·refine call_plain _ (by simp) (by simp) (fun _ => by simp) (fun _ => h1) ?_
  simp
  refine DLe_int ?_
  unfold afterNum; rw [if_neg (by omega), if_pos he]
 ·unfold afterNum; rw [if_neg (by omega), if_neg hne]
theorem flat_facts {α : Type} (ls : List (List α)) (htot : ls.flatten.length ≤ 1000) : ∃ (fl : List α) (sz : Nat → Nat), sz 0 = 0 ∧ (∀ k (h : k < ls.length), sz (k + 1) = sz k + ls[k].length) ∧ (∀ k, k ≤ ls.length → sz k ≤ 1000) ∧ (sz ls.length = fl.length ∧ fl = ls.flatten) ∧
  ∀ k (h : k < ls.length) j, j < ls[k].length → fl[sz k + j]? = ls[k][j]? := by
 refine ⟨ls.flatten, fun k => (ls.take k).flatten.length, by simp, fun k h => ?_, fun k h => ?_, ⟨by simp, rfl⟩, fun k h j hj => ?_⟩
 ·simp only []
  rw [List.take_succ_eq_append_getElem h, List.flatten_append, List.length_append]
  simp
 ·have e : ls.flatten = (ls.take k).flatten ++ (ls.drop k).flatten := by rw [← List.flatten_append, List.take_append_drop]
  rw [e, List.length_append] at htot
  simp only []
  omega
 ·have e : ls.flatten = (ls.take k).flatten ++ (ls[k] ++ (ls.drop (k + 1)).flatten) := by
   conv => lhs; rw [← List.take_append_drop k ls]
   rw [List.flatten_append, List.drop_eq_getElem_cons h, List.flatten_cons]
  rw [e, List.getElem?_append_right (by simp only []; omega)]
  simp only [Nat.add_sub_cancel_left]
  rw [List.getElem?_append_left hj]
theorem DLe_refl (x : DV) : DLe x x := DLe.refl x
set_option maxRecDepth 10000 in
theorem concat_pure (ls : List (List Inst)) (hn : ls.length ≤ 10) (htot : ls.flatten.length ≤ 1000) :
  APure Tryz.prog 140 [.sl 1 ls.length (fun k => [insD (ls[k]?.getD [])])] (insD ls.flatten) := by
 refine apureG _ _ Tryz.func140 (by kernel_rfl) t_slices_Concat___api_Inst_api_Inst_ u_slices_Concat___api_Inst_api_Inst_ rfl rfl (fun _ => ?_)
 obtain ⟨fl, sz, hs0, hsz, hs1, hsn, hfl⟩ := flat_facts ls htot
 simp [c_slices_Concat___api_Inst_api_Inst_, r_slices_Concat___api_Inst_api_Inst_]
 refine loop_c (κ := Nat) (fun k => k ≤ ls.length) (fun k => ls.length - k) (fun k => [(sl 11, .int k), (sl 3, .int (sz k))]) (fun k => []) 0 0 (srcs []) (by simp) (by simp [hs0]) ?_
 intro k hk
 simp
 refine ⟨fun hlt => ?_, fun hge => ?_⟩
 ·have hle := hsz k hlt
  rw [getD_some hlt]
  have hw : IntKind.i64.wrap ((sz k : Int) + (ls[k].length : Int)) = sz (k + 1) := by rw [wrap_in (by have := hs1 (k + 1) hlt; omega)]; omega
  rw [hw]
  exact ⟨hlt, by omega, fun _ => ⟨k + 1, by omega, by omega, ⟨DLe_refl _, DLe_int (wrap_succ (by omega))⟩, srcs [], by simp⟩⟩
 obtain rfl : k = ls.length := by omega
 refine callo_k 0 (fun _ => []) (by simp) (by simp) rfl (grow_own (sz ls.length) (hs1 _ (Nat.le_refl _))) ?_
 simp
 refine loop_c (κ := Nat) (fun k => k ≤ ls.length) (fun k => ls.length - k) (fun k => [(sl 27, .int k), (sl 6, .own 0 (sz k))]) (fun k => [(0, .row 53 6 (sz k) (fun i => instC (fl[i]?.getD default)))]) 1 0 (srcs [(0, .id 2)]) (by simp) (by simp [hs0] <;> (intros; omega)) ?_
 intro k hk
 simp
 refine ⟨fun hlt => ?_, fun hge => by
  obtain ⟨h1, rfl⟩ := hsn
  exact insD_le (by rw [← h1]; congr 1; omega) (fun i hi => by rw [getD_some hi])⟩
 have hle := hsz k hlt
 have h2 := hs1 (k + 1) hlt
 rw [getD_some hlt]
 refine ⟨hlt, by omega, k + 1, by omega, by omega, srcs [(0, .id 7)], ?_⟩
 simp
 refine ⟨⟨by omega, DLe_int (wrap_succ (by omega))⟩, ⟨by omega, fun i hi => ?_⟩⟩
 unfold appRow
 split
 ·rfl
 ·rename_i hni
  have := hfl k hlt (i - sz k) (by omega)
  rw [show sz k + (i - sz k) = i by omega] at this
  rw [this]
set_option maxRecDepth 10000 in
theorem joined_pure (ls : List (List Inst)) (hn : ls.length ≤ 10) (htot : ls.flatten.length ≤ 1000) :
  APure Tryz.prog 125 [.sl 1 ls.length (fun k => [insD (ls[k]?.getD [])])] (insD ls.flatten) := by
 refine apureG _ [] Tryz.func125 (by kernel_rfl) t_inline_joined_api_Inst_ u_inline_joined_api_Inst_ rfl rfl (fun _ => ?_)
 simp [c_inline_joined_api_Inst_, r_inline_joined_api_Inst_]
 refine call_plain _ (by simp) (by simp) (fun _ => rfl) (fun _ => concat_pure ls hn htot) ?_
 simp
set_option maxHeartbeats 2000000 in
set_option maxRecDepth 10000 in
theorem putI_pure (b leaf : Block) (at_ : Int) (hb : NumsOk b) (hl : NumsOk leaf) :
  APure Tryz.prog 102 [.agg (blockC b), .agg (blockC leaf), .int at_] (.tup [.agg (blockC (if putYes b leaf at_ then putB b leaf at_ else b)), .bool (putYes b leaf at_)]) := by
 refine apureG _ [] Tryz.func102 (by kernel_rfl) t_inline_Put u_inline_Put rfl rfl (fun _ => ?_)
 have hw : IntKind.i64.wrap ((b.ins.length : Int) - 1) = b.ins.length - 1 := wrap_in (by have := hb.n32; omega)
 have hw' : IntKind.i64.wrap ((b.ins.length : Int) - 1 + leaf.ins.length) = b.ins.length - 1 + leaf.ins.length := wrap_in (by have := hb.n32; have := hl.n32; omega)
 simp [c_inline_Put, r_inline_Put, hw, hw']
 refine ⟨fun h1 h2 h3 => ⟨⟨⟨h1, h2⟩, h3⟩, h1, h2⟩, fun h => ?_, fun h0 h1 h2 h3 h4 h5 => ⟨⟨h0, h1⟩, ⟨h0, by omega⟩, ?_⟩⟩
 ·have e : putYes b leaf at_ = false := by
   rw [← Bool.not_eq_true]
   intro hy
   simp [putYes, insAt] at hy
   obtain ⟨⟨⟨⟨⟨a1, a2⟩, a3⟩, a4⟩, a5⟩, a6⟩ := hy
   rcases h with (((((h | h) | h) | h) | h) | h)
   ·omega
   ·omega
   ·exact h (of_decide_eq_true a3)
   ·exact h (of_decide_eq_true a4)
   ·exact h a5
   ·omega
  rw [e]
  exact DLe.refl _
 have e : putYes b leaf at_ = true := by
  unfold putYes insAt
  rw [decide_eq_true h0, decide_eq_true h1, decide_eq_true h2, decide_eq_true h3, decide_eq_true h4, decide_eq_true h5]; rfl
 rw [e]
 obtain ⟨k, rfl⟩ := Int.eq_ofNat_of_zero_le h0
 have hk : k < b.ins.length := by omega
 have hn := hb.n32
 have hp := hb.p6
 have hp0 := hb.p0
 have hL : LeafOk leaf (b.ins[k]?.getD default).args (b.params + (k : Int)) := ⟨h3, hl.p0, hl.p6, hl.n32, by omega, by omega, hl.ta (by omega)⟩
 have hw3 : IntKind.i64.wrap (b.params + (k : Int)) = b.params + k := wrap_in (by omega)
 have hw4 : IntKind.i64.wrap ((k : Int) + 1) = (k : Int) + 1 := wrap_in (by omega)
 have T1 := put1_pure hL
 have T2 := put2_pure hL
 have hdom : ∀ v, upTo (leaf.params + leaf.ins.length) v → upTo 1000 v := fun v hv => ⟨hv.1, by have := hv.2; have := hl.p6; have := hl.n32; omega⟩
 have hdom' : ∀ v, upTo (b.params + b.ins.length) v → upTo 1000 v := fun v hv => ⟨hv.1, by have := hv.2; omega⟩
 have c1 := numInsts_pure T1 leaf.ins (by have := hl.n32; omega) (fun j hj => ⟨by have := hl.args6 j hj; omega, (hl.ins j hj).mono (fun v hv => hdom v ⟨hv.1, by have := hv.2; omega⟩)⟩)
 have c2 := numInsts_pure T2 (b.ins.drop (k + 1)) (by simp; omega) (fun j hj => by
  simp at hj ⊢
  exact ⟨by have := hb.args6 (k + 1 + j) (by omega); omega, (hb.ins (k + 1 + j) (by omega)).mono (fun v hv => hdom' v ⟨hv.1, by have := hv.2; omega⟩)⟩)
 have c3 := numEnd_pure T2 b (by have := hb.args17; omega) (by have := hb.elses17; omega) (hb.args.mono hdom') (hb.elses.mono hdom') (fun h => hdom' _ (hb.ta h))
 rw [hw3]
 refine call_plain _ (by simp) (by simp) (fun _ => rfl) (fun _ => c1) ?_
 simp [hw4]
 refine ⟨⟨by omega, by omega⟩, call_arg c2 (by simp) (by simp) (fun _ => rfl) (fun _ => ?_) ?_⟩
 ·exact ⟨DLe.refl _, insD_le (by simp) (fun j hj => by simp at hj; simp; rw [getD_some (by omega)]), trivial⟩
 simp
 have c4 := joined_pure [b.ins.take k, leaf.ins.map (mapInst (inNum leaf.params (b.ins[k]?.getD default).args (b.params + (k : Int)))), (b.ins.drop (k + 1)).map (mapInst (afterNum leaf.params (b.ins[k]?.getD default).args (b.params + (k : Int)) leaf.ta leaf.ins.length))] (by simp) (by simp; have := hl.n32; omega)
 refine call_arg c4 (by simp) (by simp) (fun _ => rfl) (fun _ => ⟨DLe_cells fun i hi => ?_, trivial⟩) ?_
 ·rcases (by omega : i = 0 ∨ i = 1 ∨ i = 2) with rfl | rfl | rfl
  ·exact ⟨insD_le (by simp; omega) (fun j hj => by simp at hj; simp; rw [getD_some (by omega)]), trivial⟩
  ·exact ⟨DLe.refl _, trivial⟩
  ·exact ⟨DLe.of_eq (by simp [List.map_drop]), trivial⟩
 simp
 refine call_plain _ (by simp) (by simp) (fun _ => rfl) (fun _ => c3) ?_
 simp
 exact DLe.of_eq (by simp [blockC, putB, inG, afterG, insAt, List.map_drop])
@[simp] def zB : List AV := [.d (.int 0), .d (.lit (.slice none 0 0)), .d (.int 0), .d (.int 0), .d (.int 0), .d (.lit (.slice none 0 0)), .d (.int 0), .d (.lit (.slice none 0 0))]
def b0 : Block := ⟨0, [⟨1, 0, 0, 2, ⟨#[]⟩, []⟩, ⟨14, 0, 0, 0, ⟨#[102]⟩, [0]⟩], 3, 1, 0, [], 0, []⟩
def l0 : Block := ⟨1, [], 3, 0, 0, [], 0, []⟩
def r0 : Block := ⟨0, [⟨1, 0, 0, 2, ⟨#[]⟩, []⟩], 3, 0, 0, [], 0, []⟩
def c_inline_Leaf : ACode :=
 (.seq (.reg [Ro 2 (.box true (Sv 0)), Ro 4 (.mv (.c (.bool false)))])
 (.seq (.seq (.reg [Ro 7 (Fd 2 3), Ro 8 (Ld 7), Ro 9 (.len false (Sv 8)), Ro 10 (.bin .neq (Sv 9) (Ci 1))])
 (.cond (Sv 10)
 (.seq (.reg [Ro 4 (.mv (.c (.bool false)))])
 .ret)
 .skip))
 (.seq (.seq (.reg [Ro 11 (Fd 2 3), Ro 12 (Ld 11), Ro 13 (.idx true (Sv 12) (Ci 0) 8), Ro 14 (Lk 13 8), Ro 5 (.new [(.int .i64 0), (.slice none 0 0), (.int .i64 0), (.int .i64 0), (.int .i64 0), (.slice none 0 0), (.int .i64 0), (.slice none 0 0)]), Rn (.ini 1 (Sv 5) (Sv 14) 8)])
 (.frz (sl 5)))
 (.seq (.reg [Ro 6 (.mv (.f 138))])
 (.seq (.reg [Ro 15 (Fd 5 2), Ro 16 (Fd 15 0), Ro 17 (Ld 16), Ro 18 (.bin .eql (Sv 17) (Ci 3)), Ro 19 (Mv 18), Rg 20 19 true (Fd 5 1), Rg 21 19 true (Ld 20), Rg 22 19 true (.len false (Sv 21)), Rg 23 19 true (Mv 1), Rg 24 19 true (.bin .leq (Sv 22) (Sv 23)), Ro 25 (.pick (Sv 19) (Sv 24) (.c (.bool false))), Ro 26 (Mv 25), Rg 27 26 true (Fd 5 1), Rg 28 26 true (Ld 27), Rg 29 26 true (Mv 6), Rg 30 26 true (.call true (.f 139) [Sv 28, Sv 29]), Rg 31 26 true (.not (Sv 30)), Ro 32 (.pick (Sv 26) (Sv 31) (.c (.bool false))), Ro 4 (Mv 32)])
 .ret)))))
def r_inline_Leaf : List ARes := [(.tmp (sl 4))]
theorem t_inline_Leaf : (Tryz.f122).body.bind (trCode Tryz.prog 8 (Tryz.f122).ntmps [] [] (drOk 8)) = some c_inline_Leaf := by kernel_rfl
theorem u_inline_Leaf : trRess Tryz.prog 8 (Tryz.f122).results.toList = some r_inline_Leaf := by kernel_rfl
def c_inline_Leaf_1 : ACode :=
 (.seq (.reg [Ro 1 (.box true (Sv 0)), Ro 2 (.mv (.c (.bool false)))])
 (.seq (.reg [Ro 3 (Fd 1 0), Ro 4 (Ld 3), Ro 5 (.bin .eql (Sv 4) (Ci 14)), Ro 2 (Mv 5)])
 .ret))
def r_inline_Leaf_1 : List ARes := [(.tmp (sl 2))]
theorem t_inline_Leaf_1 : (Tryz.f138).body.bind (trCode Tryz.prog 8 (Tryz.f138).ntmps [] [] (drOk 8)) = some c_inline_Leaf_1 := by kernel_rfl
theorem u_inline_Leaf_1 : trRess Tryz.prog 8 (Tryz.f138).results.toList = some r_inline_Leaf_1 := by kernel_rfl
def c_slices_ContainsFunc___api_Inst_api_Inst_ : ACode :=
 (.seq (.reg [Ro 4 (.mv (.c (.bool false)))])
 (.seq (.reg [Ro 5 (Mv 0), Ro 6 (Mv 1), Ro 7 (.call true (.f 146) [Sv 5, Sv 6]), Ro 8 (.bin .geq (Sv 7) (Ci 0)), Ro 4 (Mv 8)])
 .ret))
def r_slices_ContainsFunc___api_Inst_api_Inst_ : List ARes := [(.tmp (sl 4))]
theorem t_slices_ContainsFunc___api_Inst_api_Inst_ : (Tryz.f139).body.bind (trCode Tryz.prog 8 (Tryz.f139).ntmps [] [] (drOk 8)) = some c_slices_ContainsFunc___api_Inst_api_Inst_ := by kernel_rfl
theorem u_slices_ContainsFunc___api_Inst_api_Inst_ : trRess Tryz.prog 8 (Tryz.f139).results.toList = some r_slices_ContainsFunc___api_Inst_api_Inst_ := by kernel_rfl
def c_slices_IndexFunc___api_Inst_api_Inst_ : ACode :=
 (.seq (.reg [Ro 4 (.mv (Ci 0))])
 (.seq (.seq (.reg [Ro 6 (Mv 0), Ro 7 (.len false (Sv 6)), Ro 8 (.mv (Ci 0))])
 (.block 0
 (.loop (.seq (.reg [Ro 9 (.bin .lss (Sv 8) (Sv 7))])
 (.seq (.cond (Sv 9)
 .skip
 (.exit 0))
 (.seq (.block 1
 (.seq (.reg [Ro 10 (Mv 8), Ro 5 (Mv 10)])
 (.seq (.reg [Ro 11 (Mv 1), Ro 12 (Mv 0), Ro 13 (Mv 5), Ro 14 (.idx true (Sv 12) (Sv 13) 6), Ro 15 (Lk 14 6), Ro 16 (.call true (Sv 11) [Sv 15])])
 (.cond (Sv 16)
 (.seq (.reg [Ro 17 (Mv 5), Ro 4 (Mv 17)])
 .ret)
 .skip))))
 (.reg [Ro 18 (.bin .add (Sv 8) (Ci 1)), Ro 8 (Mv 18)])))))))
 (.seq (.reg [Ro 4 (.mv (Ci (-1)))])
 .ret)))
def r_slices_IndexFunc___api_Inst_api_Inst_ : List ARes := [(.tmp (sl 4))]
theorem t_slices_IndexFunc___api_Inst_api_Inst_ : (Tryz.f146).body.bind (trCode Tryz.prog 8 (Tryz.f146).ntmps [] [] (drOk 8)) = some c_slices_IndexFunc___api_Inst_api_Inst_ := by kernel_rfl
theorem u_slices_IndexFunc___api_Inst_api_Inst_ : trRess Tryz.prog 8 (Tryz.f146).results.toList = some r_slices_IndexFunc___api_Inst_api_Inst_ := by kernel_rfl
def c_inline_leaf : ACode :=
 (.seq (.reg [Ro 3 (.box true (Sv 0)), Ro 4 (.box true (Sv 1)), Ro 6 (.new [(.int .i64 0), (.slice none 0 0), (.int .i64 0), (.int .i64 0), (.int .i64 0), (.slice none 0 0), (.int .i64 0), (.slice none 0 0)]), Ro 7 (.mv (.c (.bool false)))])
 (.seq (.reg [Ro 9 (Fd 3 0), Ro 10 (Ld 9), Ro 11 (.mkfn 121 [Sv 4]), Ro 12 (.call true (.f 60) [Sv 10, Sv 11]), Ro 8 (Mv 12)])
 (.seq (.seq (.reg [Ro 13 (Mv 8), Ro 14 (.bin .lss (Sv 13) (Ci 0)), Ro 15 (Mv 14), Rg 16 15 false (Fd 3 0), Rg 17 15 false (Ld 16), Rg 18 15 false (Mv 8), Rg 19 15 false (.idx true (Sv 17) (Sv 18) 4), Rg 20 15 false (Lk 19 4), Rg 21 15 false (Mv 2), Rg 22 15 false (.call true (.f 122) [Sv 20, Sv 21]), Rg 23 15 false (.not (Sv 22)), Ro 24 (.pick (Sv 15) (.c (.bool true)) (Sv 23))])
 (.cond (Sv 24)
 (.seq (.reg [Ro 25 (.bld [(.int .i64 0), (.slice none 0 0), (.int .i64 0), (.int .i64 0), (.int .i64 0), (.slice none 0 0), (.int .i64 0), (.slice none 0 0)] []), Rn (.st (Sv 6) (Sv 25) 8), Ro 7 (.mv (.c (.bool false)))])
 .ret)
 .skip))
 (.seq (.reg [Ro 26 (Fd 3 0), Ro 27 (Ld 26), Ro 28 (Mv 8), Ro 29 (.idx true (Sv 27) (Sv 28) 4), Ro 30 (Fd 29 3), Ro 31 (Ld 30), Ro 32 (.idx true (Sv 31) (Ci 0) 8), Ro 33 (Lk 32 8), Rn (.st (Sv 6) (Sv 33) 8), Ro 7 (.mv (.c (.bool true)))])
 .ret))))
def r_inline_leaf : List ARes := [(.cell (sl 6) (some 8)), (.tmp (sl 7))]
theorem t_inline_leaf : (Tryz.f101).body.bind (trCode Tryz.prog 8 (Tryz.f101).ntmps [6] [] (drOk 8)) = some c_inline_leaf := by kernel_rfl
theorem u_inline_leaf : trRess Tryz.prog 8 (Tryz.f101).results.toList = some r_inline_leaf := by kernel_rfl
def c_inline_leaf_1 : ACode :=
 (.seq (.reg [Ro 2 (.box true (Sv 0)), Ro 3 (.mv (.c (.bool false)))])
 (.seq (.reg [Ro 4 (Fd 2 0), Ro 5 (Ld 4), Ro 6 (Ld 1), Ro 7 (.bin .eql (Sv 5) (Sv 6)), Ro 3 (Mv 7)])
 .ret))
def r_inline_leaf_1 : List ARes := [(.tmp (sl 3))]
theorem t_inline_leaf_1 : (Tryz.f121).body.bind (trCode Tryz.prog 8 (Tryz.f121).ntmps [] [] (drOk 8)) = some c_inline_leaf_1 := by kernel_rfl
theorem u_inline_leaf_1 : trRess Tryz.prog 8 (Tryz.f121).results.toList = some r_inline_leaf_1 := by kernel_rfl
def c_inline_Block : ACode :=
 (.seq (.reg [Ro 3 (.box false (Sv 0)), Ro 4 (.box true (Sv 1)), Ro 6 (.new [(.int .i64 0), (.slice none 0 0), (.int .i64 0), (.int .i64 0), (.int .i64 0), (.slice none 0 0), (.int .i64 0), (.slice none 0 0)])])
 (.seq (.reg [Ro 7 (.mv (Ci 0))])
 (.seq .skip
 (.seq (.block 0
 (.loop (.seq (.seq (.reg [Ro 13 (Mv 7), Ro 14 (Fd 3 1), Ro 15 (.ld false (Sv 14) none), Ro 16 (.len false (Sv 15)), Ro 17 (.bin .lss (Sv 13) (Sv 16))])
 (.cond (Sv 17)
 .skip
 (.exit 0)))
 (.block 1
 (.seq (.seq (.reg [Ro 18 (Fd 3 1), Ro 19 (.ld false (Sv 18) none), Ro 20 (Mv 7), Ro 21 (.idx false (Sv 19) (Sv 20) 6), Ro 22 (.ld false (Sv 21) (some 6)), Ro 8 (.new [(.int .i64 0), (.int .i64 0), (.int .i64 0), (.int .u64 0), (.string ⟨#[]⟩), (.slice none 0 0)]), Rn (.ini 1 (Sv 8) (Sv 22) 6)])
 (.frz (sl 8)))
 (.seq (.seq (.reg [Ro 23 (Fd 8 0), Ro 24 (Ld 23), Ro 25 (.bin .neq (Sv 24) (Ci 14))])
 (.cond (Sv 25)
 (.seq (.reg [Ro 26 (Mv 7), Ro 27 (.bin .add (Sv 26) (Ci 1)), Ro 7 (Mv 27)])
 (.exit 1))
 .skip))
 (.seq (.seq (.reg [Ro 29 (Lk 4 2), Ro 30 (Fd 8 4), Ro 31 (Ld 30), Ro 32 (Mv 2), Ro 33 (.call true (.f 101) [Sv 29, Sv 31, Sv 32]), Ro 28 (Mv 33), Ro 34 (.ext (Sv 28) 0), Ro 35 (.ext (Sv 28) 1), Ro 9 (.new [(.int .i64 0), (.slice none 0 0), (.int .i64 0), (.int .i64 0), (.int .i64 0), (.slice none 0 0), (.int .i64 0), (.slice none 0 0)]), Rn (.ini 1 (Sv 9) (Sv 34) 8), Ro 10 (Mv 35)])
 (.frz (sl 9)))
 (.seq (.seq (.reg [Ro 36 (Mv 10), Ro 37 (.not (Sv 36))])
 (.cond (Sv 37)
 (.seq (.reg [Ro 38 (Mv 7), Ro 39 (.bin .add (Sv 38) (Ci 1)), Ro 7 (Mv 39)])
 (.exit 1))
 .skip))
 (.seq (.seq (.reg [Ro 41 (.ld false (Sv 3) (some 8)), Ro 42 (Lk 9 8), Ro 43 (Mv 7), Ro 44 (.call false (.f 102) [Sv 41, Sv 42, Sv 43]), Ro 40 (Mv 44), Ro 45 (.ext (Sv 40) 0), Ro 46 (.ext (Sv 40) 1), Ro 11 (.new [(.int .i64 0), (.slice none 0 0), (.int .i64 0), (.int .i64 0), (.int .i64 0), (.slice none 0 0), (.int .i64 0), (.slice none 0 0)]), Rn (.ini 1 (Sv 11) (Sv 45) 8), Ro 12 (Mv 46)])
 (.frz (sl 11)))
 (.seq (.seq (.reg [Ro 47 (Mv 12), Ro 48 (.not (Sv 47))])
 (.cond (Sv 48)
 (.seq (.reg [Ro 49 (Mv 7), Ro 50 (.bin .add (Sv 49) (Ci 1)), Ro 7 (Mv 50)])
 (.exit 1))
 .skip))
 (.seq (.reg [Ro 51 (Lk 11 8), Rn (.st (Sv 3) (Sv 51) 8)])
 (.reg [Ro 52 (Mv 7), Ro 53 (Fd 9 1), Ro 54 (Ld 53), Ro 55 (.len false (Sv 54)), Ro 56 (.bin .add (Sv 52) (Sv 55)), Ro 7 (Mv 56)]))))))))))))
 (.seq (.reg [Ro 57 (.ld false (Sv 3) (some 8)), Rn (.st (Sv 6) (Sv 57) 8)])
 .ret)))))
def r_inline_Block : List ARes := [(.cell (sl 6) (some 8))]
theorem t_inline_Block : (Tryz.f72).body.bind (trCode Tryz.prog 8 (Tryz.f72).ntmps [3, 6, 14, 15, 18, 19, 21, 22, 41, 57] [] (drOk 8)) = some c_inline_Block := by kernel_rfl
theorem u_inline_Block : trRess Tryz.prog 8 (Tryz.f72).results.toList = some r_inline_Block := by kernel_rfl
set_option maxRecDepth 10000 in
theorem leaf1_pure (x : Inst) : APure Tryz.prog 138 [.agg (instC x)] (.bool (decide (x.op = 14))) := by
 refine apureG _ _ Tryz.func138 (by kernel_rfl) t_inline_Leaf_1 u_inline_Leaf_1 rfl rfl (fun _ => ?_)
 simp [c_inline_Leaf_1, r_inline_Leaf_1]
set_option maxRecDepth 10000 in
theorem leafn1_pure (s : ByteArray) (f : Func) : APure Tryz.prog 121 [.agg (funcC f), .cref [.str s] 0] (.bool (decide (f.name = s))) := by
 refine apureG _ _ Tryz.func121 (by kernel_rfl) t_inline_leaf_1 u_inline_leaf_1 rfl rfl (fun _ => ?_)
 simp [c_inline_leaf_1, r_inline_leaf_1]
theorem indexIn_pure (xs : List Inst) (F : FuncId) (caps : List DV) (p : Inst → Bool) (hF : ∀ v ∈ xs, APure Tryz.prog F (.agg (instC v) :: caps) (.bool (p v))) : APure Tryz.prog 146 [insD xs, .fn F caps] (.int (findI p xs)) := by
 refine apureG _ _ Tryz.func146 (by kernel_rfl) t_slices_IndexFunc___api_Inst_api_Inst_ u_slices_IndexFunc___api_Inst_api_Inst_ rfl rfl (fun hx => len1 hx fun hl => ?_)
 clear hx
 simp [c_slices_IndexFunc___api_Inst_api_Inst_, r_slices_IndexFunc___api_Inst_api_Inst_]
 refine loop_s (κ := Nat) (fun k => k ≤ xs.length ∧ ∀ i (h : i < xs.length), i < k → p xs[i] = false) (fun k => xs.length - k) (fun k => [(sl 8, .int k)]) (fun _ => []) 0 0 (srcs []) (by simp) (by simp) ?_
 rintro k ⟨hk, hb⟩
 simp
 refine ⟨fun hlt => ⟨hlt, ?_⟩, fun hge => ?_⟩
 ·rw [getD_some hlt]
  refine call_plain _ (by simp) (by simp) (fun _ => by simp) (fun _ => hF _ (List.getElem_mem hlt)) ?_
  simp
  refine ⟨fun h => DLe_int (findI_hit hlt hb h).symm, fun h => ?_⟩
  refine ⟨k + 1, ⟨by omega, fun i hi h1 => ?_⟩, by omega, srcs [], ?_⟩
  ·rcases Nat.lt_or_ge i k with h2 | h2
   ·exact hb i hi h2
   ·obtain rfl : i = k := by omega
    exact h
  ·simp [SLeK]
   exact DLe_int (wrap_succ (by omega))
 ·exact DLe_int (findI_miss fun i hi => hb i hi (by omega)).symm
theorem containsIn_pure (xs : List Inst) (F : FuncId) (caps : List DV) (p : Inst → Bool) (hF : ∀ v ∈ xs, APure Tryz.prog F (.agg (instC v) :: caps) (.bool (p v))) : APure Tryz.prog 139 [insD xs, .fn F caps] (.bool (xs.any p)) := by
 refine apureG _ _ Tryz.func139 (by kernel_rfl) t_slices_ContainsFunc___api_Inst_api_Inst_ u_slices_ContainsFunc___api_Inst_api_Inst_ rfl rfl (fun _ => ?_)
 simp [c_slices_ContainsFunc___api_Inst_api_Inst_, r_slices_ContainsFunc___api_Inst_api_Inst_]
 refine call_plain _ (by simp) (by simp) (fun _ => rfl) (fun _ => indexIn_pure xs F caps p hF) ?_
 simp
 exact DLe_bool (findI_ge p xs)
set_option maxRecDepth 10000 in
theorem leaf_pure (f : Func) (budget : Int) : APure Tryz.prog 122 [.agg (funcC f), .int budget] (.bool (leafB f budget)) := by
  refine apureG _ _ Tryz.func122 (by kernel_rfl) t_inline_Leaf u_inline_Leaf rfl rfl (fun _ => ?_)
  simp [c_inline_Leaf, r_inline_Leaf]
  obtain ⟨b, hb⟩ : ∃ b, f.blocks[0]?.getD default = b := ⟨_, rfl⟩
  simp only [hb]
  have hone : (f.blocks.length : Int) = 1 → f.blocks = [b] := fun h => by
    cases hf : f.blocks with
    | nil => rw [hf] at h; simp at h
    | cons c r =>
      rw [hf] at h hb
      cases r with
      | nil => simp at hb; rw [hb]
      | cons d r => simp at h; omega
  refine ⟨fun h => DLe_bool ?_, fun h1 => ⟨by omega, ?_⟩⟩
  · symm
    rw [← Bool.not_eq_true, leafB_iff]
    rintro ⟨c, k1, _⟩
    rw [k1] at h
    simp at h
  refine call_plain (ds := [insD b.ins, .fn 138 []]) _ (by simp) (by simp) (fun _ => rfl) (fun _ => containsIn_pure b.ins _ [] (fun x => decide (x.op = 14)) (fun x _ => leaf1_pure x)) ?_
  simp
  refine DLe_bool ?_
  unfold leafB
  rw [hone h1]
theorem noBlock : DLe (.agg [.int 0, .lit (.slice none 0 0), .int 0, .int 0, .int 0, .lit (.slice none 0 0), .int 0, .lit (.slice none 0 0)]) (.agg (blockC default)) :=
 DLe_agg ⟨DLe.refl _, DLe_nil, DLe.refl _, DLe.refl _, DLe.refl _, DLe_nil, DLe.refl _, DLe_nil, trivial⟩
theorem noLeaf : DLe (.tup [.agg [.int 0, .lit (.slice none 0 0), .int 0, .int 0, .int 0, .lit (.slice none 0 0), .int 0, .lit (.slice none 0 0)], .bool false]) (.tup [.agg (blockC default), .bool false]) :=
 DLe_tup ⟨noBlock, DLe.refl _, trivial⟩
set_option maxRecDepth 10000 in
theorem leafI_pure (m : Module) (s : ByteArray) (budget : Int) : APure Tryz.prog 101 [.agg (moduleC m), .str s, .int budget] (.tup [.agg (blockC ((leafL m budget s).getD default)), .bool (leafL m budget s).isSome]) := by
 refine apureG _ _ Tryz.func101 (by kernel_rfl) t_inline_leaf u_inline_leaf rfl rfl (fun _ => ?_)
 simp [c_inline_leaf, r_inline_leaf]
 refine call_plain (ds := [funcsD m.funcs, .fn 121 [.cref [.str s] 0]]) _ (by simp) (by simp) (fun _ => rfl) (fun _ => indexF_pure m.funcs _ _ (fun f => decide (f.name = s)) (fun f _ => leafn1_pure s f)) ?_
 simp
 obtain ⟨k, hk, h1, h2⟩ | ⟨h1, h2⟩ := leads_eq m s
 ·rw [h1]
  refine ⟨fun _ => by omega, ?_⟩
  simp only [Int.toNat_natCast, getD_some hk]
  obtain ⟨f, hf⟩ : ∃ f, m.funcs[k] = f := ⟨_, rfl⟩
  have hL : leafL m budget s = if leafB f budget = true then f.blocks[0]? else none := by unfold leafL; rw [h2, hf]
  simp only [hf]
  refine call_plain (ds := [.agg (funcC f), .int budget]) _ (by simp) (by simp) (fun _ => by simp) (fun _ => leaf_pure f budget) ?_
  simp
  simp only [getD_some hk, hf]
  refine ⟨fun h => ?_, fun h => ?_⟩
  ·have hz : leafB f budget = false := by
    rcases h with h | h
    ·omega
    ·exact h
   rw [hL, hz]
   exact noLeaf
  ·obtain ⟨b, hb, _⟩ := leafB_iff.1 h
   rw [hL, if_pos h, hb]
   exact ⟨hk, by simp, DLe.refl _⟩
 ·rw [h1]
  have hL : leafL m budget s = none := by unfold leafL; rw [h2]
  refine ⟨fun h => by omega, ?_⟩
  refine call_plain (F := 0) (ds := []) (.bool false) (by simp) (by simp) (fun h => by simp at h) (fun h => by simp at h) ?_
  simp
  rw [hL]
  trace_state
  exact noLeaf
theorem SameParams.rfl' (f : Func) : SameParams f f := ⟨rfl, fun k b h => ⟨b, h, rfl⟩⟩
theorem blockI_step {m : Module} {budget : Int} {b : Block} {at' : Nat} (h : at' < b.ins.length) : blockI m budget (b.ins.length - at') b at' =
  if (b.ins[at']'h).op = 14 then (match leafL m budget (b.ins[at']'h).name with
    | some l => if putYes b l at' = true then blockI m budget (b.ins.length - at' - 1) (putB b l at') (at' + l.ins.length) else blockI m budget (b.ins.length - (at' + 1)) b (at' + 1)
    | none => blockI m budget (b.ins.length - (at' + 1)) b (at' + 1)) else blockI m budget (b.ins.length - (at' + 1)) b (at' + 1) := by
 obtain ⟨n, hn⟩ : ∃ n, b.ins.length - at' = n + 1 := ⟨b.ins.length - at' - 1, by omega⟩
 rw [hn, show b.ins.length - (at' + 1) = n by omega]
 rw [blockI, List.getElem?_eq_getElem h]
 simp only [Nat.add_sub_cancel]
 cases leafL m budget (b.ins[at']'h).name <;> rfl
theorem blockI_end {m : Module} {budget : Int} {b : Block} {at' : Nat} (h : b.ins.length ≤ at') : blockI m budget (b.ins.length - at') b at' = b := by
 rw [show b.ins.length - at' = 0 by omega]
 rfl
theorem blockOk_put {m : Module} (hok : ModOk m) {budget : Int} {f : Func} {b l : Block} {at' : Nat} (hb : blockOk f b = true) (h : at' < b.ins.length) (h14 : (b.ins[at']'h).op = 14) (hl : leafL m budget (b.ins[at']'h).name = some l) (hy : putYes b l at' = true) :
  blockOk f (putB b l at') = true ∧ (putB b l at').ins.length = b.ins.length - 1 + l.ins.length := by
 obtain ⟨y1, y2, y3, y4, y5⟩ := putYes_iff.1 hy
 rw [List.getElem?_eq_getElem h] at y3
 obtain ⟨g, hg, hgl, hk, hno⟩ := leafL_some hl
 have hgo : blockOk g l = true := List.all_eq_true.1 (funcOk_all (hok.funcs g (List.mem_of_find?_eq_some hg))) l (by rw [hgl]; simp)
 obtain ⟨P, hP⟩ := Int.eq_ofNat_of_zero_le (blockOk_iff.1 hb).1
 obtain ⟨Q, hQ⟩ := Int.eq_ofNat_of_zero_le (blockOk_iff.1 hgo).1
 exact ⟨putB_ok (.rfl' f) hb hgo hk hP hQ (List.getElem?_eq_getElem h) h14 (by simp at y3; omega) (by omega), by rw [put_length h, cnt_hi h]⟩
theorem nums_of {f : Func} {b : Block} (hf : funcOk f = true) (hb : blockOk f b = true) : NumsOk b := (blockOk_nums (f := f) (fun c hc => (blockOk_iff.1 (List.all_eq_true.1 (funcOk_all hf) c hc)).2.1) hb).1
theorem nums_leaf {m : Module} (hok : ModOk m) {budget : Int} {s : ByteArray} {l : Block} (h : leafL m budget s = some l) : NumsOk l := by
 obtain ⟨g, hg, hgl, hk, hno⟩ := leafL_some h
 have hgm := hok.funcs g (List.mem_of_find?_eq_some hg)
 exact nums_of hgm (List.all_eq_true.1 (funcOk_all hgm) l (by rw [hgl]; simp))
set_option maxRecDepth 10000 in
set_option maxHeartbeats 1000000 in
theorem blockI_pure (m : Module) (hok : ModOk m) (budget : Int) (f : Func) (hf : funcOk f = true) (b : Block) (hb : blockOk f b = true) : APure Tryz.prog 72 [.agg (blockC b), .agg (moduleC m), .int budget] (.agg (blockC (inlB m budget b))) := by
  refine apureG _ _ Tryz.func72 (by kernel_rfl) t_inline_Block u_inline_Block rfl rfl (fun _ => ?_)
  simp [c_inline_Block, r_inline_Block]
  obtain ⟨R, hR⟩ : ∃ R, inlB m budget b = R := ⟨_, rfl⟩
  rw [hR]
  refine loop_s (κ := Nat × Block) (fun q => q.1 ≤ q.2.ins.length ∧ blockOk f q.2 = true ∧ blockI m budget (q.2.ins.length - q.1) q.2 q.1 = R) (fun q => q.2.ins.length - q.1) (fun q => [(sl 7, .int q.1)])
    (fun q => [(0, .box ((blockC q.2).map .d)), (2, .box [.d (.int 0), .d (.lit (.slice none 0 0)), .d (.int 0), .d (.int 0), .d (.int 0), .d (.lit (.slice none 0 0)), .d (.int 0), .d (.lit (.slice none 0 0))])]) 3 (0, b) (srcs [(0, .id 0), (2, .id 2)])
    ⟨Nat.zero_le _, hb, hR⟩ (by simp) ?_
  rintro ⟨at1, b1⟩ ⟨hat, hb1, hR1⟩
  simp
  simp only at hat hb1 hR1
  have hb32 := (blockOk_iff.1 hb1).2.2.1
  refine ⟨fun hlt => ?_, fun hge => ?_⟩
  rotate_left
  · rw [blockI_end hge] at hR1
    rw [hR1]
    exact DLe.refl _
  rw [blockI_step hlt] at hR1
  simp only [getD_some hlt]
  refine ⟨hlt, fun h14 => ?_, fun h14 => ?_⟩
  · rw [if_neg h14] at hR1
    refine ⟨at1 + 1, b1, ⟨hlt, hb1, hR1⟩, by omega, srcs [(0, .id 0), (2, .id 2)], ?_⟩
    simp [SLeK]
    exact DLe_int (wrap_succ (by omega))
  · rw [if_pos h14] at hR1
    refine call_plain (ds := [.agg (moduleC m), .str b1.ins[at1].name, .int budget]) _ (by simp) (by simp) (fun _ => by simp; rfl) (fun _ => leafI_pure m _ budget) ?_
    simp
    cases hl : leafL m budget b1.ins[at1].name with
    | none =>
      rw [hl] at hR1
      simp
      refine ⟨at1 + 1, b1, ⟨hlt, hb1, hR1⟩, by omega, srcs [(0, .id 0), (2, .id 2)], ?_⟩
      simp [SLeK]
      exact DLe_int (wrap_succ (by omega))
    | some l =>
      rw [hl] at hR1
      simp only at hR1
      simp
      have hn1 := nums_of hf hb1
      have hn2 := nums_leaf hok hl
      refine call_plain (ds := [.agg (blockC b1), .agg (blockC l), .int at1]) _ (by simp) (by simp) (fun _ => by simp; exact ⟨rfl, rfl⟩) (fun _ => putI_pure b1 l at1 hn1 hn2) ?_
      simp
      refine ⟨fun hy => ?_, fun hy => ?_⟩
      · rw [if_neg (by simp [hy])] at hR1
        refine ⟨at1 + 1, b1, ⟨hlt, hb1, hR1⟩, by omega, srcs [(0, .id 0), (2, .id 2)], ?_⟩
        simp [SLeK]
        exact DLe_int (wrap_succ (by omega))
      · rw [if_pos hy] at hR1
        obtain ⟨k1, k2⟩ := blockOk_put hok hb1 hlt h14 hl hy
        have hl32 := hn2.n32
        refine ⟨at1 + l.ins.length, putB b1 l at1, ⟨by omega, k1, by rw [← hR1, k2]; congr 1; omega⟩, by omega, srcs [(0, .id 0), (2, .id 2)], ?_⟩
        simp [SLeK, hy]
        exact DLe_int (wrap_in (by omega))
def c_inline_Module : ACode :=
 (.seq (.reg [Ro 2 (.box true (Sv 0)), Ro 4 (.new [(.slice none 0 0), (.slice none 0 0)])])
 (.seq (.seq (.reg [Ro 10 (Lk 2 2), Ro 11 (.call true (.f 34) [Sv 10]), Ro 12 (.bin .neq (Sv 11) (Ci 0))])
 (.cond (Sv 12)
 (.seq (.reg [Ro 13 (Lk 2 2), Rn (.st (Sv 4) (Sv 13) 2)])
 .ret)
 .skip))
 (.seq (.reg [Ro 14 (Lk 2 2), Ro 5 (.new [(.slice none 0 0), (.slice none 0 0)]), Rn (.ini 1 (Sv 5) (Sv 14) 2)])
 (.seq (.reg [Ro 15 (Fd 2 0), Ro 16 (Ld 15), Ro 17 (.callv 61 4 (.f 67) [Sv 16]), Ro 18 (Fd 5 0), Rn (.st (Sv 18) (Sv 17) 1)])
 (.seq (.seq (.reg [Ro 19 (Fd 2 0), Ro 20 (Ld 19), Ro 21 (.len false (Sv 20)), Ro 22 (.mv (Ci 0))])
 (.block 0
 (.loop (.seq (.reg [Ro 23 (.bin .lss (Sv 22) (Sv 21))])
 (.seq (.cond (Sv 23)
 .skip
 (.exit 0))
 (.seq (.block 1
 (.seq (.seq (.reg [Ro 24 (Mv 22), Ro 25 (.idx true (Sv 20) (Sv 22) 4), Ro 26 (Lk 25 4), Ro 7 (.new [(.string ⟨#[]⟩), (.int .i64 0), (.int .i64 0), (.slice none 0 0)]), Ro 6 (Mv 24), Rn (.ini 2 (Sv 7) (Sv 26) 4)])
 (.frz (sl 7)))
 (.seq (.reg [Ro 27 (Fd 5 0), Ro 28 (.ld false (Sv 27) none), Ro 29 (Mv 6), Ro 30 (.idx false (Sv 28) (Sv 29) 4), Ro 31 (Fd 30 3), Rn (.st (Sv 31) (.c (.slice none 0 0)) 1)])
 (.seq (.reg [Ro 32 (Fd 7 3), Ro 33 (Ld 32), Ro 34 (.len false (Sv 33)), Ro 35 (.mv (Ci 0))])
 (.block 2
 (.loop (.seq (.reg [Ro 36 (.bin .lss (Sv 35) (Sv 34))])
 (.seq (.cond (Sv 36)
 .skip
 (.exit 2))
 (.seq (.block 3
 (.seq (.seq (.reg [Ro 37 (.idx true (Sv 33) (Sv 35) 8), Ro 38 (Lk 37 8), Ro 9 (.new [(.int .i64 0), (.slice none 0 0), (.int .i64 0), (.int .i64 0), (.int .i64 0), (.slice none 0 0), (.int .i64 0), (.slice none 0 0)]), Rn (.ini 1 (Sv 9) (Sv 38) 8)])
 (.frz (sl 9)))
 (.reg [⟨(some (sl 39)), none, (Fd 5 0), (some (0, [[]]))⟩, ⟨(some (sl 40)), none, (.ld false (Sv 39) none), (some (1, [[]]))⟩, ⟨(some (sl 41)), none, (Mv 6), (some (2, [[]]))⟩, ⟨(some (sl 42)), none, (Fd 5 0), (some (3, [[]]))⟩, ⟨(some (sl 43)), none, (.ld false (Sv 42) none), (some (4, [[]]))⟩, ⟨(some (sl 44)), none, (Mv 6), (some (5, [[]]))⟩, ⟨(some (sl 45)), none, (.idx false (Sv 43) (Sv 44) 4), (some (6, [[]]))⟩, ⟨(some (sl 46)), none, (Fd 45 3), (some (7, [[]]))⟩, ⟨(some (sl 47)), none, (.ld false (Sv 46) none), (some (8, [[]]))⟩, ⟨(some (sl 48)), none, (Lk 9 8), (some (9, [[]]))⟩, ⟨(some (sl 49)), none, (Lk 2 2), (some (10, [[]]))⟩, ⟨(some (sl 50)), none, (Mv 1), (some (11, [[]]))⟩, ⟨(some (sl 51)), none, (.call true (.f 72) [Sv 48, Sv 49, Sv 50]), (some (12, [[]]))⟩, ⟨(some (sl 52)), none, (.mksl 8 1 [(.int .i64 0), (.slice none 0 0), (.int .i64 0), (.int .i64 0), (.int .i64 0), (.slice none 0 0), (.int .i64 0), (.slice none 0 0)] [(0, 8, (Sv 51))]), (some (13, [[]]))⟩, ⟨(some (sl 53)), none, (.app 58 8 112 (Sv 47) (Sv 52)), (some (14, [[]]))⟩, ⟨(some (sl 54)), none, (.idx false (Sv 40) (Sv 41) 4), (some (15, [[]]))⟩, ⟨(some (sl 55)), none, (Fd 54 3), (some (16, [[]]))⟩, ⟨none, none, (.st (Sv 55) (Sv 53) 1), (some (17, [[]]))⟩])))
 (.reg [Ro 56 (.bin .add (Sv 35) (Ci 1)), Ro 35 (Mv 56)]))))))))))
 (.reg [Ro 57 (.bin .add (Sv 22) (Ci 1)), Ro 22 (Mv 57)])))))))
 (.seq (.reg [Ro 58 (.ld false (Sv 5) (some 2)), Rn (.st (Sv 4) (Sv 58) 2)])
 .ret))))))
def r_inline_Module : List ARes := [(.cell (sl 4) (some 2))]
theorem t_inline_Module : (Tryz.f43).body.bind (trCode Tryz.prog 8 (Tryz.f43).ntmps [4, 5, 17, 18, 27, 28, 30, 31, 39, 40, 42, 43, 45, 46, 47, 53, 54, 55, 58] [(67, 61, 1004), (4000008, 0, 1)] (drOk 8)) = some c_inline_Module := by kernel_rfl
theorem u_inline_Module : trRess Tryz.prog 8 (Tryz.f43).results.toList = some r_inline_Module := by kernel_rfl
def c_slices_Clone___api_Func_api_Func_ : ACode :=
 (.seq (.reg [Ro 2 (.mv (.c (.slice none 0 0)))])
 (.seq (.seq (.reg [Ro 3 (Mv 0), Ro 4 (.isnil false (Sv 3))])
 (.cond (Sv 4)
 (.seq (.reg [Ro 2 (.mv (.c (.slice none 0 0)))])
 .ret)
 .skip))
 (.seq (.reg [Ro 5 (.nrow 61 4), Ro 6 (Mv 0), Ro 7 (.vapp 61 4 56 (Sv 5) (Sv 6)), Ro 2 (Mv 7)])
 .ret)))
def r_slices_Clone___api_Func_api_Func_ : List ARes := [(.tmp (sl 2))]
theorem t_slices_Clone___api_Func_api_Func_ : (Tryz.f67).body.bind (trCode Tryz.prog 8 (Tryz.f67).ntmps [2, 7] [(2000007, 61, 4)] (drOk 8)) = some c_slices_Clone___api_Func_api_Func_ := by kernel_rfl
theorem u_slices_Clone___api_Func_api_Func_ : trRess Tryz.prog 8 (Tryz.f67).results.toList = some r_slices_Clone___api_Func_api_Func_ := by kernel_rfl
theorem AOwnV.nilSplit {P : Program} {F : FuncId} {n len : Nat} {row : Nat → List DV} {as' : List DV} {te : TypeId} {m l : Nat} {r : Nat → List DV} (h0 : len = 0 → AOwnV P F (.lit (.slice none 0 0) :: as') te m l r) (h1 : AOwnV P F (.sn n len row :: as') te m l r) : AOwnV P F (.sl n len row :: as') te m l r := by
 refine ⟨h1.1, fun X w vs hX hvs => ?_⟩
 obtain ⟨v, vs', he, hv, hr⟩ := hvs.uncons
 by_cases hn : v = .slice none 0 0
 ·have hl : len = 0 := by
   subst hn
   cases hv
   rfl
  subst hn
  exact (h0 hl).2 X w vs hX (by rw [he]; exact DReps.cons (.lit _) hr)
 ·exact h1.2 X w vs hX (by rw [he]; exact DReps.cons (.sn v _ _ _ hv hn) hr)
set_option maxRecDepth 10000 in
theorem cloneF_own (fs : List Func) (hl : fs.length ≤ 1000000) : AOwnV Tryz.prog 67 [funcsD fs] 61 4 fs.length (fun i => funcC (fs[i]?.getD default)) := by
 refine AOwnV.nilSplit (fun h0 => ?_) ?_
 ·refine aownVG _ _ Tryz.func67 (by kernel_rfl) t_slices_Clone___api_Func_api_Func_ u_slices_Clone___api_Func_api_Func_ rfl rfl (fun _ => ?_)
  simp [c_slices_Clone___api_Func_api_Func_, r_slices_Clone___api_Func_api_Func_]
  exact List.length_eq_zero_iff.1 h0
 ·refine aownVG _ _ Tryz.func67 (by kernel_rfl) t_slices_Clone___api_Func_api_Func_ u_slices_Clone___api_Func_api_Func_ rfl rfl (fun _ => ?_)
  simp [c_slices_Clone___api_Func_api_Func_, r_slices_Clone___api_Func_api_Func_]
  omega
def stepF (m : Module) (budget : Int) (i : Nat) : List Func := (m.funcs.take i).map (inlF m budget) ++ m.funcs.drop i
theorem stepF_at {m : Module} {budget : Int} {i : Nat} (hi : i < m.funcs.length) : (stepF m budget i)[i]? = some m.funcs[i] := by
 unfold stepF
 rw [List.getElem?_append_right (by simp; omega)]
 simp only [List.length_map, List.length_take, List.getElem?_drop]
 rw [show i + (i - min i m.funcs.length) = i by omega, List.getElem?_eq_getElem hi]
theorem stepF_next {m : Module} {budget : Int} {i : Nat} (hi : i < m.funcs.length) (j : Nat) : (stepF m budget (i + 1))[j]? = if j = i then some (inlF m budget m.funcs[i]) else (stepF m budget i)[j]? := by
 unfold stepF
 by_cases h : j = i
 ·subst h
  rw [if_pos rfl, List.getElem?_append_left (by simp; omega)]
  simp [hi]
 ·rw [if_neg h]
  by_cases h1 : j < i
  ·rw [List.getElem?_append_left (by simp; omega), List.getElem?_append_left (by simp; omega)]
   simp [h1, show j < i + 1 by omega]
  ·rw [List.getElem?_append_right (by simp; omega), List.getElem?_append_right (by simp; omega)]
   simp only [List.length_map, List.length_take, List.getElem?_drop]
   congr 1
   omega
theorem stepF_all {m : Module} {budget : Int} {i : Nat} (hi : m.funcs.length ≤ i) : stepF m budget i = m.funcs.map (inlF m budget) := by
 unfold stepF
 rw [List.take_of_length_le hi, List.drop_eq_nil_of_le hi, List.append_nil]
set_option maxRecDepth 10000 in
set_option maxHeartbeats 1000000 in
theorem moduleI_pure (m : Module) (hm : ∀ f ∈ m.funcs, ∀ b ∈ f.blocks, ∀ i ∈ b.ins, i.args.length ≤ 17592186044416) (budget : Int) : APure Tryz.prog 43 [.agg (moduleC m), .int budget] (.agg (moduleC (inlM m budget))) := by
 refine apureG _ _ Tryz.func43 (by kernel_rfl) t_inline_Module u_inline_Module rfl rfl (fun _ => ?_)
 simp [c_inline_Module, r_inline_Module]
 refine call_plain (ds := [.agg (moduleC m)]) _ (by simp) (by simp) (fun _ => by simp; rfl) (fun _ => check_pure m hm) ?_
 simp
 refine ⟨fun hz => ?_, fun hz => ?_⟩
 ·have e : inlM m budget = m := by unfold inlM; rw [if_neg hz]
  rw [e]
  exact DLe.refl _
 have hok := checkE_zero.1 hz
 have hnf := hok.nf
 refine callvv_k m.funcs.length _ (by simp) (by simp) (by simp) (cloneF_own m.funcs (by omega)) ?_
 simp
 refine loop_s (κ := Nat) (fun i => i ≤ m.funcs.length) (fun i => m.funcs.length - i) (fun i => [(sl 22, .int i)])
  (fun i => [(10, .vec 61 4 m.funcs.length fun j => (funcC ((stepF m budget i)[j]?.getD default)).map .d), (6, .box [.own 10 m.funcs.length, .d (globsD m.globs)]), (1, .box [.d (.lit (.slice none 0 0)), .d (.lit (.slice none 0 0))])]) 11 0 (srcs [(10, .id 10), (6, .id 6), (1, .id 1)]) (by simp) (by simp [stepF]) ?_
 intro i hi
 simp
 refine ⟨fun hlt => ?_, fun hge => ?_⟩
 ·refine ⟨hlt, ?_⟩
  rw [getD_some hlt]
  obtain ⟨f, hf⟩ : ∃ f, m.funcs[i] = f := ⟨_, rfl⟩
  have hsi : (stepF m budget i)[i]?.getD default = f := by rw [stepF_at hlt, hf]; rfl
  have hfm : f ∈ m.funcs := by rw [← hf]; exact List.getElem_mem hlt
  have hfo := hok.funcs f hfm
  have hbl := funcOk_len hfo
  simp only [hf, hsi]
  obtain ⟨bs, hbs⟩ : ∃ bs, f.blocks.map (inlB m budget) = bs := ⟨_, rfl⟩
  have hbsl : bs.length = f.blocks.length := by rw [← hbs]; simp
  refine loop_s (κ := Nat) (fun k => k ≤ f.blocks.length) (fun k => f.blocks.length - k) (fun k => [(sl 35, .int k)])
   (fun k => [(0, .row 58 8 k fun j => blockC (bs[j]?.getD default)), (10, .vec 61 4 m.funcs.length (updR (fun j => (funcC ((stepF m budget i)[j]?.getD default)).map .d) i [.d (.str f.name), .d (.int f.bind), .d (.int f.params), .own 0 k])), (6, .box [.own 10 m.funcs.length, .d (globsD m.globs)]), (1, .box [.d (.lit (.slice none 0 0)), .d (.lit (.slice none 0 0))])]) 11 0 (srcs [(0, .nil), (10, .id 10), (6, .id 6), (1, .id 1)]) (by simp) ?_ ?_
  ·simp
   intro j hj
   split <;> simp
  intro k hk
  simp
  refine ⟨fun hkl => ?_, fun hge => ?_⟩
  ·refine ⟨hkl, ?_⟩
   rw [getD_some hkl]
   have hbo : blockOk f f.blocks[k] = true := funcOk_block hfo hkl
   refine ⟨hlt, ?_⟩
   refine call_plain (ds := [.agg (blockC f.blocks[k]), .agg (moduleC m), .int budget]) _ (by simp) (by simp) (fun _ => by simp; exact ⟨rfl, rfl⟩) (fun _ => blockI_pure m hok budget f hfo _ hbo) ?_
   simp
   refine ⟨by omega, hlt, k + 1, by omega, by omega, srcs [(0, .id 30), (10, .id 10), (6, .id 6), (1, .id 1)], ?_⟩
   simp [SLeK]
   refine ⟨DLe_int (wrap_succ (by omega)), fun j hj => ?_, fun j hj => ?_⟩
   ·unfold appRow
    split
    ·rfl
    ·obtain rfl : j = k := by omega
     rw [← hbs]
     simp [hkl, blockC]
   ·split <;> simp
  ·obtain rfl : k = f.blocks.length := by omega
   refine ⟨i + 1, by omega, by omega, srcs [(10, .id 10), (6, .id 6), (1, .id 1)], ?_⟩
   simp [SLeK]
   refine ⟨DLe_int (wrap_succ (by omega)), fun j hj => ?_⟩
   rw [stepF_next hlt]
   by_cases hji : j = i
   ·rw [if_pos hji, if_pos hji]
    simp [inlF, hf]
    rw [hbs, ← hbsl]
    exact DLe.refl _
   ·rw [if_neg hji, if_neg hji]
    simp
 ·rw [stepF_all hge]
  have e : inlM m budget = { m with funcs := m.funcs.map (inlF m budget) } := by unfold inlM; rw [if_pos hz]
  rw [e]
  refine DLe.of_eq ?_
  simp [moduleC, funcsD]
  rfl
theorem DLe_snoc {cs : List DV} {x y : DV} (h : DLe x y) : DLe (.agg (cs ++ [x])) (.agg (cs ++ [y])) := by
 refine DLe.agg (by simp) fun i h1 h2 => ?_
 by_cases hi : i < cs.length
 ·rw [List.getElem_append_left hi, List.getElem_append_left hi]
  exact DLe.refl _
 ·have : i = cs.length := by simp at h1; omega
  subst this
  rw [List.getElem_append_right (Nat.le_refl _), List.getElem_append_right (Nat.le_refl _)]
  simpa using h
def mapT {α β : Type} (g : α → β) (xs : List α) (k : Nat) : List β := (xs.take k).map g
@[simp] theorem mapT_zero {α β : Type} (g : α → β) (xs : List α) : mapT g xs 0 = [] := by simp [mapT]
theorem mapT_length {α β : Type} (g : α → β) (xs : List α) (k : Nat) : (mapT g xs k).length ≤ xs.length := by simp [mapT]; omega
theorem mapT_succ {α β : Type} (g : α → β) {xs : List α} {k : Nat} (hk : k < xs.length) : mapT g xs (k + 1) = mapT g xs k ++ [g xs[k]] := by
 unfold mapT
 rw [List.take_succ_eq_append_getElem hk, List.map_append]
 rfl
theorem mapT_all {α β : Type} (g : α → β) {xs : List α} {k : Nat} (h : xs.length ≤ k) : mapT g xs k = xs.map g := by
 unfold mapT
 rw [List.take_of_length_le h]
set_option maxRecDepth 10000 in
theorem eachB_pure (xs : List Block) (hl : xs.length ≤ 1000000) (F : FuncId) (g : Block → Block) (hF : ∀ v ∈ xs, APure Tryz.prog F [.agg (blockC v)] (.agg (blockC (g v)))) : APure Tryz.prog 91 [blocksD xs, .fn F []] (blocksD (xs.map g)) := by
 refine apureG _ _ Tryz.func91 (by kernel_rfl) t_fold_each_api_Block_api_Block_ u_fold_each_api_Block_api_Block_ rfl rfl (fun _ => ?_)
 simp [c_fold_each_api_Block_api_Block_, r_fold_each_api_Block_api_Block_]
 refine loop_s (κ := Nat) (fun k => k ≤ xs.length) (fun k => xs.length - k) (fun k => [(sl 10, .int k), (sl 5, .own 0 (mapT g xs k).length)]) (fun k => [(0, .row 58 8 (mapT g xs k).length fun i => blockC ((mapT g xs k)[i]?.getD default))]) 10 0 (srcs [(0, .nil)]) (by simp) (by simp) ?_
 rintro k hk
 simp
 have hlen := mapT_length g xs k
 refine ⟨fun hlt => ⟨hlt, ?_⟩, fun hge => ?_⟩
 ·rw [getD_some hlt]
  have hsucc := mapT_succ g hlt
  refine call_plain (ds := [.agg (blockC xs[k])]) _ (by simp) (by simp) (fun _ => by simp; rfl) (fun _ => hF _ (List.getElem_mem hlt)) ?_
  simp
  refine ⟨by omega, k + 1, by omega, by omega, srcs [(0, .id 20)], ?_⟩
  simp [SLeK, hsucc]
  exact ⟨DLe_int (wrap_succ (by omega)), fun i hi => appRow_snocG blockC default rfl hi⟩
 ·rw [mapT_all g hge]
  exact DLe.refl _
set_option maxRecDepth 10000 in
theorem eachF_pure (xs : List Func) (hl : xs.length ≤ 1000000) (F : FuncId) (g : Func → Func) (hF : ∀ v ∈ xs, APure Tryz.prog F [.agg (funcC v)] (.agg (funcC (g v)))) : APure Tryz.prog 65 [funcsD xs, .fn F []] (funcsD (xs.map g)) := by
 refine apureG _ _ Tryz.func65 (by kernel_rfl) t_fold_each_api_Func_api_Func_ u_fold_each_api_Func_api_Func_ rfl rfl (fun _ => ?_)
 simp [c_fold_each_api_Func_api_Func_, r_fold_each_api_Func_api_Func_]
 refine loop_s (κ := Nat) (fun k => k ≤ xs.length) (fun k => xs.length - k) (fun k => [(sl 10, .int k), (sl 5, .own 0 (mapT g xs k).length)]) (fun k => [(0, .row 61 4 (mapT g xs k).length fun i => funcC ((mapT g xs k)[i]?.getD default))]) 10 0 (srcs [(0, .nil)]) (by simp) (by simp) ?_
 rintro k hk
 simp
 have hlen := mapT_length g xs k
 refine ⟨fun hlt => ⟨hlt, ?_⟩, fun hge => ?_⟩
 ·rw [getD_some hlt]
  have hsucc := mapT_succ g hlt
  refine call_plain (ds := [.agg (funcC xs[k])]) _ (by simp) (by simp) (fun _ => by simp; rfl) (fun _ => hF _ (List.getElem_mem hlt)) ?_
  simp
  refine ⟨by omega, k + 1, by omega, by omega, srcs [(0, .id 20)], ?_⟩
  simp [SLeK, hsucc]
  exact ⟨DLe_int (wrap_succ (by omega)), fun i hi => appRow_snocG funcC default rfl hi⟩
 ·rw [mapT_all g hge]
  exact DLe.refl _
set_option maxRecDepth 10000 in
theorem cloneI_own (xs : List Inst) (hl : xs.length ≤ 1000000) : AOwnV Tryz.prog 113 [insD xs] 53 6 xs.length (fun i => instC (xs[i]?.getD default)) := by
 refine AOwnV.nilSplit (fun h0 => ?_) ?_
 ·refine aownVG _ _ Tryz.func113 (by kernel_rfl) t_slices_Clone___api_Inst_api_Inst_ u_slices_Clone___api_Inst_api_Inst_ rfl rfl (fun _ => ?_)
  simp [c_slices_Clone___api_Inst_api_Inst_, r_slices_Clone___api_Inst_api_Inst_]
  exact List.length_eq_zero_iff.1 h0
 ·refine aownVG _ _ Tryz.func113 (by kernel_rfl) t_slices_Clone___api_Inst_api_Inst_ u_slices_Clone___api_Inst_api_Inst_ rfl rfl (fun _ => ?_)
  simp [c_slices_Clone___api_Inst_api_Inst_, r_slices_Clone___api_Inst_api_Inst_]
  omega
def foldStep (b : Block) (i : Nat) : List Inst := (foldIns b).take i ++ b.ins.drop i
theorem foldStep_zero (b : Block) : foldStep b 0 = b.ins := by simp [foldStep]
theorem foldStep_all {b : Block} {i : Nat} (h : b.ins.length ≤ i) : foldStep b i = foldIns b := by
 unfold foldStep
 rw [List.take_of_length_le (by rw [foldIns_length]; exact h), List.drop_eq_nil_of_le h, List.append_nil]
theorem foldStep_at {b : Block} {i : Nat} (hi : i < b.ins.length) : (foldStep b i)[i]? = some b.ins[i] := by
 unfold foldStep
 rw [List.getElem?_append_right (by rw [List.length_take, foldIns_length]; omega), List.length_take, foldIns_length, List.getElem?_drop, Nat.min_eq_left (by omega), Nat.sub_self, Nat.add_zero, List.getElem?_eq_getElem hi]
theorem foldStep_next {b : Block} {i : Nat} (hi : i < b.ins.length) (j : Nat) : (foldStep b (i + 1))[j]? = if j = i then (foldIns b)[i]? else (foldStep b i)[j]? := by
 have hl := foldIns_length b
 unfold foldStep
 by_cases h : j = i
 ·subst h
  rw [if_pos rfl, List.getElem?_append_left (by rw [List.length_take]; omega), List.getElem?_take, if_pos (by omega)]
 ·rw [if_neg h]
  by_cases h1 : j < i
  ·rw [List.getElem?_append_left (by rw [List.length_take]; omega), List.getElem?_append_left (by rw [List.length_take]; omega), List.getElem?_take, List.getElem?_take, if_pos h1, if_pos (by omega)]
  ·rw [List.getElem?_append_right (by rw [List.length_take]; omega), List.getElem?_append_right (by rw [List.length_take]; omega), List.getElem?_drop, List.getElem?_drop, List.length_take, List.length_take]
   congr 1
   omega
set_option maxRecDepth 10000 in
theorem fblock_pure (b : Block) (hp : 0 ≤ b.params ∧ b.params ≤ 1000) (hn : b.ins.length ≤ 1000) (hk : ∀ x ∈ b.ins, x.k < 18446744073709551616) : APure Tryz.prog 92 [.agg (blockC b)] (.agg (blockC (foldB b))) := by
  refine apureG _ _ Tryz.func92 (by kernel_rfl) t_fold_Block u_fold_Block rfl rfl (fun _ => ?_)
  have hmx : (if b.params < 0 then 0 else b.params) = b.params := if_neg (by omega)
  simp [c_fold_Block, r_fold_Block, hmx]
  refine call_plain (ds := [.agg (blockC b)]) _ (by simp) (by simp) (fun _ => by simp; rfl) (fun _ => fvalues_pure b hp hn hk) ?_
  simp
  refine callvv_k b.ins.length _ (by simp) (by simp) (by simp) (cloneI_own b.ins (by omega)) ?_
  simp
  refine loop_s (κ := Nat) (fun i => i ≤ b.ins.length) (fun i => b.ins.length - i) (fun i => [(sl 23, .int i)])
    (fun i => [(14, .vec 53 6 b.ins.length fun j => (instC ((foldStep b i)[j]?.getD default)).map .d), (0, .box [.int b.params, .own 14 b.ins.length, .int b.kind, .int b.ta, .int b.to, .d (intsD b.args), .int b.els, .d (intsD b.elses)]), (1, .box [.int 0, .d (.lit (.slice none 0 0)), .int 0, .int 0, .int 0, .d (.lit (.slice none 0 0)), .int 0, .d (.lit (.slice none 0 0))])]) 21 0 (srcs [(14, .id 14), (0, .id 0), (1, .id 1)]) (by simp) (by simp [foldStep_zero]) ?_
  intro i hi
  have hlv : (foldVals b).length = b.params.toNat + b.ins.length := foldVals_length b
  have hfirst : IntKind.i64.wrap ((foldVals b).length - b.ins.length) = b.params := by rw [hlv, wrap_in (by omega)]; omega
  have hend : ∀ (kd ta to el : Int) (ar es : List Int), b.ins.length ≤ i → DLe (DV.agg [.int b.params, .sl 6 b.ins.length fun j => instC ((foldStep b i)[j]?.getD default), .int kd, .int ta, .int to, intsD ar, .int el, intsD es]) (.agg (blockC ⟨b.params, foldIns b, kd, ta, to, ar, el, es⟩)) := fun kd ta to el ar es hge => by
    rw [foldStep_all hge]
    have e : (DV.sl 6 b.ins.length fun j => instC ((foldIns b)[j]?.getD default)) = insD (foldIns b) := by rw [← foldIns_length b]
    rw [e]
    exact DLe.refl _
  simp [hfirst]
  refine ⟨fun hlt => ?_, fun hge => ?_⟩
  · have hw : IntKind.i64.wrap (b.params + (i : Int)) = b.params + i := wrap_in (by omega)
    have hin : (b.params + (i : Int)).toNat = b.params.toNat + i := by omega
    have hx := foldIns_at (List.getElem?_eq_getElem hlt)
    have hat : (foldVals b)[b.params.toNat + i]? = some (foldV (foldL (noneL b) (b.ins.take i)) b.ins[i]) := by
      have h := foldL_at (l := noneL b) (List.getElem?_eq_getElem hlt)
      rw [noneL_length] at h
      exact h
    simp only [hw, hin, hat]
    refine ⟨⟨by omega, by omega⟩, ?_⟩
    generalize foldV (foldL (noneL b) (b.ins.take i)) b.ins[i] = o at *
    cases o with
    | none =>
      simp
      refine ⟨i + 1, by omega, by omega, srcs [(14, .id 14), (0, .id 0), (1, .id 1)], ?_⟩
      simp [SLeK]
      refine ⟨DLe_int (wrap_succ (by omega)), fun j hj => ?_⟩
      rw [foldStep_next hlt, hx]
      by_cases hji : j = i
      · subst hji
        rw [if_pos rfl, foldStep_at hlt]
        simp [foldX]
      · rw [if_neg hji]
        simp
    | some v =>
      have hv0 : 0 ≤ v := (KnOk.foldL _ hk (.none b) v (List.mem_of_getElem? hat)).1
      simp
      refine ⟨hlt, i + 1, by omega, by omega, srcs [(14, .id 14), (0, .id 0), (1, .id 1)], ?_⟩
      simp [SLeK]
      refine ⟨DLe_int (wrap_succ (by omega)), fun j hj => ?_⟩
      rw [foldStep_next hlt, hx]
      by_cases hji : j = i
      · subst hji
        rw [if_pos rfl, if_pos rfl]
        simp [foldX]
        exact ⟨DLe_lit (by rw [Int.max_eq_left hv0]), intsD_nil⟩
      · rw [if_neg hji, if_neg hji]
        simp
  · generalize hL : foldVals b = l at *
    refine ⟨fun h1 h2 h3 => ⟨⟨⟨h1, h2⟩, h3⟩, h2, h3⟩, fun h => ?_, fun h1 h2 h3 h4 => ⟨⟨h2, h3⟩, fun h5 => ?_, fun h5 => ?_⟩⟩
    · have e : foldB b = ⟨b.params, foldIns b, b.kind, b.ta, b.to, b.args, b.els, b.elses⟩ := by
        unfold foldB
        rw [hL]
        split
        · rename_i h1
          have : atO l b.ta = none := by
            unfold atO
            split
            · rename_i h2
              rcases h with ((h | h) | h) | h
              · exact absurd h1 h
              · omega
              · rw [List.getElem?_eq_none (by omega)]; rfl
              · exact h
            · rfl
          rw [this]
        · rfl
      rw [e]
      exact hend _ _ _ _ _ _ hge
    · obtain ⟨v, hv⟩ := Option.isSome_iff_exists.1 h4
      rw [hv] at h5
      simp only [Option.getD_some] at h5
      have e : foldB b = ⟨b.params, foldIns b, 1, 0, b.els, b.elses, 0, []⟩ := by
        unfold foldB
        have : atO l b.ta = some v := by unfold atO; rw [if_pos h2]; exact hv
        rw [hL, if_pos h1, this]
        exact if_pos h5
      rw [e]
      exact (DLe_snoc (cs := [_, _, _, _, _, _, _]) intsD_nil).trans (hend _ _ _ _ _ _ hge)
    · obtain ⟨v, hv⟩ := Option.isSome_iff_exists.1 h4
      rw [hv] at h5
      simp only [Option.getD_some] at h5
      have e : foldB b = ⟨b.params, foldIns b, 1, 0, b.to, b.args, 0, []⟩ := by
        unfold foldB
        have : atO l b.ta = some v := by unfold atO; rw [if_pos h2]; exact hv
        rw [hL, if_pos h1, this]
        exact if_neg h5
      rw [e]
      exact (DLe_snoc (cs := [_, _, _, _, _, _, _]) intsD_nil).trans (hend _ _ _ _ _ _ hge)
set_option maxRecDepth 10000 in
theorem ffunc_pure (f : Func) (hb : f.blocks.length ≤ 1000) (hp : ∀ b ∈ f.blocks, (0 ≤ b.params ∧ b.params ≤ 1000) ∧ b.ins.length ≤ 1000 ∧ ∀ x ∈ b.ins, x.k < 18446744073709551616) : APure Tryz.prog 66 [.agg (funcC f)] (.agg (funcC (foldF f))) := by
 refine apureG _ _ Tryz.func66 (by kernel_rfl) t_fold_Func u_fold_Func rfl rfl (fun _ => ?_)
 simp [c_fold_Func, r_fold_Func]
 refine call_plain (ds := [blocksD f.blocks, .fn 92 []]) _ (by simp) (by simp) (fun _ => by simp) (fun _ => eachB_pure f.blocks (by omega) _ foldB fun b hbm => fblock_pure b (hp b hbm).1 (hp b hbm).2.1 (hp b hbm).2.2) ?_
 simp
 exact DLe.refl _
set_option maxRecDepth 10000 in
theorem fmodule_pure (m : Module) (hok : ModOk m) (hk : KOk' m) : APure Tryz.prog 39 [.agg (moduleC m)] (.agg (moduleC (foldM m))) := by
 refine apureG _ _ Tryz.func39 (by kernel_rfl) t_fold_Module u_fold_Module rfl rfl (fun _ => ?_)
 simp [c_fold_Module, r_fold_Module]
 have hnf := hok.nf
 refine call_plain (ds := [funcsD m.funcs, .fn 66 []]) _ (by simp) (by simp) (fun _ => by simp) (fun _ => eachF_pure m.funcs (by omega) _ foldF fun f hf => ffunc_pure f ?_ ?_) ?_
 ·have := funcOk_len (hok.funcs f hf)
  omega
 ·intro b hb
  obtain ⟨h0, h6, h32, _⟩ := blockOk_iff.1 (funcOk_blocks (hok.funcs f hf) b hb)
  exact ⟨⟨h0, by omega⟩, by omega, hk f hf b hb⟩
 simp
 exact DLe.refl _

def c_trim_does : ACode :=
 (.seq (.reg [Ro 1 (.box true (Sv 0)), Ro 2 (.mv (.c (.bool false)))])
 (.seq (.reg [Ro 3 (Fd 1 0), Ro 4 (Ld 3), Ro 5 (.bin .eql (Sv 4) (Ci 13)), Ro 6 (Mv 5), Rg 7 6 false (Fd 1 0), Rg 8 6 false (Ld 7), Rg 9 6 false (.bin .eql (Sv 8) (Ci 14)), Ro 10 (.pick (Sv 6) (.c (.bool true)) (Sv 9)), Ro 11 (Mv 10), Rg 12 11 false (Fd 1 0), Rg 13 11 false (Ld 12), Rg 14 11 false (.bin .eql (Sv 13) (Ci 15)), Ro 15 (.pick (Sv 11) (.c (.bool true)) (Sv 14)), Ro 16 (Mv 15), Rg 17 16 false (Fd 1 0), Rg 18 16 false (Ld 17), Rg 19 16 false (.bin .eql (Sv 18) (Ci 16)), Ro 20 (.pick (Sv 16) (.c (.bool true)) (Sv 19)), Ro 2 (Mv 20)])
 .ret))
def r_trim_does : List ARes := [(.tmp (sl 2))]
theorem t_trim_does : (Tryz.f116).body.bind (trCode Tryz.prog 8 (Tryz.f116).ntmps [] [] (drOk 8)) = some c_trim_does := by kernel_rfl
theorem u_trim_does : trRess Tryz.prog 8 (Tryz.f116).results.toList = some r_trim_does := by kernel_rfl
def c_trim_ends : ACode :=
 (.seq (.reg [Ro 1 (.box true (Sv 0)), Ro 2 (.mv (.c (.slice none 0 0)))])
 (.seq (.reg [Rl 4 (Fd 1 3) 0, Rl 5 (Ld 4) 1, Rl 6 (.callo 3 1 (.f 137) [Sv 5]) 2, Rl 7 (Fd 1 5) 3, Rl 8 (Ld 7) 4, Rl 9 (.app 3 1 8 (Sv 6) (Sv 8)) 5, Rl 3 (Mv 9) 6])
 (.seq (.seq (.reg [Ro 10 (Fd 1 0), Ro 11 (Ld 10), Ro 12 (.bin .neq (Sv 11) (Ci 1))])
 (.cond (Sv 12)
 (.reg [Ro 13 (Mv 3), Ro 14 (Fd 1 1), Ro 15 (Ld 14), Ro 16 (.mksl 1 1 [(.int .i64 0)] [(0, 1, (Sv 15))]), Ro 17 (.app 3 1 8 (Sv 13) (Sv 16)), Ro 3 (Mv 17)])
 .skip))
 (.seq (.reg [Ro 18 (Mv 3), Ro 2 (Mv 18)])
 .ret))))
def r_trim_ends : List ARes := [(.tmp (sl 2))]
theorem t_trim_ends : (Tryz.f136).body.bind (trCode Tryz.prog 8 (Tryz.f136).ntmps [2, 3, 6, 9, 13, 17, 18] [(137, 3, 1)] (drOk 8)) = some c_trim_ends := by kernel_rfl
theorem u_trim_ends : trRess Tryz.prog 8 (Tryz.f136).results.toList = some r_trim_ends := by kernel_rfl
def c_trim_Used : ACode :=
 (.seq (.reg [Ro 1 (.box true (Sv 0)), Ro 2 (.mv (.c (.slice none 0 0)))])
 (.seq (.reg [Ro 7 (Lk 1 8), Ro 8 (.call true (.f 130) [Sv 7]), Ro 9 (.vop 3 4 1 1 (Sv 8) (.c (.agg #[(.bool false)]))), Ro 3 (.new [(.slice none 0 0)]), Rn (.st (Sv 3) (Sv 9) 1)])
 (.seq (.reg [Ro 10 (.mkfn 135 [Sv 3]), Ro 4 (Mv 10)])
 (.seq (.reg [Ro 11 (Mv 4), Ro 12 (Fd 1 2), Ro 13 (Lk 12 6), Ro 14 (.call true (.f 136) [Sv 13]), Ro 15 (.calle (Sv 11) [Sv 14])])
 (.seq .skip
 (.seq (.seq (.reg [Ro 16 (Fd 1 1), Ro 17 (Ld 16), Ro 18 (.len false (Sv 17)), Ro 19 (.bin .sub (Sv 18) (Ci 1)), Ro 5 (Mv 19)])
 (.block 0
 (.loop (.seq (.seq (.reg [Ro 20 (Mv 5), Ro 21 (.bin .geq (Sv 20) (Ci 0))])
 (.cond (Sv 21)
 .skip
 (.exit 0)))
 (.seq (.block 1
 (.seq (.seq (.reg [Ro 24 (Fd 1 1), Ro 25 (Ld 24), Ro 26 (Mv 5), Ro 27 (.idx true (Sv 25) (Sv 26) 6), Ro 28 (Lk 27 6), Ro 6 (.new [(.int .i64 0), (.int .i64 0), (.int .i64 0), (.int .u64 0), (.string ⟨#[]⟩), (.slice none 0 0)]), Rn (.ini 1 (Sv 6) (Sv 28) 6)])
 (.frz (sl 6)))
 (.seq (.seq (.reg [Ro 29 (Lk 6 6), Ro 30 (.call true (.f 116) [Sv 29]), Ro 31 (.not (Sv 30)), Ro 32 (Mv 31), Rg 33 32 true (.ld false (Sv 3) none), Rg 34 32 true (Fd 1 0), Rg 35 32 true (Ld 34), Rg 36 32 true (Mv 5), Rg 37 32 true (.bin .add (Sv 35) (Sv 36)), Rg 38 32 true (.idx false (Sv 33) (Sv 37) 1), Rg 39 32 true (.ld false (Sv 38) none), Rg 40 32 true (.not (Sv 39)), Ro 41 (.pick (Sv 32) (Sv 40) (.c (.bool false)))])
 (.cond (Sv 41)
 (.exit 1)
 .skip))
 (.reg [Ro 42 (Mv 4), Ro 43 (Lk 6 6), Ro 44 (.call true (.f 117) [Sv 43]), Ro 45 (.calle (Sv 42) [Sv 44])]))))
 (.reg [Ro 22 (Mv 5), Ro 23 (.bin .sub (Sv 22) (Ci 1)), Ro 5 (Mv 23)]))))))
 (.seq (.reg [Ro 46 (.ld false (Sv 3) none), Ro 2 (Mv 46)])
 .ret)))))))
def r_trim_Used : List ARes := [(.tmp (sl 2))]
theorem t_trim_Used : (Tryz.f115).body.bind (trCode Tryz.prog 8 (Tryz.f115).ntmps [2, 3, 4, 10, 11, 33, 38, 39, 42, 46] [(6000009, 0, 1), (8000003, 0, 1), (1000011, 0, 0), (1000042, 0, 0)] (drOk 8)) = some c_trim_Used := by kernel_rfl
theorem u_trim_Used : trRess Tryz.prog 8 (Tryz.f115).results.toList = some r_trim_Used := by kernel_rfl
def c_trim_Used_1 : ACode :=
 (.seq (.reg [Ro 5 (Mv 0), Ro 6 (.len false (Sv 5)), Ro 7 (.mv (Ci 0))])
 (.block 0
 (.loop (.seq (.reg [Ro 8 (.bin .lss (Sv 7) (Sv 6))])
 (.seq (.cond (Sv 8)
 .skip
 (.exit 0))
 (.seq (.block 1
 (.seq (.reg [Ro 9 (.idx true (Sv 5) (Sv 7) 1), Ro 10 (Ld 9), Ro 4 (Mv 10)])
 (.reg [Ro 11 (.ld false (Sv 1) none), Ro 12 (Mv 4), Ro 13 (.idx false (Sv 11) (Sv 12) 1), Rn (.st (Sv 13) (.c (.bool true)) 1)])))
 (.reg [Ro 14 (.bin .add (Sv 7) (Ci 1)), Ro 7 (Mv 14)])))))))
def r_trim_Used_1 : List ARes := []
theorem t_trim_Used_1 : (Tryz.f135).body.bind (trCode Tryz.prog 8 (Tryz.f135).ntmps [1, 11, 13] [] (drOk 8)) = some c_trim_Used_1 := by kernel_rfl
theorem u_trim_Used_1 : trRess Tryz.prog 8 (Tryz.f135).results.toList = some r_trim_Used_1 := by kernel_rfl
def c_trim_anew_int_ : ACode :=
 (.seq (.reg [Ro 4 (.mv (.c (.slice none 0 0)))])
 (.seq (.reg [Ro 5 (.mv (.c (.slice none 0 0)))])
 (.seq (.seq (.reg [Ro 8 (Mv 0), Ro 9 (.len false (Sv 8)), Ro 10 (.mv (Ci 0))])
 (.block 0
 (.loop (.seq (.reg [Ro 11 (.bin .lss (Sv 10) (Sv 9))])
 (.seq (.cond (Sv 11)
 .skip
 (.exit 0))
 (.seq (.block 1
 (.seq (.reg [Ro 12 (.idx true (Sv 8) (Sv 10) 1), Ro 13 (Ld 12), Ro 7 (Mv 13)])
 (.reg [Ro 14 (Mv 5), Ro 15 (Mv 1), Ro 16 (Mv 7), Ro 17 (.mget (Sv 15) (Sv 16) false (.int .i64) (.int .i64 0)), Ro 18 (.mksl 1 1 [(.int .i64 0)] [(0, 1, (Sv 17))]), Ro 19 (.app 3 1 8 (Sv 14) (Sv 18)), Ro 5 (Mv 19)])))
 (.reg [Ro 20 (.bin .add (Sv 10) (Ci 1)), Ro 10 (Mv 20)])))))))
 (.seq (.reg [Ro 21 (Mv 5), Ro 4 (Mv 21)])
 .ret))))
def r_trim_anew_int_ : List ARes := [(.tmp (sl 4))]
theorem t_trim_anew_int_ : (Tryz.f118).body.bind (trCode Tryz.prog 8 (Tryz.f118).ntmps [4, 5, 14, 19, 21] [] (drOk 8)) = some c_trim_anew_int_ := by kernel_rfl
theorem u_trim_anew_int_ : trRess Tryz.prog 8 (Tryz.f118).results.toList = some r_trim_anew_int_ := by kernel_rfl
def c_trim_Block : ACode :=
 (.seq (.reg [Ro 1 (.box true (Sv 0)), Ro 2 (.new [(.int .i64 0), (.slice none 0 0), (.int .i64 0), (.int .i64 0), (.int .i64 0), (.slice none 0 0), (.int .i64 0), (.slice none 0 0)])])
 (.seq (.reg [Ro 10 (Lk 1 8), Ro 11 (.call true (.f 115) [Sv 10]), Ro 3 (Mv 11)])
 (.seq (.reg [Ro 12 (.mmk (.int .i64)), Ro 4 (Mv 12)])
 (.seq (.seq (.reg [Ro 13 (Fd 1 0), Ro 14 (Ld 13), Ro 15 (.mv (Ci 0))])
 (.block 0
 (.loop (.seq (.reg [Ro 16 (.bin .lss (Sv 15) (Sv 14))])
 (.seq (.cond (Sv 16)
 .skip
 (.exit 0))
 (.seq (.block 1
 (.seq (.reg [Ro 17 (Mv 15), Ro 5 (Mv 17)])
 (.reg [Ro 18 (Mv 4), Ro 19 (Mv 5), Ro 20 (Mv 5), Rn (.mset false (Sv 18) (Sv 19) (Sv 20) (.int .i64))])))
 (.reg [Ro 21 (.bin .add (Sv 15) (Ci 1)), Ro 15 (Mv 21)])))))))
 (.seq (.reg [Ro 6 (.mv (.c (.slice none 0 0)))])
 (.seq (.seq (.reg [Ro 22 (Fd 1 1), Ro 23 (Ld 22), Ro 24 (.len false (Sv 23)), Ro 25 (.mv (Ci 0))])
 (.block 2
 (.loop (.seq (.reg [Ro 26 (.bin .lss (Sv 25) (Sv 24))])
 (.seq (.cond (Sv 26)
 .skip
 (.exit 2))
 (.seq (.block 3
 (.seq (.reg [Ro 27 (Mv 25), Ro 28 (.idx true (Sv 23) (Sv 25) 6), Ro 29 (Lk 28 6), Ro 8 (.new [(.int .i64 0), (.int .i64 0), (.int .i64 0), (.int .u64 0), (.string ⟨#[]⟩), (.slice none 0 0)]), Ro 7 (Mv 27), Rn (.ini 2 (Sv 8) (Sv 29) 6)])
 (.seq (.seq (.reg [Ro 30 (.ld false (Sv 8) (some 6)), Ro 31 (.call false (.f 116) [Sv 30]), Ro 32 (.not (Sv 31)), Ro 33 (Mv 32), Rg 34 33 true (Mv 3), Rg 35 33 true (Fd 1 0), Rg 36 33 true (Ld 35), Rg 37 33 true (Mv 7), Rg 38 33 true (.bin .add (Sv 36) (Sv 37)), Rg 39 33 true (.idx true (Sv 34) (Sv 38) 1), Rg 40 33 true (Ld 39), Rg 41 33 true (.not (Sv 40)), Ro 42 (.pick (Sv 33) (Sv 41) (.c (.bool false)))])
 (.cond (Sv 42)
 (.exit 3)
 .skip))
 (.seq (.reg [Ro 43 (Mv 4), Ro 44 (Fd 1 0), Ro 45 (Ld 44), Ro 46 (Mv 7), Ro 47 (.bin .add (Sv 45) (Sv 46)), Ro 48 (Fd 1 0), Ro 49 (Ld 48), Ro 50 (Mv 6), Ro 51 (.len false (Sv 50)), Ro 52 (.bin .add (Sv 49) (Sv 51)), Rn (.mset false (Sv 43) (Sv 47) (Sv 52) (.int .i64))])
 (.seq (.seq (.reg [Ro 53 (.ld false (Sv 8) (some 6)), Ro 54 (.call false (.f 117) [Sv 53]), Ro 55 (.len false (Sv 54)), Ro 56 (.bin .gtr (Sv 55) (Ci 0))])
 (.cond (Sv 56)
 (.seq (.reg [Rl 57 (Mv 4) 0, Rl 58 (Fd 8 1) 1, Rl 59 (.ld false (Sv 58) none) 2, Rl 60 (.mget (Sv 57) (Sv 59) false (.int .i64) (.int .i64 0)) 3, Rl 61 (Mv 4) 4, Rl 62 (Fd 8 2) 5, Rl 63 (.ld false (Sv 62) none) 6, Rl 64 (.mget (Sv 61) (Sv 63) false (.int .i64) (.int .i64 0)) 7, Rl 65 (Fd 8 1) 8, ⟨none, none, (.st (Sv 65) (Sv 60) 1), (some (9, []))⟩, Rl 66 (Fd 8 2) 10, ⟨none, none, (.st (Sv 66) (Sv 64) 1), (some (11, []))⟩])
 (.reg [Ro 67 (Fd 8 5), Ro 68 (.ld false (Sv 67) none), Ro 69 (Mv 4), Ro 70 (.calle (.f 118) [Sv 68, Sv 69]), Ro 71 (Fd 8 5), Rn (.st (Sv 71) (Sv 70) 1)]))
 .skip))
 (.seq (.seq (.reg [Ro 72 (Fd 8 0), Ro 73 (.ld false (Sv 72) none), Ro 74 (.bin .eql (Sv 73) (Ci 14)), Ro 75 (Mv 74), Rg 76 75 false (Fd 8 0), Rg 77 75 false (.ld false (Sv 76) none), Rg 78 75 false (.bin .eql (Sv 77) (Ci 13)), Ro 79 (.pick (Sv 75) (.c (.bool true)) (Sv 78)), Ro 80 (Mv 79), Rg 81 80 false (Fd 8 0), Rg 82 80 false (.ld false (Sv 81) none), Rg 83 80 false (.bin .eql (Sv 82) (Ci 16)), Ro 84 (.pick (Sv 80) (.c (.bool true)) (Sv 83))])
 (.cond (Sv 84)
 (.reg [Ro 85 (Fd 8 2), Rn (.st (Sv 85) (Ci 0) 1)])
 .skip))
 (.seq (.seq (.reg [Ro 86 (Fd 8 0), Ro 87 (.ld false (Sv 86) none), Ro 88 (.bin .eql (Sv 87) (Ci 14))])
 (.cond (Sv 88)
 (.reg [Ro 89 (Fd 8 1), Rn (.st (Sv 89) (Ci 0) 1)])
 .skip))
 (.reg [Ro 90 (Mv 6), Ro 91 (.ld false (Sv 8) (some 6)), Ro 92 (.mksl 6 1 [(.int .i64 0), (.int .i64 0), (.int .i64 0), (.int .u64 0), (.string ⟨#[]⟩), (.slice none 0 0)] [(0, 6, (Sv 91))]), Ro 93 (.app 53 6 72 (Sv 90) (Sv 92)), Ro 6 (Mv 93)]))))))))
 (.reg [Ro 94 (.bin .add (Sv 25) (Ci 1)), Ro 25 (Mv 94)])))))))
 (.seq (.reg [Ro 95 (Fd 1 2), Ro 96 (Lk 95 6), Ro 9 (.new [(.int .i64 0), (.int .i64 0), (.int .i64 0), (.slice none 0 0), (.int .i64 0), (.slice none 0 0)]), Rn (.ini 1 (Sv 9) (Sv 96) 6)])
 (.seq (.reg [Rl 97 (Fd 9 3) 0, Rl 98 (.ldk 43 (Sv 97) none) 1, Rl 99 (Mv 4) 2, Rl 100 (.callk 43 (.f 118) [Sv 98, Sv 99]) 3, Rl 101 (Fd 9 5) 4, Rl 102 (.ldk 43 (Sv 101) none) 5, Rl 103 (Mv 4) 6, Rl 104 (.callk 43 (.f 118) [Sv 102, Sv 103]) 7, Rl 105 (Fd 9 3) 8, ⟨none, none, (.st (Sv 105) (Sv 100) 1), (some (9, []))⟩, Rl 106 (Fd 9 5) 10, ⟨none, none, (.st (Sv 106) (Sv 104) 1), (some (11, []))⟩])
 (.seq (.seq (.reg [Ro 107 (Fd 9 0), Ro 108 (.ld false (Sv 107) none), Ro 109 (.bin .neq (Sv 108) (Ci 1))])
 (.cond (Sv 109)
 (.reg [Ro 110 (Mv 4), Ro 111 (Fd 9 1), Ro 112 (.ld false (Sv 111) none), Ro 113 (.mget (Sv 110) (Sv 112) false (.int .i64) (.int .i64 0)), Ro 114 (Fd 9 1), Rn (.st (Sv 114) (Sv 113) 1)])
 .skip))
 (.seq (.reg [Ro 115 (Fd 1 0), Ro 116 (Ld 115), Ro 117 (Mv 6), Ro 118 (.ld false (Sv 9) (some 6)), Ro 119 (.bld [(.int .i64 0), (.slice none 0 0), (.int .i64 0), (.int .i64 0), (.int .i64 0), (.slice none 0 0), (.int .i64 0), (.slice none 0 0)] [(0, 1, (Sv 116)), (1, 1, (Sv 117)), (2, 6, (Sv 118))]), Rn (.st (Sv 2) (Sv 119) 8)])
 .ret))))))))))
def r_trim_Block : List ARes := [(.cell (sl 2) (some 8))]
theorem t_trim_Block : (Tryz.f94).body.bind (trCode Tryz.prog 8 (Tryz.f94).ntmps [2, 6, 8, 9, 30, 50, 53, 58, 59, 62, 63, 65, 66, 67, 68, 70, 71, 72, 73, 76, 77, 81, 82, 85, 86, 87, 89, 90, 91, 92, 93, 97, 98, 100, 101, 102, 104, 105, 106, 107, 108, 111, 112, 114, 117, 118, 119] [(118, 0, 0), (7000098, 0, 43), (7000100, 0, 43), (7000102, 0, 43), (7000104, 0, 43)] (drOk 8)) = some c_trim_Block := by kernel_rfl
theorem u_trim_Block : trRess Tryz.prog 8 (Tryz.f94).results.toList = some r_trim_Block := by kernel_rfl
def c_trim_Reached : ACode :=
 (.seq (.reg [Ro 1 (.box true (Sv 0)), Ro 2 (.mv (.c (.slice none 0 0)))])
 (.seq (.reg [Ro 5 (Fd 1 3), Ro 6 (Ld 5), Ro 7 (.len false (Sv 6)), Ro 8 (.vop 3 4 1 1 (Sv 7) (.c (.agg #[(.bool false)]))), Ro 3 (.new [(.slice none 0 0)]), Rn (.st (Sv 3) (Sv 8) 1)])
 (.seq (.reg [Ro 4 (.new [.nilFunc])])
 (.seq (.reg [Ro 9 (.mkfn 114 [Sv 3, Sv 1, Sv 4]), Rn (.st (Sv 4) (Sv 9) 1)])
 (.seq (.seq (.reg [Ro 10 (.ld false (Sv 3) none), Ro 11 (.len false (Sv 10)), Ro 12 (.bin .gtr (Sv 11) (Ci 0))])
 (.cond (Sv 12)
 (.reg [Ro 13 (.ld false (Sv 4) none), Ro 14 (.calle (Sv 13) [Ci 0])])
 .skip))
 (.seq (.reg [Ro 15 (.ld false (Sv 3) none), Ro 2 (Mv 15)])
 .ret))))))
def r_trim_Reached : List ARes := [(.tmp (sl 2))]
theorem t_trim_Reached : (Tryz.f93).body.bind (trCode Tryz.prog 8 (Tryz.f93).ntmps [2, 3, 4, 9, 10, 13, 15] [(6000008, 0, 1), (8000003, 0, 1), (1000013, 0, 0)] (drOk 8)) = some c_trim_Reached := by kernel_rfl
theorem u_trim_Reached : trRess Tryz.prog 8 (Tryz.f93).results.toList = some r_trim_Reached := by kernel_rfl
def c_trim_Reached_1 : ACode :=
 (.seq (.seq (.reg [Ro 6 (.ld false (Sv 1) none), Ro 7 (Mv 0), Ro 8 (.idx false (Sv 6) (Sv 7) 1), Ro 9 (.ld false (Sv 8) none)])
 (.cond (Sv 9)
 .ret
 .skip))
 (.seq (.reg [Ro 10 (.ld false (Sv 1) none), Ro 11 (Mv 0), Ro 12 (.idx false (Sv 10) (Sv 11) 1), Rn (.st (Sv 12) (.c (.bool true)) 1)])
 (.seq (.seq (.reg [Ro 13 (Fd 2 3), Ro 14 (Ld 13), Ro 15 (Mv 0), Ro 16 (.idx true (Sv 14) (Sv 15) 8), Ro 17 (Fd 16 2), Ro 18 (Lk 17 6), Ro 5 (.new [(.int .i64 0), (.int .i64 0), (.int .i64 0), (.slice none 0 0), (.int .i64 0), (.slice none 0 0)]), Rn (.ini 1 (Sv 5) (Sv 18) 6)])
 (.frz (sl 5)))
 (.seq (.seq (.reg [Ro 19 (Fd 5 0), Ro 20 (Ld 19), Ro 21 (.bin .neq (Sv 20) (Ci 3))])
 (.cond (Sv 21)
 (.reg [Ro 22 (.ld false (Sv 3) none), Ro 23 (Fd 5 2), Ro 24 (Ld 23), Ro 25 (.calle (Sv 22) [Sv 24])])
 .skip))
 (.seq (.reg [Ro 26 (Fd 5 0), Ro 27 (Ld 26), Ro 28 (.bin .eql (Sv 27) (Ci 2))])
 (.cond (Sv 28)
 (.reg [Ro 29 (.ld false (Sv 3) none), Ro 30 (Fd 5 4), Ro 31 (Ld 30), Ro 32 (.calle (Sv 29) [Sv 31])])
 .skip))))))
def r_trim_Reached_1 : List ARes := []
theorem t_trim_Reached_1 : (Tryz.f114).body.bind (trCode Tryz.prog 8 (Tryz.f114).ntmps [1, 3, 6, 8, 9, 10, 12, 22, 29] [(1000022, 0, 0), (1000029, 0, 0)] (drOk 8)) = some c_trim_Reached_1 := by kernel_rfl
theorem u_trim_Reached_1 : trRess Tryz.prog 8 (Tryz.f114).results.toList = some r_trim_Reached_1 := by kernel_rfl
def c_trim_Func : ACode :=
 (.seq (.reg [Ro 1 (.box false (Sv 0)), Ro 2 (.new [(.string ⟨#[]⟩), (.int .i64 0), (.int .i64 0), (.slice none 0 0)])])
 (.seq (.reg [Ro 11 (.ld false (Sv 1) (some 4)), Ro 12 (.call false (.f 93) [Sv 11]), Ro 3 (Mv 12)])
 (.seq (.reg [Ro 13 (.mmk (.int .i64)), Ro 4 (Mv 13)])
 (.seq (.reg [Ro 5 (.mv (Ci 0))])
 (.seq (.seq (.reg [Ro 14 (Mv 3), Ro 15 (.len false (Sv 14)), Ro 16 (.mv (Ci 0))])
 (.block 0
 (.loop (.seq (.reg [Ro 17 (.bin .lss (Sv 16) (Sv 15))])
 (.seq (.cond (Sv 17)
 .skip
 (.exit 0))
 (.seq (.block 1
 (.seq (.reg [Ro 18 (Mv 16), Ro 19 (.idx true (Sv 14) (Sv 16) 1), Ro 20 (Ld 19), Ro 6 (Mv 18), Ro 7 (Mv 20)])
 (.seq (.reg [Ro 21 (Mv 7)])
 (.cond (Sv 21)
 (.seq (.reg [Ro 22 (Mv 4), Ro 23 (Mv 6), Ro 24 (Mv 5), Rn (.mset false (Sv 22) (Sv 23) (Sv 24) (.int .i64))])
 (.reg [Ro 25 (Mv 5), Ro 26 (.bin .add (Sv 25) (Ci 1)), Ro 5 (Mv 26)]))
 .skip))))
 (.reg [Ro 27 (.bin .add (Sv 16) (Ci 1)), Ro 16 (Mv 27)])))))))
 (.seq (.reg [Ro 8 (.mv (.c (.slice none 0 0)))])
 (.seq (.seq (.reg [Ro 28 (Fd 1 3), Ro 29 (.ld false (Sv 28) none), Ro 30 (.len false (Sv 29)), Ro 31 (.mv (Ci 0))])
 (.block 2
 (.loop (.seq (.reg [Ro 32 (.bin .lss (Sv 31) (Sv 30))])
 (.seq (.cond (Sv 32)
 .skip
 (.exit 2))
 (.seq (.block 3
 (.seq (.reg [Ro 33 (Mv 31), Ro 34 (.idx false (Sv 29) (Sv 31) 8), Ro 35 (.ld false (Sv 34) (some 8)), Ro 10 (.new [(.int .i64 0), (.slice none 0 0), (.int .i64 0), (.int .i64 0), (.int .i64 0), (.slice none 0 0), (.int .i64 0), (.slice none 0 0)]), Ro 9 (Mv 33), Rn (.ini 2 (Sv 10) (Sv 35) 8)])
 (.seq (.seq (.reg [Ro 36 (Mv 3), Ro 37 (Mv 9), Ro 38 (.idx true (Sv 36) (Sv 37) 1), Ro 39 (Ld 38), Ro 40 (.not (Sv 39))])
 (.cond (Sv 40)
 (.exit 3)
 .skip))
 (.seq (.reg [Ro 41 (.ld false (Sv 10) (some 8)), Ro 42 (.call false (.f 94) [Sv 41]), Rn (.st (Sv 10) (Sv 42) 8)])
 (.seq (.seq (.reg [Ro 43 (Fd 10 2), Ro 44 (Fd 43 0), Ro 45 (.ld false (Sv 44) none), Ro 46 (.bin .neq (Sv 45) (Ci 3))])
 (.cond (Sv 46)
 (.reg [Ro 47 (Mv 4), Ro 48 (Fd 10 2), Ro 49 (Fd 48 2), Ro 50 (.ld false (Sv 49) none), Ro 51 (.mget (Sv 47) (Sv 50) false (.int .i64) (.int .i64 0)), Ro 52 (Fd 10 2), Ro 53 (Fd 52 2), Rn (.st (Sv 53) (Sv 51) 1)])
 .skip))
 (.seq (.seq (.reg [Ro 54 (Fd 10 2), Ro 55 (Fd 54 0), Ro 56 (.ld false (Sv 55) none), Ro 57 (.bin .eql (Sv 56) (Ci 2))])
 (.cond (Sv 57)
 (.reg [Ro 58 (Mv 4), Ro 59 (Fd 10 2), Ro 60 (Fd 59 4), Ro 61 (.ld false (Sv 60) none), Ro 62 (.mget (Sv 58) (Sv 61) false (.int .i64) (.int .i64 0)), Ro 63 (Fd 10 2), Ro 64 (Fd 63 4), Rn (.st (Sv 64) (Sv 62) 1)])
 .skip))
 (.reg [Ro 65 (Mv 8), Ro 66 (.ld false (Sv 10) (some 8)), Ro 67 (.mksl 8 1 [(.int .i64 0), (.slice none 0 0), (.int .i64 0), (.int .i64 0), (.int .i64 0), (.slice none 0 0), (.int .i64 0), (.slice none 0 0)] [(0, 8, (Sv 66))]), Ro 68 (.app 58 8 112 (Sv 65) (Sv 67)), Ro 8 (Mv 68)])))))))
 (.reg [Ro 69 (.bin .add (Sv 31) (Ci 1)), Ro 31 (Mv 69)])))))))
 (.seq (.reg [Ro 70 (Mv 8), Ro 71 (Fd 1 3), Rn (.st (Sv 71) (Sv 70) 1)])
 (.seq (.reg [Ro 72 (.ld false (Sv 1) (some 4)), Rn (.st (Sv 2) (Sv 72) 4)])
 .ret)))))))))
def r_trim_Func : List ARes := [(.cell (sl 2) (some 4))]
theorem t_trim_Func : (Tryz.f68).body.bind (trCode Tryz.prog 8 (Tryz.f68).ntmps [1, 2, 8, 10, 11, 28, 29, 34, 35, 41, 43, 44, 45, 48, 49, 50, 52, 53, 54, 55, 56, 59, 60, 61, 63, 64, 65, 66, 67, 68, 70, 71, 72] [] (drOk 8)) = some c_trim_Func := by kernel_rfl
theorem u_trim_Func : trRess Tryz.prog 8 (Tryz.f68).results.toList = some r_trim_Func := by kernel_rfl
def c_trim_Module : ACode :=
 (.seq (.reg [Ro 1 (.box false (Sv 0)), Ro 2 (.new [(.slice none 0 0), (.slice none 0 0)])])
 (.seq (.reg [Ro 5 (Fd 1 0), Ro 6 (.ld false (Sv 5) none), Ro 7 (.callv 61 4 (.f 67) [Sv 6]), Ro 8 (Fd 1 0), Rn (.st (Sv 8) (Sv 7) 1)])
 (.seq (.seq (.reg [Ro 9 (Fd 1 0), Ro 10 (.ld false (Sv 9) none), Ro 11 (.len false (Sv 10)), Ro 12 (.mv (Ci 0))])
 (.block 0
 (.loop (.seq (.reg [Ro 13 (.bin .lss (Sv 12) (Sv 11))])
 (.seq (.cond (Sv 13)
 .skip
 (.exit 0))
 (.seq (.block 1
 (.seq (.seq (.reg [Ro 14 (Mv 12), Ro 15 (.idx false (Sv 10) (Sv 12) 4), Ro 16 (.ld false (Sv 15) (some 4)), Ro 4 (.new [(.string ⟨#[]⟩), (.int .i64 0), (.int .i64 0), (.slice none 0 0)]), Ro 3 (Mv 14), Rn (.ini 2 (Sv 4) (Sv 16) 4)])
 (.frz (sl 4)))
 (.seq (.reg [Ro 17 (Lk 4 4), Ro 18 (.call true (.f 57) [Sv 17])])
 (.cond (Sv 18)
 (.reg [Rl 19 (Fd 1 0) 0, Rl 20 (.ld false (Sv 19) none) 1, Rl 21 (Mv 3) 2, Rl 22 (Lk 4 4) 3, Rl 23 (.call true (.f 68) [Sv 22]) 4, Rl 24 (.idx false (Sv 20) (Sv 21) 4) 5, ⟨none, none, (.st (Sv 24) (Sv 23) 4), (some (6, []))⟩])
 .skip))))
 (.reg [Ro 25 (.bin .add (Sv 12) (Ci 1)), Ro 12 (Mv 25)])))))))
 (.seq (.reg [Ro 26 (.ld false (Sv 1) (some 2)), Rn (.st (Sv 2) (Sv 26) 2)])
 .ret))))
def r_trim_Module : List ARes := [(.cell (sl 2) (some 2))]
theorem t_trim_Module : (Tryz.f40).body.bind (trCode Tryz.prog 8 (Tryz.f40).ntmps [1, 2, 5, 6, 7, 8, 9, 10, 15, 16, 19, 20, 24, 26] [(67, 61, 1004)] (drOk 8)) = some c_trim_Module := by kernel_rfl
theorem u_trim_Module : trRess Tryz.prog 8 (Tryz.f40).results.toList = some r_trim_Module := by kernel_rfl
theorem does_pure (x : Inst) : APure Tryz.prog 116 [.agg (instC x)] (.bool (doesB x.op)) := by
 refine apureG _ _ Tryz.func116 (by kernel_rfl) t_trim_does u_trim_does rfl rfl (fun _ => ?_)
 simp [c_trim_does, r_trim_does]
 exact DLe_bool (by rw [Bool.eq_iff_iff]; simp [doesB])
theorem AOwn.nilSplit {P : Program} {F : FuncId} {n len : Nat} {row : Nat → List DV} {as' : List DV} {te : TypeId} {m l : Nat} {r : Nat → List DV} (h0 : len = 0 → AOwn P F (.lit (.slice none 0 0) :: as') te m l r) (h1 : AOwn P F (.sn n len row :: as') te m l r) : AOwn P F (.sl n len row :: as') te m l r := by
 refine ⟨h1.1, fun X w vs hX hvs => ?_⟩
 obtain ⟨v, vs', he, hv, hr⟩ := hvs.uncons
 by_cases hn : v = .slice none 0 0
 ·have hl : len = 0 := by
   subst hn
   cases hv
   rfl
  subst hn
  exact (h0 hl).2 X w vs hX (by rw [he]; exact DReps.cons (.lit _) hr)
 ·exact h1.2 X w vs hX (by rw [he]; exact DReps.cons (.sn v _ _ _ hv hn) hr)
set_option maxRecDepth 10000 in
theorem cloneN_own (xs : List Int) (hl : xs.length ≤ 1000000) : AOwn Tryz.prog 137 [intsD xs] 3 1 xs.length (fun i => intC (xs[i]?.getD 0)) := by
 refine AOwn.nilSplit (fun h0 => ?_) ?_
 ·refine aownG _ _ Tryz.func137 (by kernel_rfl) t_slices_Clone___int_int_ u_slices_Clone___int_int_ rfl rfl (fun _ => ?_)
  simp [c_slices_Clone___int_int_, r_slices_Clone___int_int_]
  exact List.length_eq_zero_iff.1 h0
 ·refine aownG _ _ Tryz.func137 (by kernel_rfl) t_slices_Clone___int_int_ u_slices_Clone___int_int_ rfl rfl (fun _ => ?_)
  simp [c_slices_Clone___int_int_, r_slices_Clone___int_int_]
  omega
set_option maxRecDepth 10000 in
theorem ends_pure (b : Block) (h1 : b.args.length ≤ 1000) (h2 : b.elses.length ≤ 1000) : APure Tryz.prog 136 [.agg (termC b)] (intsD (endsL b)) := by
 refine apureG _ _ Tryz.func136 (by kernel_rfl) t_trim_ends u_trim_ends rfl rfl (fun _ => ?_)
 simp [c_trim_ends, r_trim_ends]
 refine callo_k (ds := [intsD b.args]) _ _ rfl (by simp) (by simp) (cloneN_own b.args (by omega)) ?_
 simp
 have hr : ∀ i, i < b.args.length + b.elses.length → appRow b.args.length (fun i => intC (b.args[i]?.getD 0)) (fun k => intC (b.elses[k]?.getD 0)) i = intC ((b.args ++ b.elses)[i]?.getD 0) := fun i hi => by
  unfold appRow
  split
  ·rename_i h; rw [List.getElem?_append_left h]
  ·rename_i h; rw [List.getElem?_append_right (by omega)]
 refine ⟨by omega, fun hk => ⟨by omega, ?_⟩, fun hk => ?_⟩
 ·have e : endsL b = (b.args ++ b.elses) ++ [b.ta] := by unfold endsL; rw [if_neg hk]
  rw [e]
  refine DLe_rows (by simp; omega) fun i hi => ?_
  have h := appRow_snocG intC 0 (acc := b.args ++ b.elses) (x := b.ta) (more := fun i => List.take 1 (List.drop i [DV.lit (Value.int IntKind.i64 b.ta)])) rfl (i := i) (by rw [List.length_append]; exact hi)
  rw [← h]
  unfold appRow
  rw [List.length_append]
  split
  ·rename_i h1
   exact hr i h1
  ·rfl
 ·have e : endsL b = b.args ++ b.elses := by unfold endsL; rw [if_pos hk, List.append_nil]
  rw [e]
  exact DLe_rows (by simp) fun i hi => hr i hi
def rowU (u : List Bool) : Nat → List AV := fun j => (boolC (u[j]?.getD false)).map .d
def LU (u : List Bool) : List (Nat × AObj) := [(1000000, .box [.own 1000001 u.length]), (1000001, .vec 4 1 u.length (rowU u))]
theorem hof_LU (u : List Bool) : hof (LU u) = hadd 1000000 (.box [.own 1000001 u.length]) (hadd 1000001 (.vec 4 1 u.length (rowU u)) hnil) := rfl
theorem LU_end {u u' : List Bool} {row : Nat → List AV} (hl : u'.length = u.length) (hr : ∀ j, j < u.length → row j = rowU u' j) : EffEnd (LU u) (LU u') (hadd 1000000 (.box [.own 1000001 u.length]) (hadd 1000001 (.vec 4 1 u.length row) hnil)) := by
 refine ⟨.none, ?_, ?_⟩
 ·simp [LU, gE, hl]
  intro j hj
  rw [hr j hj]
  simp [rowU]
 ·simp [LU, gE]
theorem rowU_set {u : List Bool} {v : Nat} (hv : v < u.length) (b : Bool) (j : Nat) : (if j = v then [.d (.bool b)] else rowU u j) = rowU (u.set v b) j := by
 unfold rowU
 split
 ·rename_i h
  subst h
  simp [hv]
 ·rename_i h
  rw [List.getElem?_set_ne (by omega)]
@[simp] theorem rowU_tail (u : List Bool) (j : Nat) : (rowU u j).tail = [] := rfl
@[simp] theorem rowU_length (u : List Bool) (j : Nat) : (rowU u j).length = 1 := rfl
@[simp] theorem rowU_0 (u : List Bool) (j : Nat) : (rowU u j)[0]? = some (.d (.bool (u[j]?.getD false))) := rfl
@[simp] theorem rowU_dv (u : List Bool) (j : Nat) : (rowU u j).map AV.dv = boolC (u[j]?.getD false) := rfl
@[simp] theorem ren_rowU (τ : Nat → Nat) (u : List Bool) (j : Nat) : AV.ren.renL τ (rowU u j) = rowU u j := by simp [rowU]
theorem rowU_nil {n j : Nat} : rowU (List.replicate n false) j = [.d (.bool false)] := by
 unfold rowU
 rw [List.getElem?_replicate]
 split <;> rfl
theorem markL_take {u : List Bool} {l : List Int} {k : Nat} (hk : k < l.length) : markL u (l.take (k + 1)) = (markL u (l.take k)).set l[k].toNat true := by
 unfold markL
 rw [List.take_succ_eq_append_getElem hk, List.foldl_append]
 rfl
set_option maxRecDepth 10000 in
theorem mark_eff (u : List Bool) (l : List Int) (hl : l.length ≤ 1000000) (hv : ∀ v ∈ l, 0 ≤ v ∧ v.toNat < u.length) : AEff Tryz.prog 135 [.d (intsD l), .ptr 1000000 0] (LU u) (.tup []) (LU (markL u l)) := by
 refine aeffG _ _ Tryz.func135 (by kernel_rfl) t_trim_Used_1 u_trim_Used_1 rfl rfl (by simp [LU]) (by simp [LU, idsOk]) (fun _ => ?_)
 simp [c_trim_Used_1, r_trim_Used_1, hof_LU]
 refine loop_s (κ := Nat) (fun k => k ≤ l.length) (fun k => l.length - k) (fun k => [(sl 7, .int k)]) (fun k => LU (markL u (l.take k))) 0 0 (srcs []) (by simp) (by simp [LU, rowU, markL]) ?_
 rintro k hk
 simp [hof_LU]
 refine ⟨fun hlt => ⟨hlt, ?_⟩, fun hge => ?_⟩
 ·rw [getD_some hlt]
  have hin := hv _ (List.getElem_mem hlt)
  refine ⟨⟨hin.1, by omega⟩, hin.2, k + 1, by omega, by omega, srcs [], ?_⟩
  simp [SLeK, LU, markL_take hlt]
  refine ⟨DLe_int (wrap_succ (by omega)), fun j hj => ?_⟩
  have e := rowU_set (u := markL u (l.take k)) (v := l[k].toNat) (by rw [markL_length]; exact hin.2) true j
  rw [e]
  simp [rowU]
 ·rw [List.take_of_length_le hge] at *
  exact LU_end (markL_length _ _) fun _ _ => rfl
def tauU (c : Nat) (a b : Nat) : Nat → Nat := fun i => if i = 1000000 then a else if i = 1000001 then b else c
set_option maxRecDepth 10000 in
theorem used_pure (f : Func) (b : Block) (hb : blockOk f b = true) (ha : b.args.length ≤ 1000) (he : b.elses.length ≤ 1000) (hi : ∀ x ∈ b.ins, x.args.length ≤ 1000) : APure Tryz.prog 115 [.agg (blockC b)] (boolsD (usedL b)) := by
  obtain ⟨h0, h6, h32, _⟩ := blockOk_iff.1 hb
  have hfit := blkFit hb
  have hw : IntKind.i64.wrap (b.params + b.ins.length) = b.params + b.ins.length := wrap_in (by omega)
  refine apureG _ _ Tryz.func115 (by kernel_rfl) t_trim_Used u_trim_Used rfl rfl (fun _ => ?_)
  simp [c_trim_Used, r_trim_Used]
  refine call_plain (ds := [.agg (blockC b)]) _ (by simp) (by simp) (fun _ => by simp; rfl) (fun _ => values_pure b) ?_
  have hN : (b.params + (b.ins.length : Int)).toNat = b.params.toNat + b.ins.length := by omega
  simp [hw, hN]
  refine ⟨⟨by omega, by omega, by omega⟩, ?_⟩
  refine call_plain (ds := [.agg (termC b)]) _ (by simp) (by simp) (fun _ => by simp; rfl) (fun _ => ends_pure b ha he) ?_
  simp
  have hel : (endsL b).length ≤ 3000 := by
    unfold endsL
    split <;> simp <;> omega
  obtain ⟨n, hn⟩ : ∃ n, b.params.toNat + b.ins.length = n := ⟨_, rfl⟩
  simp only [hn]
  refine calle_k (mark_eff (List.replicate n false) (endsL b) (by omega) (fun v hv => ?_)) (tauU _ 5 4) rfl [.d (intsD (endsL b)), .ptr 5 0] (by simp) (by simp) (by simp) (by simp [gOf, LU, tauU]) ?_ (by simp [gOf, LU, tauU]) (by simp [LU, idsOk]) ?_
  · have := hfit.ends v hv
    simp
    omega
  · simp [gOf, LU, tauU, rowU_nil]
  simp [LU, tauU]
  have hu0 : usedK b b.ins.length (markL (List.replicate n false) (endsL b)) = usedL b := by unfold usedL; rw [hn]
  refine loop_s (κ := Nat × List Bool) (fun p => p.1 ≤ b.ins.length ∧ p.2.length = n ∧ usedK b p.1 p.2 = usedL b) (fun p => p.1) (fun p => [(sl 5, .int ((p.1 : Int) - 1))]) (fun p => [(5, .box [.own 4 n]), (4, .vec 4 1 n (rowU p.2))]) 19 (b.ins.length, markL (List.replicate n false) (endsL b)) (srcs [(5, .id 5), (4, .id 4)]) ⟨by simp, by simp, hu0⟩ ?_ ?_
  · simp [rowU]
    exact DLe_int (wrap_in (by omega))
  rintro ⟨k, u⟩ ⟨hk, hul, huk⟩
  simp only at hk hul huk
  cases k with
  | zero =>
    simp
    rw [← huk]
    show DLe _ (boolsD u)
    rw [← hul]
    exact DLe.refl _
  | succ k =>
    have hlt : k < b.ins.length := by omega
    obtain ⟨x, hx⟩ : ∃ x, b.ins[k] = x := ⟨_, rfl⟩
    have hxa : b.ins[k]? = some x := by rw [List.getElem?_eq_getElem hlt, hx]
    have hxm : x ∈ b.ins := List.mem_of_getElem? hxa
    have hus : usedK b (k + 1) u = if doesB x.op = true ∨ u[b.params.toNat + k]? = some true then usedK b k (markL u (uses x)) else usedK b k u := by
      conv => lhs; unfold usedK
      rw [hxa]
    have hp : IntKind.i64.wrap (b.params + (k : Int)) = b.params + k := wrap_in (by omega)
    have hpt : (b.params + (k : Int)).toNat = b.params.toNat + k := by omega
    have hun : b.params.toNat + k < u.length := by omega
    simp
    refine ⟨by omega, ?_⟩
    rw [getD_some hlt, hx]
    refine call_plain (ds := [.agg (instC x)]) _ (by simp) (by simp) (fun _ => by simp; rfl) (fun _ => does_pure x) ?_
    have hul1 : (uses x).length ≤ 1000000 := by
      have := hi x hxm
      unfold uses
      repeat' split
      all_goals simp
      all_goals omega
    have huv : ∀ v ∈ uses x, 0 ≤ v ∧ v.toNat < u.length := fun v hv => by
      have := hfit.ins k x hxa v hv
      omega
    cases hd : doesB x.op with
    | true =>
      have huy : usedK b k (markL u (uses x)) = usedL b := by rw [← huk, hus, if_pos (.inl hd)]
      simp [hp, hpt]
      refine call_plain (ds := [.agg (instC x)]) _ (by simp) (by simp) (fun _ => by simp; rfl) (fun _ => uses_pure x (by have := hi x hxm; omega)) ?_
      simp
      refine calle_k (mark_eff u (uses x) hul1 huv) (tauU _ 5 4) rfl [.d (intsD (uses x)), .ptr 5 0] (by simp) (by simp) (by simp) (by simp [gOf, LU, tauU]) (by simp [gOf, LU, tauU, hul, rowU]) (by simp [gOf, LU, tauU]) (by simp [LU, idsOk]) ?_
      simp [LU, tauU, hul]
      refine ⟨k, markL u (uses x), ⟨by omega, by rw [markL_length]; exact hul, huy⟩, by omega, srcs [(5, .id 5), (4, .id 4)], ?_⟩
      simp [SLeK, rowU]
      exact DLe_int (wrap_in (by omega))
    | false =>
      simp [hp, hpt]
      refine ⟨⟨by omega, by omega⟩, by omega, fun hf => ?_, fun hf => ?_⟩
      · have huy : usedK b k u = usedL b := by
          rw [← huk, hus, if_neg]
          rintro (h | h)
          · rw [hd] at h; cases h
          · rw [h] at hf; cases hf
        refine ⟨k, u, ⟨by omega, hul, huy⟩, by omega, srcs [(5, .id 5), (4, .id 4)], ?_⟩
        simp [SLeK, rowU]
        exact DLe_int (wrap_in (by omega))
      have huy : usedK b k (markL u (uses x)) = usedL b := by
        have hut : u[b.params.toNat + k]? = some true := by
          rw [List.getElem?_eq_getElem hun] at hf ⊢
          simpa using hf
        rw [← huk, hus, if_pos (.inr hut)]
      refine call_plain (ds := [.agg (instC x)]) _ (by simp) (by simp) (fun _ => by simp; rfl) (fun _ => uses_pure x (by have := hi x hxm; omega)) ?_
      simp
      refine calle_k (mark_eff u (uses x) hul1 huv) (tauU _ 5 4) rfl [.d (intsD (uses x)), .ptr 5 0] (by simp) (by simp) (by simp) (by simp [gOf, LU, tauU]) (by simp [gOf, LU, tauU, hul, rowU]) (by simp [gOf, LU, tauU]) (by simp [LU, idsOk]) ?_
      simp [LU, tauU, hul]
      refine ⟨k, markL u (uses x), ⟨by omega, by rw [markL_length]; exact hul, huy⟩, by omega, srcs [(5, .id 5), (4, .id 4)], ?_⟩
      simp [SLeK, rowU]
      exact DLe_int (wrap_in (by omega))
def trimK (b : Block) (k : Nat) : List Inst := (sel ((stayL b).drop b.params.toNat) (b.ins.take k)).map (mapInst (gT b))
@[simp] theorem trimK_zero (b : Block) : trimK b 0 = [] := by
 unfold trimK
 rw [List.take_zero]
 cases (stayL b).drop b.params.toNat with
 | nil => rfl
 | cons s l => cases s <;> rfl
theorem trimK_all {b : Block} {k : Nat} (h : b.ins.length ≤ k) : trimK b k = trimIns b := by
 unfold trimK trimIns
 rw [List.take_of_length_le h]
theorem trimK_next {b : Block} {k : Nat} {s : Bool} (hk : k < b.ins.length) (hs : (stayL b)[b.params.toNat + k]? = some s) : trimK b (k + 1) = trimK b k ++ (if s = true then [mapInst (gT b) b.ins[k]] else []) := by
 unfold trimK
 rw [List.take_succ_eq_append_getElem hk, sel_snoc (s := s) (by rw [List.getElem?_drop, List.length_take, Nat.min_eq_left (by omega)]; exact hs), List.map_append]
 cases s <;> rfl
theorem trimK_length (b : Block) (k : Nat) : (trimK b k).length ≤ k := by
 unfold trimK
 rw [List.length_map, sel_length (by rw [List.length_take, List.length_drop, stayL_length]; omega)]
 exact Nat.le_trans (nst_le _ _) (by rw [List.length_take]; omega)
def trimT (f : Func) (k : Nat) : List Block := (sel (inBL f) (f.blocks.take k)).map fun b => endT f (trimB b)
@[simp] theorem trimT_zero (f : Func) : trimT f 0 = [] := by
 unfold trimT
 rw [List.take_zero]
 cases inBL f with
 | nil => rfl
 | cons s l => cases s <;> rfl
theorem trimT_all {f : Func} {k : Nat} (h : f.blocks.length ≤ k) : trimT f k = (trimF f).blocks := by
 unfold trimT trimF
 rw [List.take_of_length_le h]
theorem trimT_next {f : Func} {k : Nat} {s : Bool} (hk : k < f.blocks.length) (hs : (inBL f)[k]? = some s) : trimT f (k + 1) = trimT f k ++ (if s = true then [endT f (trimB f.blocks[k])] else []) := by
 unfold trimT
 rw [List.take_succ_eq_append_getElem hk, sel_snoc (s := s) (by rw [List.length_take, Nat.min_eq_left (by omega)]; exact hs), List.map_append]
 cases s <;> rfl
theorem trimT_length (f : Func) (k : Nat) : (trimT f k).length ≤ k := by
 unfold trimT
 rw [List.length_map, sel_length (by rw [List.length_take, inBL_length]; omega)]
 exact Nat.le_trans (nst_le _ _) (by rw [List.length_take]; omega)
theorem endsSmall {f : Func} (h : funcOk f = true) {b : Block} (hb : b ∈ f.blocks) : (b.args.length ≤ 1000 ∧ b.elses.length ≤ 1000) ∧ (¬ b.kind = 3 → 0 ≤ b.to) ∧ (b.kind = 2 → 0 ≤ b.els) := by
 have hbk := (blockOk_iff.1 (funcOk_blocks h b hb)).2.2.2.2
 have hg : ∀ (to : Int) (l : List Int) (n : Int), goesB f to l n = true → 0 ≤ to ∧ l.length ≤ 1000 := fun to l n hg => by
  obtain ⟨h0, ⟨c, hc, hl⟩, _⟩ := goesB_iff.1 hg
  have := (blockOk_iff.1 (funcOk_blocks h c (List.mem_of_getElem? hc))).2.1
  exact ⟨h0, by omega⟩
 rcases endB_iff.1 hbk with ⟨e1, e2, _, e4, e5⟩ | ⟨e1, _, e3, e4⟩ | ⟨e1, _, e3, e4, e5, e6⟩
 ·rw [e5]
  exact ⟨⟨(hg _ _ _ e2).2, by simp⟩, fun _ => (hg _ _ _ e2).1, fun h => by omega⟩
 ·exact ⟨⟨(hg _ _ _ e3).2, (hg _ _ _ e4).2⟩, fun _ => (hg _ _ _ e3).1, fun _ => (hg _ _ _ e4).1⟩
 ·rw [e4, e6]
  exact ⟨by simp, fun h => absurd e1 h, fun h => by omega⟩
def LA (n : Nat) (f : Value → Option Value) : List (Nat × AObj) := [(1000000, .map (.int .i64) n f)]
set_option maxRecDepth 10000 in
theorem anew_eff (n : Nat) (f : Value → Option Value) (l : List Int) (g : Int → Int) (hl : l.length ≤ 1000000) (hg : ∀ v ∈ l, (f (.int .i64 v)).getD (.int .i64 0) = .int .i64 (g v)) : AEff Tryz.prog 118 [.d (intsD l), .mp 1000000] (LA n f) (intsD (l.map g)) (LA n f) := by
 refine aeffG _ _ Tryz.func118 (by kernel_rfl) t_trim_anew_int_ u_trim_anew_int_ rfl rfl (by simp [LA]) (by simp [LA, idsOk]) (fun _ => ?_)
 simp [c_trim_anew_int_, r_trim_anew_int_, LA]
 refine loop_s (κ := Nat) (fun k => k ≤ l.length) (fun k => l.length - k) (fun k => [(sl 10, .int k), (sl 5, .own 0 (mapT g l k).length)]) (fun k => [(0, .row 3 1 (mapT g l k).length fun i => intC ((mapT g l k)[i]?.getD 0)), (1000000, .map (.int .i64) n f)]) 10 0 (srcs [(0, .nil)]) (by simp) (by simp) ?_
 rintro k hk
 have hlen := mapT_length g l k
 simp
 refine ⟨fun hlt => ?_, fun hge => ?_⟩
 ·have hgk := hg _ (List.getElem_mem hlt)
  have hsucc := mapT_succ g hlt
  rw [getD_some hlt, hgk]
  refine ⟨hlt, rfl, ⟨by omega, rfl⟩, k + 1, by omega, by omega, srcs [(0, .id 19)], ?_⟩
  simp [SLeK, hsucc]
  exact ⟨DLe_int (wrap_succ (by omega)), fun i hi => appRow_snocG intC 0 rfl hi⟩
 ·rw [mapT_all _ hge]
  exact ⟨DLe.refl _, .none, by simp [gE], by simp [gE]⟩
def asF (b : Block) (k : Nat) : Value → Option Value
 | .int .i64 v => if (0 ≤ v ∧ v.toNat < k) ∧ (stayL b)[v.toNat]? = some true then some (.int .i64 (gT b v)) else none
 | _ => none
theorem asF_yes {b : Block} {k : Nat} {v : Int} (h0 : 0 ≤ v) (hk : v.toNat < k) (hs : (stayL b)[v.toNat]? = some true) : asF b k (.int .i64 v) = some (.int .i64 (gT b v)) := if_pos ⟨⟨h0, hk⟩, hs⟩
theorem asF_at {b : Block} {k : Nat} : asF b k (.int .i64 (k : Int)) = none := by
 refine if_neg ?_
 rintro ⟨⟨_, h⟩, _⟩
 omega
theorem asF_zero {b : Block} (key : Value) : none = asF b 0 key := by
 unfold asF
 split
 ·rw [if_neg]
  rintro ⟨⟨_, h⟩, _⟩
  omega
 ·rfl
theorem asF_next {b : Block} {k : Nat} (hs : (stayL b)[k]? = some true) {key : Value} (hkey : kdOk (.int .i64) key = true) : mset (asF b k) (.int .i64 (k : Int)) (.int .i64 (gT b (k : Int))) key = asF b (k + 1) key := by
  cases key with
  | int q v =>
    simp only [kdOk, decide_eq_true_eq] at hkey
    subst hkey
    unfold mset
    by_cases hv : v = (k : Int)
    · subst hv
      rw [if_pos (by simp [keq]), asF_yes (by omega) (by omega) (by rw [Int.toNat_natCast]; exact hs)]
    · rw [if_neg (by simp [keq]; exact hv)]
      unfold asF
      have : ((0 ≤ v ∧ v.toNat < k) ∧ (stayL b)[v.toNat]? = some true) = ((0 ≤ v ∧ v.toNat < k + 1) ∧ (stayL b)[v.toNat]? = some true) := by
        apply propext
        constructor
        · rintro ⟨⟨h1, h2⟩, h3⟩; exact ⟨⟨h1, by omega⟩, h3⟩
        · rintro ⟨⟨h1, h2⟩, h3⟩; exact ⟨⟨h1, by omega⟩, h3⟩
      simp only [this]
  | _ => simp [kdOk] at hkey
theorem asF_skip {b : Block} {k : Nat} (hs : (stayL b)[k]? = some false) : asF b (k + 1) = asF b k := by
 funext key
 unfold asF
 split
 ·rename_i v
  have : ((0 ≤ v ∧ v.toNat < k + 1) ∧ (stayL b)[v.toNat]? = some true) = ((0 ≤ v ∧ v.toNat < k) ∧ (stayL b)[v.toNat]? = some true) := by
   apply propext
   constructor
   ·rintro ⟨⟨h1, h2⟩, h3⟩
    refine ⟨⟨h1, ?_⟩, h3⟩
    rcases Nat.lt_or_ge v.toNat k with h | h
    ·exact h
    ·obtain rfl : v.toNat = k := by omega
     rw [hs] at h3; cases h3
   ·rintro ⟨⟨h1, h2⟩, h3⟩; exact ⟨⟨h1, by omega⟩, h3⟩
  simp only [this]
 ·rfl
set_option maxRecDepth 10000 in
set_option maxHeartbeats 1000000 in
theorem tblock_pure (f : Func) (b : Block) (hb : blockOk f b = true) (ha : b.args.length ≤ 1000) (he : b.elses.length ≤ 1000) : APure Tryz.prog 94 [.agg (blockC b)] (.agg (blockC (trimB b))) := by
  obtain ⟨h0, h6, h32, hio, hen⟩ := blockOk_iff.1 hb
  have hfit := blkFit hb
  have hi : ∀ x ∈ b.ins, x.args.length ≤ 1000 := fun x hx => by
    obtain ⟨k, hk, rfl⟩ := List.getElem_of_mem hx
    have := instOk_args (hio k hk)
    omega
  have hnp : ∀ k, k ≤ b.params.toNat → nst (stayL b) k = k := fun k hk => nst_all (by rw [stayL_length]; omega) fun i h => stayL_param (by omega)
  refine apureG _ _ Tryz.func94 (by kernel_rfl) t_trim_Block u_trim_Block rfl rfl (fun _ => ?_)
  simp [c_trim_Block, r_trim_Block]
  refine call_plain (ds := [.agg (blockC b)]) _ (by simp) (by simp) (fun _ => by simp; rfl) (fun _ => used_pure f b hb ha he hi) ?_
  simp
  refine loop_s (κ := Nat) (fun k => k ≤ b.params.toNat) (fun k => b.params.toNat - k) (fun k => [(sl 15, .int k)]) (fun k => [(5, .map (.int .i64) (nst (stayL b) k) (asF b k)), (1, .box [.int 0, .d (.lit (.slice none 0 0)), .int 0, .int 0, .int 0, .d (.lit (.slice none 0 0)), .int 0, .d (.lit (.slice none 0 0))])]) 10 0 (srcs [(5, .id 5), (1, .id 1)]) (by simp) ?_ ?_
  · simp [nst]
    exact fun key _ => asF_zero key
  intro k hk
  simp
  refine ⟨fun hlt => ?_, fun hge => ?_⟩
  · have hgk : gT b (k : Int) = k := by unfold gT; rw [Int.toNat_natCast, hnp k hk]
    have hs := stayL_param (b := b) (i := k) (by omega)
    refine ⟨k + 1, by omega, by omega, srcs [(5, .id 5), (1, .id 1)], ?_⟩
    simp [SLeK, asF_at]
    refine ⟨DLe_int (wrap_succ (by omega)), ?_, fun key hkey => ?_⟩
    · rw [hnp k hk, hnp (k + 1) (by omega)]
    · have h := asF_next hs hkey
      rw [hgk] at h
      exact h
  obtain rfl : k = b.params.toNat := by omega
  refine loop_s (κ := Nat) (fun i => i ≤ b.ins.length) (fun i => b.ins.length - i) (fun i => [(sl 25, .int i), (sl 6, .own 0 (trimK b i).length)]) (fun i => [(0, .row 53 6 (trimK b i).length fun j => instC ((trimK b i)[j]?.getD default)), (5, .map (.int .i64) (nst (stayL b) (b.params.toNat + i)) (asF b (b.params.toNat + i))), (1, .box [.int 0, .d (.lit (.slice none 0 0)), .int 0, .int 0, .int 0, .d (.lit (.slice none 0 0)), .int 0, .d (.lit (.slice none 0 0))])]) 40 0 (srcs [(0, .nil), (5, .id 5), (1, .id 1)]) (by simp) (by simp) ?_
  intro i hi1
  simp
  refine ⟨fun hlt => ?_, fun hge => ?_⟩
  · have hp : IntKind.i64.wrap (b.params + (i : Int)) = b.params + i := wrap_in (by omega)
    have hpt : (b.params + (i : Int)).toNat = b.params.toNat + i := by omega
    obtain ⟨x, hx⟩ : ∃ x, b.ins[i] = x := ⟨_, rfl⟩
    have hxa : b.ins[i]? = some x := by rw [List.getElem?_eq_getElem hlt, hx]
    have hxm : x ∈ b.ins := List.mem_of_getElem? hxa
    have hul := usedL_length b
    have hut : b.params.toNat + i < (usedL b).length := by omega
    obtain ⟨s, hs⟩ : ∃ s, (usedL b)[b.params.toNat + i]? = some s := ⟨_, List.getElem?_eq_getElem hut⟩
    have hst := stayL_ins hxa
    rw [hs] at hst
    simp only [Option.getD_some] at hst
    have hnext := trimK_next hlt hst
    have hln := trimK_length b i
    rw [hx] at hnext
    refine ⟨hlt, ?_⟩
    rw [hxa]
    simp only [Option.getD_some]
    refine call_plain (ds := [.agg (instC x)]) _ (by simp) (by simp) (fun _ => by simp; rfl) (fun _ => does_pure x) ?_
    cases hq : (doesB x.op || s) with
    | false =>
      rw [hq] at hst hnext
      obtain ⟨hd, rfl⟩ : doesB x.op = false ∧ s = false := by simpa using hq
      simp at hnext
      simp [hd, hp, hpt, hs]
      refine ⟨⟨by omega, by omega⟩, i + 1, by omega, by omega, srcs [(0, .id 0), (5, .id 5), (1, .id 1)], ?_⟩
      have hsk := asF_skip hst
      have hns := nst_snoc hst
      rw [if_neg (by simp), Nat.add_zero] at hns
      rw [Nat.add_assoc] at hsk hns
      simp [SLeK, hnext, hsk, hns]
      exact DLe_int (wrap_succ (by omega))
    | true =>
      rw [hq] at hst hnext
      simp only [if_pos] at hnext
      have hkk : ((b.params.toNat + i : Nat) : Int) = b.params + i := by omega
      have hno14 : ¬ x.op = 14 → x.args = [] := fun h14 => by
        have h := hx ▸ hio i hlt
        unfold instOk at h
        simp only [Bool.and_eq_true, Bool.or_eq_true, beq_iff_eq] at h
        rcases h.1.1.2 with h1 | h1
        · exact absurd h1 h14
        · exact List.length_eq_zero_iff.1 h1
      have hc : IntKind.i64.wrap (b.params + ((trimK b i).length : Int)) = gT b (b.params + (i : Int)) := by
        rw [wrap_in (by omega)]
        unfold gT
        rw [hpt, nst_ins]
        have : (trimK b i).length = nst ((stayL b).drop b.params.toNat) i := by
          unfold trimK
          rw [List.length_map, sel_length (by rw [List.length_take, List.length_drop, stayL_length]; omega), List.length_take, Nat.min_eq_left (by omega)]
        omega
      have hasn : (asF b (b.params.toNat + i) (.int .i64 (b.params + (i : Int)))) = none := by rw [← hkk]; exact asF_at
      simp [hp, hpt, hs]
      refine ⟨fun h => ⟨h, by omega, by omega⟩, fun h1 h2 => (by rw [h1, h2] at hq; cases hq), fun _ => ?_⟩
      obtain ⟨M, hM⟩ : ∃ M, mset (asF b (b.params.toNat + i)) (.int .i64 (b.params + (i : Int))) (.int .i64 (gT b (b.params + (i : Int)))) = M := ⟨_, rfl⟩
      have hMu : ∀ v ∈ uses x, M (.int .i64 v) = some (.int .i64 (gT b v)) := fun v hv => by
        have h1 := asF_next hst (key := .int .i64 v) (by simp [kdOk])
        rw [hkk, hM] at h1
        have h2 := hfit.ins i x hxa v hv
        rw [h1, asF_yes h2.1 (by omega) (stayL_uses hfit hxa hst hv)]
      have hMe : ∀ key, kdOk (.int .i64) key = true → M key = asF b (b.params.toNat + (i + 1)) key := fun key hkey => by
        have h1 := asF_next hst hkey
        rw [hkk, hM] at h1
        exact h1
      have hMa : ∀ v ∈ x.args, (M (.int .i64 v)).getD (.int .i64 0) = .int .i64 (gT b v) := fun v hv => by
        by_cases h14 : x.op = 14
        · rw [hMu v (by unfold uses; rw [if_neg (by omega), if_neg (by omega), if_pos h14]; exact hv)]
          rfl
        · rw [hno14 h14] at hv
          cases hv
      have hMb : ∀ v, ∃ w, (M (.int .i64 v)).getD (.int .i64 0) = .int .i64 w := fun v => by
        rw [hMe _ (by simp [kdOk])]
        unfold asF
        simp only
        split
        · exact ⟨_, rfl⟩
        · exact ⟨_, rfl⟩
      have hns : nst (stayL b) (b.params.toNat + (i + 1)) = nst (stayL b) (b.params.toNat + i) + 1 := by
        have h := nst_snoc hst
        rw [if_pos rfl] at h
        exact h
      simp only [hc, hM, hasn]
      refine call_plain (ds := [.agg (instC x)]) _ (by simp) (by simp) (fun _ => by simp; rfl) (fun _ => uses_pure x (by have := hi x hxm; omega)) ?_
      by_cases htwo : 2 ≤ x.op ∧ x.op ≤ 11
      · have hux : uses x = [x.a, x.b] := by unfold uses; rw [if_pos htwo]
        have m1 := hMu x.a (by rw [hux]; simp)
        have m2 := hMu x.b (by rw [hux]; simp)
        have n13 : ¬ x.op = 13 := by omega
        have n14 : ¬ x.op = 14 := by omega
        have n16 : ¬ x.op = 16 := by omega
        simp [hux, m1, m2]
        refine calle_k (anew_eff (nst (stayL b) (b.params.toNat + i) + 1) M x.args (gT b) (by have := hi x hxm; omega) hMa) (fun q => if q = 1000000 then 5 else 90) rfl [.d (intsD x.args), .mp 5] (by simp) (by simp) (by simp) (by simp [gOf, LA]) (by simp [gOf, LA]) (by simp [gOf, LA]) (by simp [LA, idsOk]) ?_
        have htw : isTwo x.op = true := (isTwo_iff _).2 htwo
        have hon : isOne x.op = true := (isOne_iff _).2 (.inl htwo)
        simp [LA, n13, n14, n16]
        refine ⟨by omega, i + 1, by omega, by omega, srcs [(0, .id 112), (5, .id 5), (1, .id 1)], ?_⟩
        simp [SLeK, hnext, hns]
        refine ⟨DLe_int (wrap_succ (by omega)), fun j hj => appRow_snocG instC default ?_ hj, fun key hkey => hMe key hkey⟩
        simp [instC, mapInst, htw, hon]
      have htw : isTwo x.op = false := by rw [← Bool.not_eq_true, isTwo_iff]; exact htwo
      have hb0 : x.b = 0 := by
        have h := hx ▸ hio i hlt
        unfold instOk at h
        simp only [Bool.and_eq_true, Bool.or_eq_true, beq_iff_eq] at h
        rcases h.1.1.1.1.2 with h1 | h1
        · rw [htw] at h1; cases h1
        · exact h1
      obtain ⟨wa, hwa⟩ := hMb x.a
      obtain ⟨wb, hwb⟩ := hMb x.b
      by_cases hone : x.op = 13 ∨ x.op = 16
      · have hux : uses x = [x.a] := by unfold uses; rw [if_neg htwo, if_pos hone]
        have hon : isOne x.op = true := (isOne_iff _).2 (.inr hone)
        have m1 := hMu x.a (by rw [hux]; simp)
        have n14 : ¬ x.op = 14 := by omega
        simp [hux, m1, hwb]
        refine calle_k (anew_eff (nst (stayL b) (b.params.toNat + i) + 1) M x.args (gT b) (by have := hi x hxm; omega) hMa) (fun q => if q = 1000000 then 5 else 90) rfl [.d (intsD x.args), .mp 5] (by simp) (by simp) (by simp) (by simp [gOf, LA]) (by simp [gOf, LA]) (by simp [gOf, LA]) (by simp [LA, idsOk]) ?_
        rcases hone with hone | hone
        · simp [LA, hone]
          refine ⟨by omega, i + 1, by omega, by omega, srcs [(0, .id 114), (5, .id 5), (1, .id 1)], ?_⟩
          simp [SLeK, hnext, hns]
          refine ⟨DLe_int (wrap_succ (by omega)), fun j hj => appRow_snocG instC default ?_ hj, fun key hkey => hMe key hkey⟩
          simp [instC, mapInst, htw, hon, hone, hb0]
          exact ⟨fun h => absurd h (by decide), fun h => absurd h (by decide)⟩
        · simp [LA, hone]
          refine ⟨by omega, i + 1, by omega, by omega, srcs [(0, .id 114), (5, .id 5), (1, .id 1)], ?_⟩
          simp [SLeK, hnext, hns]
          refine ⟨DLe_int (wrap_succ (by omega)), fun j hj => appRow_snocG instC default ?_ hj, fun key hkey => hMe key hkey⟩
          simp [instC, mapInst, htw, hon, hone, hb0]
          exact ⟨fun h => absurd h (by decide), fun h => absurd h (by decide)⟩
      have hon : isOne x.op = false := by rw [← Bool.not_eq_true, isOne_iff]; rintro (h | h); exact htwo h; exact hone h
      have ha0 : x.a = 0 := by
        have h := hx ▸ hio i hlt
        unfold instOk at h
        simp only [Bool.and_eq_true, Bool.or_eq_true, beq_iff_eq] at h
        rcases h.1.1.1.1.1.2 with h1 | h1
        · rw [hon] at h1; cases h1
        · exact h1
      have n13 : ¬ x.op = 13 := fun h => hone (.inl h)
      have n16 : ¬ x.op = 16 := fun h => hone (.inr h)
      by_cases h14 : x.op = 14
      · have hux : uses x = x.args := by unfold uses; rw [if_neg htwo, if_neg hone, if_pos h14]
        by_cases hl0 : x.args = []
        · simp [hux, hl0, h14]
          refine ⟨by omega, i + 1, by omega, by omega, srcs [(0, .id 98), (5, .id 5), (1, .id 1)], ?_⟩
          simp [SLeK, hnext, hns]
          refine ⟨DLe_int (wrap_succ (by omega)), fun j hj => appRow_snocG instC default ?_ hj, fun key hkey => hMe key hkey⟩
          simp [instC, mapInst, htw, hon, h14, hl0, ha0, hb0]
          exact ⟨fun h => absurd h (by decide), fun h => absurd h (by decide)⟩
        · have hlp : 0 < x.args.length := List.length_pos_iff.2 hl0
          simp [hux, hlp, hwa, hwb]
          refine calle_k (anew_eff (nst (stayL b) (b.params.toNat + i) + 1) M x.args (gT b) (by have := hi x hxm; omega) hMa) (fun q => if q = 1000000 then 5 else 90) rfl [.d (intsD x.args), .mp 5] (by simp) (by simp) (by simp) (by simp [gOf, LA]) (by simp [gOf, LA]) (by simp [gOf, LA]) (by simp [LA, idsOk]) ?_
          simp [LA, h14]
          refine ⟨by omega, i + 1, by omega, by omega, srcs [(0, .id 116), (5, .id 5), (1, .id 1)], ?_⟩
          simp [SLeK, hnext, hns]
          refine ⟨DLe_int (wrap_succ (by omega)), fun j hj => appRow_snocG instC default ?_ hj, fun key hkey => hMe key hkey⟩
          simp [instC, mapInst, htw, hon, h14, ha0, hb0]
          exact ⟨fun h => absurd h (by decide), fun h => absurd h (by decide)⟩
      · have hux : uses x = [] := by unfold uses; rw [if_neg htwo, if_neg hone, if_neg h14]
        simp [hux, n13, h14, n16]
        refine ⟨by omega, i + 1, by omega, by omega, srcs [(0, .id 94), (5, .id 5), (1, .id 1)], ?_⟩
        simp [SLeK, hnext, hns]
        refine ⟨DLe_int (wrap_succ (by omega)), fun j hj => appRow_snocG instC default ?_ hj, fun key hkey => hMe key hkey⟩
        simp [instC, mapInst, htw, hon, hno14 h14]
  obtain rfl : i = b.ins.length := by omega
  have hval : ∀ v ∈ endsL b, (asF b (b.params.toNat + b.ins.length) (.int .i64 v)).getD (.int .i64 0) = .int .i64 (gT b v) := fun v hv => by
    have h := hfit.ends v hv
    rw [asF_yes h.1 (by omega) (stayL_ends hfit hv)]
    rfl
  refine callk_k (anew_eff (nst (stayL b) (b.params.toNat + b.ins.length)) (asF b (b.params.toNat + b.ins.length)) b.args (gT b) (by omega) (fun v hv => hval v (by simp [endsL, hv]))) (fun q => if q = 1000000 then 5 else 48) rfl [.d (intsD b.args), .mp 5] (by simp) (by simp) (by simp) (by simp [gOf, LA]) (by simp [gOf, LA]) (by simp [gOf, LA]) (by simp [LA, idsOk]) (by simp [LA]) ?_
  simp [LA]
  refine callk_k (anew_eff (nst (stayL b) (b.params.toNat + b.ins.length)) (asF b (b.params.toNat + b.ins.length)) b.elses (gT b) (by omega) (fun v hv => hval v (by simp [endsL, hv]))) (fun q => if q = 1000000 then 5 else 52) rfl [.d (intsD b.elses), .mp 5] (by simp) (by simp) (by simp) (by simp [gOf, LA]) (by simp [gOf, LA]) (by simp [gOf, LA]) (by simp [LA, idsOk]) (by simp [LA]) ?_
  simp [LA]
  rw [trimK_all (Nat.le_refl _)]
  by_cases hk1 : b.kind = 1
  · simp [hk1]
    unfold trimB
    rw [if_pos hk1, hk1]
    exact DLe.refl _
  · have hta : b.ta ∈ endsL b := by unfold endsL; rw [if_neg hk1]; simp
    simp [hk1, hval _ hta]
    unfold trimB
    rw [if_neg hk1]
    exact DLe.refl _
end Go.Proofs.YtgadlpdbkohlbaaGreat
