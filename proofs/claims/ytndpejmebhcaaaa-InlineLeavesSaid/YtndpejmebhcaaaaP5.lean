/- Plain laws of layer 14: a module with small functions in the place of their calls. -/
import Derived.Test.YtndpejmebhcaaaaP4
namespace Go.Proofs.Ytndpejmebhcaaaa
open Go.RowKit

/-- Is a function small, and calls nothing? -/
def leafB (f : Func) (budget : Int) : Bool := match f.blocks with
  | [b] => decide (b.kind = 3) && decide ((b.ins.length : Int) ≤ budget) && !b.ins.any fun i => decide (i.op = 14)
  | _ => false
/-- The block of a small function of a name. -/
def leafL (m : Module) (budget : Int) (s : ByteArray) : Option Block := match findF m s with
  | some f => if leafB f budget = true then f.blocks[0]? else none
  | none => none
/-- A block with small functions in the place of their calls, from place at on. -/
def blockI (m : Module) (budget : Int) : Nat → Block → Nat → Block
  | 0, b, _ => b
  | n + 1, b, at' => match b.ins[at']? with
    | none => b
    | some x => if x.op = 14 then (match leafL m budget x.name with
        | some l => if putYes b l at' = true then blockI m budget n (putB b l at') (at' + l.ins.length) else blockI m budget n b (at' + 1)
        | none => blockI m budget n b (at' + 1)) else blockI m budget n b (at' + 1)
def inlB (m : Module) (budget : Int) (b : Block) : Block := blockI m budget b.ins.length b 0
def inlF (m : Module) (budget : Int) (f : Func) : Func := { f with blocks := f.blocks.map (inlB m budget) }
def inlM (m : Module) (budget : Int) : Module := if checkE m = 0 then { m with funcs := m.funcs.map (inlF m budget) } else m

theorem leafB_iff {f : Func} {budget : Int} : leafB f budget = true ↔ ∃ b, f.blocks = [b] ∧ b.kind = 3 ∧ (b.ins.length : Int) ≤ budget ∧ ∀ i ∈ b.ins, ¬ i.op = 14 := by
  unfold leafB
  split
  · rename_i b hb
    simp [hb, and_assoc]
  · rename_i hb
    constructor
    · intro h; cases h
    · rintro ⟨b, h, _⟩; exact absurd h (hb b)
theorem leafL_some {m : Module} {budget : Int} {s : ByteArray} {l : Block} (h : leafL m budget s = some l) : ∃ f, findF m s = some f ∧ f.blocks = [l] ∧ l.kind = 3 ∧ ∀ i ∈ l.ins, ¬ i.op = 14 := by
  unfold leafL at h
  split at h
  · rename_i f hf
    split at h
    · rename_i hl
      obtain ⟨b, h1, h2, _, h4⟩ := leafB_iff.1 hl
      rw [h1] at h
      simp only [List.getElem?_cons_zero] at h
      injection h with h
      subst h
      exact ⟨f, hf, h1, h2, h4⟩
    · cases h
  · cases h

/-- One module behind some puts. -/
inductive Puts (m : Module) : Module → Prop
  | refl : Puts m m
  | step {M : Module} {fi : Nat} {f0 : Func} {bi : Nat} {b0 : Block} {ak : Nat} {x0 : Inst} {g0 : Func} {l : Block} (h : Puts m M) (hp : OnePut M fi f0 bi b0 ak x0 g0 l) : Puts m (putM M fi f0 bi b0 ak l)

theorem Puts.ok {m M : Module} (h : Puts m M) (hok : ModOk m) : ModOk M := by
  induction h with
  | refl => exact hok
  | step _ hp ih => exact put_ok hp ih
theorem Puts.whole {m M : Module} (h : Puts m M) (hw : wholeE m = 0) : wholeE M = 0 := by
  induction h with
  | refl => exact hw
  | step _ hp ih => exact put_whole hp ih
theorem Puts.runs {m M : Module} (h : Puts m M) (hw : wholeE m = 0) : RunRel m M := by
  induction h with
  | refl => exact .refl m
  | step h hp ih => exact ih.trans (put_runs (h.whole hw) hp)

/-- A function that calls nothing, of one block. -/
def Plain1 (f : Func) : Prop := ∃ b, f.blocks = [b] ∧ ∀ i ∈ b.ins, ¬ i.op = 14
/-- M's functions are m's, but for their blocks; what calls nothing is the same. -/
structure Based (m M : Module) : Prop where
  globs : M.globs = m.globs
  funcs : M.funcs.length = m.funcs.length
  f : ∀ (i : Nat) (f F : Func), m.funcs[i]? = some f → M.funcs[i]? = some F → F.name = f.name ∧ F.bind = f.bind ∧ F.params = f.params ∧ F.blocks.length = f.blocks.length ∧ (Plain1 f → F = f)

theorem findF_at {m : Module} (hok : ModOk m) {s : ByteArray} {f : Func} (h : findF m s = some f) : ∃ i : Nat, m.funcs[i]? = some f ∧ f.name = s := by
  obtain ⟨i, hi, rfl⟩ := List.getElem_of_mem (List.mem_of_find?_eq_some h)
  exact ⟨i, List.getElem?_eq_getElem hi, by simpa using List.find?_some h⟩

theorem Based.leaf {m M : Module} (hB : Based m M) (hok : ModOk m) (hokM : ModOk M) {s : ByteArray} {g : Func} {l : Block} (h : findF m s = some g) (hl : g.blocks = [l]) (hno : ∀ i ∈ l.ins, ¬ i.op = 14) : findF M s = some g := by
  obtain ⟨i, hi, hn⟩ := findF_at hok h
  have hlt := (List.getElem?_eq_some_iff.1 hi).1
  have hi' : M.funcs[i]? = some (M.funcs[i]'(by rw [hB.funcs]; exact hlt)) := List.getElem?_eq_getElem _
  obtain ⟨_, _, _, _, e⟩ := hB.f i g _ hi hi'
  have e := e ⟨l, hl, hno⟩
  rw [e] at hi'
  rw [← hn]
  exact findF_uniq hokM (List.mem_of_getElem? hi')

/-- Block bi of function fi is b. -/
def BlkAt (M : Module) (fi bi : Nat) (b : Block) : Prop := ∃ f : Func, M.funcs[fi]? = some f ∧ f.blocks[bi]? = some b
/-- M' is M, but for block bi of function fi, which is b. -/
structure BlkSet (M M' : Module) (fi bi : Nat) (b : Block) : Prop where
  at_ : BlkAt M' fi bi b
  other : ∀ i j c, BlkAt M i j c → ¬ (i = fi ∧ j = bi) → BlkAt M' i j c

theorem blkSet_put {M : Module} {fi : Nat} {f0 : Func} {bi : Nat} {b0 : Block} {ak : Nat} {x0 : Inst} {g0 : Func} {l : Block} (h : OnePut M fi f0 bi b0 ak x0 g0 l) : BlkSet M (putM M fi f0 bi b0 ak l) fi bi (putB b0 l ak) := by
  have hfl := (List.getElem?_eq_some_iff.1 h.hf).1
  have hbl := (List.getElem?_eq_some_iff.1 h.hb).1
  have hfi : (putM M fi f0 bi b0 ak l).funcs[fi]? = some (putF f0 bi b0 ak l) := by simp only [putM]; rw [List.getElem?_set, if_pos rfl, if_pos hfl]
  refine ⟨⟨_, hfi, by simp only [putF]; rw [List.getElem?_set, if_pos rfl, if_pos hbl]⟩, fun i j c hc hne => ?_⟩
  obtain ⟨f, hf, hc⟩ := hc
  by_cases hi : i = fi
  · subst hi
    rw [h.hf] at hf
    injection hf with hf
    subst hf
    refine ⟨_, hfi, ?_⟩
    simp only [putF]
    rw [List.getElem?_set, if_neg (fun e => hne ⟨rfl, e.symm⟩)]
    exact hc
  · refine ⟨f, ?_, hc⟩
    simp only [putM]
    rw [List.getElem?_set, if_neg (fun e => hi e.symm)]
    exact hf

theorem based_put {m M : Module} (hB : Based m M) {fi : Nat} {f0 : Func} {bi : Nat} {b0 : Block} {ak : Nat} {x0 : Inst} {g0 : Func} {l : Block} (h : OnePut M fi f0 bi b0 ak x0 g0 l) : Based m (putM M fi f0 bi b0 ak l) := by
  have hfl := (List.getElem?_eq_some_iff.1 h.hf).1
  refine ⟨hB.globs, by simp [putM, hB.funcs], fun i f F hf hF => ?_⟩
  simp only [putM] at hF
  rw [List.getElem?_set] at hF
  by_cases hi : fi = i
  · subst hi
    rw [if_pos rfl, if_pos hfl] at hF
    injection hF with hF
    obtain ⟨a1, a2, a3, a4, a5⟩ := hB.f fi f f0 hf h.hf
    subst hF
    refine ⟨a1, a2, a3, by simp [putF, a4], fun hp => ?_⟩
    exfalso
    have e := a5 hp
    obtain ⟨b, hb, hno⟩ := hp
    have h1 := h.hb
    rw [e, hb] at h1
    have h2 : b0 = b := by
      cases bi with
      | zero => simp at h1; exact h1.symm
      | succ k => simp at h1
    exact hno x0 (h2 ▸ List.mem_of_getElem? h.hx) h.h14
  · rw [if_neg hi] at hF
    exact hB.f i f F hf hF

theorem putYes_iff {b l : Block} {ak : Nat} : putYes b l ak = true ↔ ak < b.ins.length ∧ (b.ins[ak]?.getD default).op = 14 ∧ ((b.ins[ak]?.getD default).args.length : Int) = l.params ∧ l.kind = 3 ∧ (b.ins.length : Int) - 1 + l.ins.length ≤ 32 := by
  unfold putYes insAt
  simp only [Bool.and_eq_true, decide_eq_true_eq, Int.toNat_natCast]
  omega

theorem puts_block {m : Module} (hok : ModOk m) (budget : Int) (fi bi : Nat) : ∀ (n : Nat) (M : Module) (b : Block) (at' : Nat), Puts m M → Based m M → BlkAt M fi bi b →
    ∃ M', Puts m M' ∧ Based m M' ∧ BlkSet M M' fi bi (blockI m budget n b at') := by
  intro n
  induction n with
  | zero => intro M b at' hP hB hb; exact ⟨M, hP, hB, hb, fun _ _ _ h _ => h⟩
  | succ n ih =>
    intro M b at' hP hB hb
    unfold blockI
    cases hx : b.ins[at']? with
    | none => exact ⟨M, hP, hB, hb, fun _ _ _ h _ => h⟩
    | some x =>
      simp only
      by_cases h14 : x.op = 14
      · rw [if_pos h14]
        cases hl : leafL m budget x.name with
        | none => exact ih M b (at' + 1) hP hB hb
        | some l =>
          simp only
          by_cases hy : putYes b l at' = true
          · rw [if_pos hy]
            obtain ⟨y1, y2, y3, y4, y5⟩ := putYes_iff.1 hy
            obtain ⟨g, hg, hgl, hk, hno⟩ := leafL_some hl
            obtain ⟨f0, hf0, hb0⟩ := hb
            have hone : OnePut M fi f0 bi b at' x g l := ⟨hf0, hb0, hx, h14, hB.leaf hok (hP.ok hok) hg hgl hno, hgl, hk, hno, by omega⟩
            obtain ⟨M', h1, h2, h3⟩ := ih (putM M fi f0 bi b at' l) (putB b l at') (at' + l.ins.length) (hP.step hone) (based_put hB hone) (blkSet_put hone).at_
            exact ⟨M', h1, h2, h3.at_, fun i j c hc hne => h3.other i j c ((blkSet_put hone).other i j c hc hne) hne⟩
          · rw [if_neg hy]
            exact ih M b (at' + 1) hP hB hb
      · rw [if_neg h14]
        exact ih M b (at' + 1) hP hB hb

/-- Some blocks are done. -/
structure Done (m M : Module) (budget : Int) (L : List (Nat × Nat)) : Prop where
  puts : Puts m M
  based : Based m M
  blk : ∀ i j b, BlkAt m i j b → BlkAt M i j (if (i, j) ∈ L then inlB m budget b else b)

theorem done_all {m : Module} (hok : ModOk m) (budget : Int) : ∀ L : List (Nat × Nat), ∃ M, Done m M budget L
  | [] => ⟨m, .refl, ⟨rfl, rfl, fun i f F h1 h2 => by rw [h1] at h2; injection h2 with h2; subst h2; exact ⟨rfl, rfl, rfl, rfl, fun _ => rfl⟩⟩, fun i j b h => by simpa using h⟩
  | (fi, bi) :: L => by
    obtain ⟨M, hM⟩ := done_all hok budget L
    by_cases hin : (fi, bi) ∈ L
    · exact ⟨M, hM.puts, hM.based, fun i j b h => by
        have e : ((i, j) ∈ (fi, bi) :: L) ↔ (i, j) ∈ L := by
          rw [List.mem_cons]
          exact ⟨fun h => h.elim (fun e => e ▸ hin) id, .inr⟩
        have := hM.blk i j b h
        by_cases hc : (i, j) ∈ L
        · rw [if_pos hc] at this; rw [if_pos (e.2 hc)]; exact this
        · rw [if_neg hc] at this; rw [if_neg (fun h => hc (e.1 h))]; exact this⟩
    · by_cases hb : ∃ b, BlkAt m fi bi b
      · obtain ⟨b, hb⟩ := hb
        have hbM := hM.blk fi bi b hb
        rw [if_neg hin] at hbM
        obtain ⟨M', h1, h2, h3⟩ := puts_block hok budget fi bi b.ins.length M b 0 hM.puts hM.based hbM
        refine ⟨M', h1, h2, fun i j c hc => ?_⟩
        by_cases he : i = fi ∧ j = bi
        · obtain ⟨rfl, rfl⟩ := he
          have : c = b := by
            obtain ⟨f, hf, hb⟩ := hb
            obtain ⟨f', hf', hc⟩ := hc
            rw [hf] at hf'
            injection hf' with hf'
            subst hf'
            rw [hb] at hc
            injection hc with hc
            exact hc.symm
          subst this
          rw [if_pos (by simp)]
          exact h3.at_
        · have := h3.other i j _ (hM.blk i j c hc) he
          have e : ((i, j) ∈ (fi, bi) :: L) ↔ (i, j) ∈ L := by
            rw [List.mem_cons]
            exact ⟨fun h => h.elim (fun e => absurd (Prod.mk.injEq .. ▸ e) he) id, .inr⟩
          by_cases hc' : (i, j) ∈ L
          · rw [if_pos hc'] at this; rw [if_pos (e.2 hc')]; exact this
          · rw [if_neg hc'] at this; rw [if_neg (fun h => hc' (e.1 h))]; exact this
      · refine ⟨M, hM.puts, hM.based, fun i j c hc => ?_⟩
        have := hM.blk i j c hc
        by_cases he : i = fi ∧ j = bi
        · obtain ⟨rfl, rfl⟩ := he
          exact absurd ⟨c, hc⟩ hb
        · have e : ((i, j) ∈ (fi, bi) :: L) ↔ (i, j) ∈ L := by
            rw [List.mem_cons]
            exact ⟨fun h => h.elim (fun e => absurd (Prod.mk.injEq .. ▸ e) he) id, .inr⟩
          by_cases hc' : (i, j) ∈ L
          · rw [if_pos hc'] at this; rw [if_pos (e.2 hc')]; exact this
          · rw [if_neg hc'] at this; rw [if_neg (fun h => hc' (e.1 h))]; exact this

/-- A module with small functions in the place of their calls comes by puts, one behind the other. -/
theorem puts_inl {m : Module} (hok : ModOk m) (budget : Int) : Puts m { m with funcs := m.funcs.map (inlF m budget) } := by
  obtain ⟨M, hM⟩ := done_all hok budget ((List.range 16).flatMap fun i => (List.range 16).map fun j => (i, j))
  have hall : ∀ i j b, BlkAt m i j b → BlkAt M i j (inlB m budget b) := fun i j b h => by
    have := hM.blk i j b h
    rwa [if_pos] at this
    obtain ⟨f, hf, hb⟩ := h
    have h1 := (List.getElem?_eq_some_iff.1 hf).1
    have h2 := (List.getElem?_eq_some_iff.1 hb).1
    have h3 := hok.nf
    have h4 := funcOk_len (hok.funcs f (List.mem_of_getElem? hf))
    exact List.mem_flatMap.2 ⟨i, List.mem_range.2 (by omega), List.mem_map.2 ⟨j, List.mem_range.2 (by omega), rfl⟩⟩
  have e : M = { m with funcs := m.funcs.map (inlF m budget) } := by
    have hfs : M.funcs = m.funcs.map (inlF m budget) := by
      apply List.ext_getElem?
      intro i
      rw [List.getElem?_map]
      cases hf : m.funcs[i]? with
      | none =>
        have : M.funcs.length ≤ i := by rw [hM.based.funcs]; exact List.getElem?_eq_none_iff.1 hf
        rw [List.getElem?_eq_none_iff.2 this]
        rfl
      | some f =>
        have hlt : i < M.funcs.length := by rw [hM.based.funcs]; exact (List.getElem?_eq_some_iff.1 hf).1
        have hF := List.getElem?_eq_getElem hlt
        generalize M.funcs[i] = F at hF
        obtain ⟨a1, a2, a3, a4, _⟩ := hM.based.f i f F hf hF
        rw [hF]
        simp only [Option.map_some, Option.some.injEq]
        have hbl : F.blocks = f.blocks.map (inlB m budget) := by
          apply List.ext_getElem?
          intro j
          rw [List.getElem?_map]
          cases hb : f.blocks[j]? with
          | none =>
            have : F.blocks.length ≤ j := by rw [a4]; exact List.getElem?_eq_none_iff.1 hb
            rw [List.getElem?_eq_none_iff.2 this]
            rfl
          | some b =>
            obtain ⟨F', hF', hb'⟩ := hall i j b ⟨f, hf, hb⟩
            rw [hF] at hF'
            injection hF' with hF'
            subst hF'
            exact hb'
        cases F
        cases f
        simp only [inlF] at a1 a2 a3 hbl ⊢
        simp [a1, a2, a3, hbl]
    have hgs := hM.based.globs
    cases M
    simp only at hfs hgs ⊢
    rw [hfs, hgs]
  rw [← e]
  exact hM.puts

theorem inl_ok {m : Module} (hok : ModOk m) (budget : Int) : ModOk (inlM m budget) := by
  unfold inlM
  rw [if_pos (checkE_zero.2 hok)]
  exact (puts_inl hok budget).ok hok
theorem inl_whole {m : Module} (hw : wholeE m = 0) (budget : Int) : wholeE (inlM m budget) = 0 := by
  unfold inlM
  rw [if_pos (checkE_zero.2 (wholeE_zero.1 hw).1)]
  exact (puts_inl (wholeE_zero.1 hw).1 budget).whole hw
theorem inl_runs {m : Module} (hw : wholeE m = 0) (budget : Int) : RunRel m (inlM m budget) := by
  unfold inlM
  rw [if_pos (checkE_zero.2 (wholeE_zero.1 hw).1)]
  exact (puts_inl (wholeE_zero.1 hw).1 budget).runs hw

/-- With a budget below 0 nothing is small. -/
theorem leafL_none {m : Module} {budget : Int} (h : budget < 0) (s : ByteArray) : leafL m budget s = none := by
  unfold leafL
  split
  · rename_i f _
    rw [if_neg]
    intro hl
    obtain ⟨b, _, _, h3, _⟩ := leafB_iff.1 hl
    omega
  · rfl
theorem blockI_none {m : Module} {budget : Int} (h : budget < 0) : ∀ (n : Nat) (b : Block) (at' : Nat), blockI m budget n b at' = b
  | 0, _, _ => rfl
  | n + 1, b, at' => by
    unfold blockI
    cases b.ins[at']? with
    | none => rfl
    | some x =>
      simp only [leafL_none h]
      split <;> exact blockI_none h n b _
theorem inl_none {m : Module} {budget : Int} (h : budget < 0) : inlM m budget = m := by
  unfold inlM
  split
  · have e : m.funcs.map (inlF m budget) = m.funcs := by
      conv => rhs; rw [← List.map_id m.funcs]
      refine List.map_congr_left fun f _ => ?_
      unfold inlF
      have : f.blocks.map (inlB m budget) = f.blocks := by
        conv => rhs; rw [← List.map_id f.blocks]
        exact List.map_congr_left fun b _ => blockI_none h _ b _
      rw [this]
      rfl
    rw [e]
  · rfl
/-- What calls nothing stays. -/
theorem blockI_plain {m : Module} {budget : Int} : ∀ (n : Nat) (b : Block) (at' : Nat), (∀ i ∈ b.ins, ¬ i.op = 14) → blockI m budget n b at' = b
  | 0, _, _, _ => rfl
  | n + 1, b, at', h => by
    unfold blockI
    cases hx : b.ins[at']? with
    | none => rfl
    | some x =>
      simp only
      rw [if_neg (h x (List.mem_of_getElem? hx))]
      exact blockI_plain n b _ h
theorem inlF_leaf {m : Module} {budget bu : Int} {f : Func} (h : leafB f bu = true) : inlF m budget f = f := by
  obtain ⟨b, h1, _, _, h4⟩ := leafB_iff.1 h
  unfold inlF
  have : f.blocks.map (inlB m budget) = f.blocks := by
    rw [h1]
    simp only [List.map_cons, List.map_nil]
    rw [show inlB m budget b = b from blockI_plain _ b 0 h4]
  rw [this]

end Go.Proofs.Ytndpejmebhcaaaa
