/- Plain laws of layer 14: one block put in the place of one call: the module does the same. -/
import Derived.Test.YtndpejmebhcaaaaP2
namespace Go.Proofs.Ytndpejmebhcaaaa
open Go.RowKit

theorem valAt_lo {l l' : List Int} {v : Int} (h0 : 0 ≤ v) (h : v < l.length) : valAt (l ++ l') v = valAt l v := by
  unfold valAt
  rw [List.getElem?_append_left (by omega)]
theorem valAt_hi {l l' : List Int} {v : Int} (k : Nat) (h : v = l.length + k) : valAt (l ++ l') v = valAt l' k := by
  unfold valAt
  rw [List.getElem?_append_right (by omega)]
  congr 2
  omega
theorem valAt_last {l : List Int} {x v : Int} (h : v = l.length) : valAt (l ++ [x]) v = x := by
  rw [valAt_hi 0 (by omega)]; rfl
theorem valAt_pick {vals args : List Int} {u : Nat} (h : u < args.length) : valAt (pickI vals args) u = valAt vals (args[u]) := by
  unfold pickI
  conv => lhs; unfold valAt
  simp [h]
  rfl
theorem pickI_map {vals vals2 args : List Int} {g : Int → Int} (h : ∀ v ∈ args, valAt vals2 (g v) = valAt vals v) : pickI vals2 (args.map g) = pickI vals args := by
  unfold pickI
  rw [List.map_map]
  exact List.map_congr_left h
theorem mapInst_op (g : Int → Int) (x : Inst) : (mapInst g x).op = x.op := rfl

/-- One leaf in the place of one call. -/
structure OnePut (m : Module) (fi : Nat) (f0 : Func) (bi : Nat) (b0 : Block) (ak : Nat) (x0 : Inst) (g0 : Func) (l : Block) : Prop where
  hf : m.funcs[fi]? = some f0
  hb : f0.blocks[bi]? = some b0
  hx : b0.ins[ak]? = some x0
  h14 : x0.op = 14
  hg : findF m x0.name = some g0
  hl : g0.blocks = [l]
  hk : l.kind = 3
  hno : ∀ i ∈ l.ins, ¬ i.op = 14
  h32 : b0.ins.length - 1 + l.ins.length ≤ 32

def putF (f0 : Func) (bi : Nat) (b0 : Block) (ak : Nat) (l : Block) : Func := { f0 with blocks := f0.blocks.set bi (putB b0 l ak) }
def putM (m : Module) (fi : Nat) (f0 : Func) (bi : Nat) (b0 : Block) (ak : Nat) (l : Block) : Module := { m with funcs := m.funcs.set fi (putF f0 bi b0 ak l) }

section
variable {m : Module} {fi : Nat} {f0 : Func} {bi : Nat} {b0 : Block} {ak : Nat} {x0 : Inst} {g0 : Func} {l : Block}

/-- What follows in a right module. -/
structure PutFacts (m : Module) (f0 : Func) (b0 : Block) (ak : Nat) (x0 : Inst) (g0 : Func) (l : Block) (P Q : Nat) : Prop where
  f0m : f0 ∈ m.funcs
  b0m : b0 ∈ f0.blocks
  x0m : x0 ∈ allIns f0
  g0m : g0 ∈ m.funcs
  g0n : g0.name = x0.name
  lm : l ∈ g0.blocks
  hP : b0.params = (P : Int)
  hQ : l.params = (Q : Int)
  len : x0.args.length = Q
  bOk : blockOk f0 b0 = true
  lOk : blockOk g0 l = true
  xOk : instOk x0 (P + ak) = true
  ta : 0 ≤ l.ta ∧ l.ta < Q + l.ins.length
  lt : ak < b0.ins.length

theorem OnePut.facts (h : OnePut m fi f0 bi b0 ak x0 g0 l) (hok : ModOk m) : ∃ P Q, PutFacts m f0 b0 ak x0 g0 l P Q := by
  have hfm := List.mem_of_getElem? h.hf
  have hbm := List.mem_of_getElem? h.hb
  have hxm : x0 ∈ allIns f0 := List.mem_flatMap.2 ⟨b0, hbm, List.mem_of_getElem? h.hx⟩
  have hgm := List.mem_of_find?_eq_some h.hg
  have hgn : g0.name = x0.name := by simpa using List.find?_some h.hg
  have hlm : l ∈ g0.blocks := by rw [h.hl]; simp
  have hbo := List.all_eq_true.1 (funcOk_all (hok.funcs f0 hfm)) b0 hbm
  have hlo := List.all_eq_true.1 (funcOk_all (hok.funcs g0 hgm)) l hlm
  obtain ⟨p0, p6, _, hins, _⟩ := blockOk_iff.1 hbo
  obtain ⟨l0, l6, _, _, le⟩ := blockOk_iff.1 hlo
  obtain ⟨P, hP⟩ := Int.eq_ofNat_of_zero_le p0
  obtain ⟨Q, hQ⟩ := Int.eq_ofNat_of_zero_le l0
  have hlt : ak < b0.ins.length := (List.getElem?_eq_some_iff.1 h.hx).1
  obtain ⟨g', hg', hgn', hgp'⟩ := hok.call (mem_insM hfm hxm) h.h14
  have e : g' = g0 := name_uniq hok.fnodup hg' hgm (hgn'.trans hgn.symm)
  subst e
  have hq : l.params = g'.params := by
    have := funcOk_first (hok.funcs g' hgm) (by rw [h.hl]; simp)
    simpa [h.hl] using this
  refine ⟨P, Q, hfm, hbm, hxm, hgm, hgn, hlm, hP, hQ, by omega, hbo, hlo, ?_, ?_, hlt⟩
  · have := hins ak hlt
    rw [(List.getElem?_eq_some_iff.1 h.hx).2, hP] at this
    exact this
  · have hk := h.hk
    rw [endB_iff] at le
    rcases le with ⟨e, _⟩ | ⟨e, _⟩ | ⟨_, e, _⟩
    · omega
    · omega
    · rw [hQ] at e; exact e

theorem putF_same (h : OnePut m fi f0 bi b0 ak x0 g0 l) : SameParams f0 (putF f0 bi b0 ak l) := by
  refine ⟨by simp [putF], fun k b hb => ?_⟩
  simp only [putF]
  rw [List.getElem?_set]
  by_cases hk : bi = k
  · subst hk
    rw [h.hb] at hb
    injection hb with hb
    subst hb
    rw [if_pos rfl, if_pos (List.getElem?_eq_some_iff.1 h.hb).1]
    exact ⟨_, rfl, rfl⟩
  · rw [if_neg hk]
    exact ⟨b, hb, rfl⟩

theorem putF_blocks (h : OnePut m fi f0 bi b0 ak x0 g0 l) {b : Block} (hb : b ∈ (putF f0 bi b0 ak l).blocks) : b ∈ f0.blocks ∨ b = putB b0 l ak := List.mem_or_eq_of_mem_set hb

theorem putF_ok (h : OnePut m fi f0 bi b0 ak x0 g0 l) (hok : ModOk m) : funcOk (putF f0 bi b0 ak l) = true := by
  obtain ⟨P, Q, hF⟩ := h.facts hok
  have hf := hok.funcs f0 hF.f0m
  have hs := putF_same h
  have hbl := (List.getElem?_eq_some_iff.1 h.hb).1
  have hall : (putF f0 bi b0 ak l).blocks.all (blockOk (putF f0 bi b0 ak l)) = true := List.all_eq_true.2 fun b hb => by
    rcases putF_blocks h hb with hb | rfl
    · exact blockOk_same hs (List.all_eq_true.1 (funcOk_all hf) b hb)
    · exact putB_ok hs hF.bOk hF.lOk h.hk hF.hP hF.hQ h.hx h.h14 hF.len h.h32
  exact funcOk_with hf hs hall rfl rfl rfl (by omega)

/-- Each instruction behind stands for one ahead. -/
theorem put_from (h : OnePut m fi f0 bi b0 ak x0 g0 l) (hok : ModOk m) {y : Inst} (hy : y ∈ allIns (putF f0 bi b0 ak l)) : ∃ f ∈ m.funcs, ∃ x ∈ allIns f, y.op = x.op ∧ y.name = x.name ∧ y.args.length = x.args.length := by
  obtain ⟨P, Q, hF⟩ := h.facts hok
  obtain ⟨b, hb, hyb⟩ := List.mem_flatMap.1 hy
  rcases putF_blocks h hb with hb | rfl
  · exact ⟨f0, hF.f0m, y, List.mem_flatMap.2 ⟨b, hb, hyb⟩, rfl, rfl, rfl⟩
  · have hin : ∀ x ∈ b0.ins, x ∈ allIns f0 := fun x hx => List.mem_flatMap.2 ⟨b0, hF.b0m, hx⟩
    simp only [putB, List.mem_append, List.mem_map] at hyb
    rcases hyb with (hyb | ⟨x, hx, rfl⟩) | ⟨x, hx, rfl⟩
    · exact ⟨f0, hF.f0m, y, hin y (List.mem_of_mem_take hyb), rfl, rfl, rfl⟩
    · exact ⟨g0, hF.g0m, x, List.mem_flatMap.2 ⟨l, hF.lm, hx⟩, rfl, rfl, by simp [mapInst]⟩
    · exact ⟨f0, hF.f0m, x, hin x (List.mem_of_mem_drop hx), rfl, rfl, by simp [mapInst]⟩

theorem put_funcs (h : OnePut m fi f0 bi b0 ak x0 g0 l) {f : Func} (hf : f ∈ (putM m fi f0 bi b0 ak l).funcs) : f ∈ m.funcs ∨ f = putF f0 bi b0 ak l := List.mem_or_eq_of_mem_set hf

theorem find?_set {α β : Type} [DecidableEq β] (key : α → β) (s : β) : ∀ (xs : List α) (i : Nat) (x y : α), xs[i]? = some x → key y = key x → (xs.map key).Nodup →
    (xs.set i y).find? (fun a => decide (key a = s)) = if key x = s then some y else xs.find? (fun a => decide (key a = s))
  | [], _, _, _, h, _, _ => by simp at h
  | a :: xs, 0, x, y, h, hk, _ => by
    simp only [List.getElem?_cons_zero] at h
    injection h with h
    subst h
    by_cases e : key a = s
    · simp [e, hk]
    · simp [e, hk]
  | a :: xs, i + 1, x, y, h, hk, hn => by
    simp only [List.getElem?_cons_succ] at h
    simp only [List.map_cons, List.nodup_cons] at hn
    have ih := find?_set key s xs i x y h hk hn.2
    have hne : key a ≠ key x := fun e => hn.1 (by rw [e]; exact List.mem_map.2 ⟨x, List.mem_of_getElem? h, rfl⟩)
    by_cases e : key a = s
    · have : ¬ key x = s := fun e' => hne (e.trans e'.symm)
      simp [e, this]
    · simp only [List.set_cons_succ, List.find?_cons, decide_eq_false e, ih]

theorem findF_put (h : OnePut m fi f0 bi b0 ak x0 g0 l) (hok : ModOk m) (s : ByteArray) : findF (putM m fi f0 bi b0 ak l) s = if f0.name = s then some (putF f0 bi b0 ak l) else findF m s := by
  unfold findF putM
  exact find?_set (fun f : Func => f.name) s m.funcs fi f0 _ h.hf rfl hok.fnodup

theorem put_names (h : OnePut m fi f0 bi b0 ak x0 g0 l) : namesM (putM m fi f0 bi b0 ak l) = namesM m := by
  have : (m.funcs.set fi (putF f0 bi b0 ak l)).map (·.name) = m.funcs.map (·.name) := by
    apply List.ext_getElem?
    intro k
    simp only [List.getElem?_map, List.getElem?_set]
    by_cases hk : fi = k
    · subst hk
      rw [if_pos rfl, if_pos (List.getElem?_eq_some_iff.1 h.hf).1, h.hf]
      rfl
    · rw [if_neg hk]
  unfold namesM fnames gnames putM
  rw [this]

theorem put_mem (h : OnePut m fi f0 bi b0 ak x0 g0 l) (hok : ModOk m) {g : Func} (hg : g ∈ m.funcs) : ∃ g' ∈ (putM m fi f0 bi b0 ak l).funcs, g'.name = g.name ∧ g'.params = g.params := by
  have hf0m := List.mem_of_getElem? h.hf
  by_cases e : g.name = f0.name
  · obtain rfl := name_uniq hok.fnodup hg hf0m e
    exact ⟨putF g bi b0 ak l, List.mem_of_getElem? (i := fi) (by simp only [putM]; rw [List.getElem?_set, if_pos rfl, if_pos (List.getElem?_eq_some_iff.1 h.hf).1]), rfl, rfl⟩
  · obtain ⟨k, hk, rfl⟩ := List.getElem_of_mem hg
    refine ⟨m.funcs[k], List.mem_of_getElem? (i := k) ?_, rfl, rfl⟩
    simp only [putM]
    rw [List.getElem?_set, if_neg, List.getElem?_eq_getElem hk]
    rintro rfl
    have := h.hf
    rw [List.getElem?_eq_getElem hk] at this
    injection this with this
    exact e (by rw [this])

/-- The module stays right. -/
theorem put_ok (h : OnePut m fi f0 bi b0 ak x0 g0 l) (hok : ModOk m) : ModOk (putM m fi f0 bi b0 ak l) := by
  have hfrom : ∀ f ∈ (putM m fi f0 bi b0 ak l).funcs, ∀ y ∈ allIns f, ∃ f' ∈ m.funcs, ∃ x ∈ allIns f', y.op = x.op ∧ y.name = x.name ∧ y.args.length = x.args.length := fun f hf y hy => by
    rcases put_funcs h hf with hf | rfl
    · exact ⟨f, hf, y, hy, rfl, rfl, rfl⟩
    · exact put_from h hok hy
  refine .mk' (by simpa [putM] using hok.nf) hok.ng (fun f hf => ?_) hok.globs (by rw [put_names h]; exact hok.names) (fun f hf y hy h14 => ?_) (fun f hf y hy h12 => ?_)
  · rcases put_funcs h hf with hf | rfl
    · exact hok.funcs f hf
    · exact putF_ok h hok
  · obtain ⟨f', hf', x, hx, e1, e2, e3⟩ := hfrom f hf y hy
    obtain ⟨g, hg, hgn, hgp⟩ := hok.call (mem_insM hf' hx) (by omega)
    obtain ⟨g', hg', hn, hp⟩ := put_mem h hok hg
    exact ⟨g', hg', by rw [hn, hgn, e2], by rw [hp, hgp, e3]⟩
  · obtain ⟨f', hf', x, hx, e1, e2, e3⟩ := hfrom f hf y hy
    obtain ⟨g, hg, hgn⟩ := hasG_iff.1 ((missI_false (hok.miss x (mem_insM hf' hx))).2 (by rw [← e1]; exact h12))
    exact ⟨g, hg, by rw [hgn, e2]⟩

theorem thereB_put (h : OnePut m fi f0 bi b0 ak x0 g0 l) (hok : ModOk m) (s : ByteArray) : thereB (putM m fi f0 bi b0 ak l) s = thereB m s := by
  have hf0m := List.mem_of_getElem? h.hf
  unfold thereB
  rw [findF_put h hok]
  by_cases e : f0.name = s
  · rw [if_pos e, ← e, findF_uniq hok hf0m]
    simp [putF]
  · rw [if_neg e]
    rfl

theorem put_whole (h : OnePut m fi f0 bi b0 ak x0 g0 l) (hw : wholeE m = 0) : wholeE (putM m fi f0 bi b0 ak l) = 0 := by
  obtain ⟨hok, hm, ht⟩ := wholeE_zero.1 hw
  have hf0m := List.mem_of_getElem? h.hf
  refine wholeE_zero.2 ⟨put_ok h hok, ?_, fun s hs => ?_⟩
  · unfold mainB at hm ⊢
    rw [findF_put h hok]
    by_cases e : f0.name = mainS
    · rw [if_pos e]
      rw [← e, findF_uniq hok hf0m] at hm
      have e1 : (putF f0 bi b0 ak l).blocks.length = f0.blocks.length := by simp [putF]
      show (decide ((putF f0 bi b0 ak l).blocks.length ≠ 0) && decide ((putF f0 bi b0 ak l).params = 0)) = true
      rw [e1]
      exact hm
    · rw [if_neg e]
      exact hm
  · rw [thereB_put h hok]
    refine ht s ?_
    obtain ⟨f, hf, hs⟩ := List.mem_flatMap.1 hs
    obtain ⟨y, hy, rfl⟩ := List.mem_map.1 hs
    obtain ⟨hy1, hy2⟩ := List.mem_filter.1 hy
    have : ∃ f' ∈ m.funcs, ∃ x ∈ allIns f', y.op = x.op ∧ y.name = x.name ∧ y.args.length = x.args.length := by
      rcases put_funcs h hf with hf | rfl
      · exact ⟨f, hf, y, hy1, rfl, rfl, rfl⟩
      · exact put_from h hok hy1
    obtain ⟨f', hf', x, hx, e1, e2, _⟩ := this
    exact List.mem_flatMap.2 ⟨f', hf', List.mem_map.2 ⟨x, List.mem_filter.2 ⟨hx, by rw [← e1]; exact hy2⟩, e2.symm⟩⟩

end

end Go.Proofs.Ytndpejmebhcaaaa
