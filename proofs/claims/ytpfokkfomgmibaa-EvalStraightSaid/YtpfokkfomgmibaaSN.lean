/- Contracts by the evaluator: layer 7's statements EvalAhead, EvalStraight. -/
import Derived.Test.YtpfokkfomgmibaaSH
import Derived.Test.YtpfokkfomgmibaaSK
namespace Go.Proofs.Ytpfokkfomgmibaa
open Go.RowKit

theorem ahead_size (a b : ByteArray) {R : Nat} (hR : R < a.size) : (a.extract 0 (R + 1) ++ b).size = R + 1 + b.size := by
  rw [ByteArray.size_append, ByteArray.size_extract]
  omega
theorem ahead_get (a b : ByteArray) {R i : Nat} (hR : R < a.size) (hi : i ≤ R) : (a.extract 0 (R + 1) ++ b)[i]? = a[i]? := by
  have h1 : (a.extract 0 (R + 1)).size = R + 1 := by rw [ByteArray.size_extract]; omega
  rw [getElem?_pos (a.extract 0 (R + 1) ++ b) i (by rw [ahead_size a b hR]; omega), getElem?_pos a i (by omega), ByteArray.getElem_append_left (by omega : i < (a.extract 0 (R + 1)).size), ByteArray.getElem_extract]
  simp only [Nat.zero_add]

theorem gives_deep {m : Module} {inp : ByteArray} {x : Inst} {vals : List Int} {w : Wd} : (givesW m inp x vals w).1.deep = w.deep := by
  unfold givesW
  repeat' split
  all_goals rfl
theorem goF_straight {m : Module} {inp : ByteArray} {f : Func} {b : Block} (hb : f.blocks[0]? = some b) (hi : b.ins.length ≤ 32) (hk : b.kind = 3) (h14 : ∀ x ∈ b.ins, ¬ x.op = 14) : ∀ (d i : Nat) (w : Wd) (vals : List Int), i + d = b.ins.length → Good m 100 w → (∀ v ∈ vals, 0 ≤ v) → w.steps = i →
    (goF m inp 100 1 w f 0 i vals 1).1.bad = 0 ∧ (goF m inp 100 1 w f 0 i vals 1).1.steps = b.ins.length + 1 ∧ (goF m inp 100 1 w f 0 i vals 1).1.deep = w.deep
  | 0, i, w, vals, hd, h, hv, hs => by
    have hs' : ¬ w.steps = 100 := by omega
    rw [goF_ret h hs' hb (by omega) hk]
    have hg := h.step hs'
    refine ⟨hg.bad, ?_, ?_⟩ <;> rw [stepW_go hs']
    simp only []
    omega
  | d + 1, i, w, vals, hd, h, hv, hs => by
    have hs' : ¬ w.steps = 100 := by omega
    have hil : i < b.ins.length := by omega
    have hx : b.ins[i]? = some b.ins[i] := List.getElem?_eq_getElem hil
    rw [goF_plain h hv hs' hb hx (h14 _ (List.getElem_mem hil))]
    obtain ⟨c1, c2, c3⟩ := h.gives hs' inp b.ins[i] hv
    obtain ⟨r1, r2, r3⟩ := goF_straight hb hi hk h14 d (i + 1) (givesW m inp b.ins[i] vals (stepW 100 w)).1 (vals ++ [(givesW m inp b.ins[i] vals (stepW 100 w)).2]) (by omega) c1 (fun v hv' => by
      rcases List.mem_append.1 hv' with hv' | hv'
      · exact hv v hv'
      · rw [List.mem_singleton.1 hv']; exact c2) (by omega)
    exact ⟨r1, r2, by rw [r3, gives_deep, stepW_go hs']⟩
theorem runA_straight {m : Module} (inp : ByteArray) (hw : wholeE m = 0) {f : Func} (hf : f ∈ m.funcs) (hn : f.name = mainS) {b : Block} (hb : f.blocks = [b]) (hk : b.kind = 3) (h14 : ∀ x ∈ b.ins, ¬ x.op = 14) :
    (runA m inp 100 1).bad = 0 ∧ (runA m inp 100 1).ended = true ∧ (runA m inp 100 1).steps = b.ins.length + 1 ∧ (runA m inp 100 1).deep = 1 := by
  rw [runA_is (by omega) hw]
  have hok := (wholeE_zero.1 hw).1
  have hff : funcOf m mainS = f := by
    unfold funcOf
    rw [← hn, findF_uniq hok hf]
    rfl
  have hb0 : f.blocks[0]? = some b := by rw [hb]; rfl
  have hbk : blockOk f b = true := by
    have := funcOk_block (hok.funcs f hf) (by rw [hb]; exact Nat.one_pos : 0 < f.blocks.length)
    rwa [(List.getElem?_eq_some_iff.1 hb0).2] at this
  have h := goF_straight (m := m) (inp := inp) hb0 (blockOk_parts hbk).2.2.1 hk h14 b.ins.length 0 (enterW 1 (startW m)) [] (by omega) ((startW_good m 100).enter 1) (fun v hv => by cases hv) (start_steps m)
  unfold runR
  rw [hff]
  simp only []
  show (if (goF m inp 100 1 (enterW 1 (startW m)) f 0 0 [] 1).1.bad ≠ 0 then (goF m inp 100 1 (enterW 1 (startW m)) f 0 0 [] 1).1 else { (goF m inp 100 1 (enterW 1 (startW m)) f 0 0 [] 1).1 with ended := true, code := (goF m inp 100 1 (enterW 1 (startW m)) f 0 0 [] 1).2 }).bad = 0 ∧
    (if (goF m inp 100 1 (enterW 1 (startW m)) f 0 0 [] 1).1.bad ≠ 0 then (goF m inp 100 1 (enterW 1 (startW m)) f 0 0 [] 1).1 else { (goF m inp 100 1 (enterW 1 (startW m)) f 0 0 [] 1).1 with ended := true, code := (goF m inp 100 1 (enterW 1 (startW m)) f 0 0 [] 1).2 }).ended = true ∧
    (if (goF m inp 100 1 (enterW 1 (startW m)) f 0 0 [] 1).1.bad ≠ 0 then (goF m inp 100 1 (enterW 1 (startW m)) f 0 0 [] 1).1 else { (goF m inp 100 1 (enterW 1 (startW m)) f 0 0 [] 1).1 with ended := true, code := (goF m inp 100 1 (enterW 1 (startW m)) f 0 0 [] 1).2 }).steps = b.ins.length + 1 ∧
    (if (goF m inp 100 1 (enterW 1 (startW m)) f 0 0 [] 1).1.bad ≠ 0 then (goF m inp 100 1 (enterW 1 (startW m)) f 0 0 [] 1).1 else { (goF m inp 100 1 (enterW 1 (startW m)) f 0 0 [] 1).1 with ended := true, code := (goF m inp 100 1 (enterW 1 (startW m)) f 0 0 [] 1).2 }).deep = 1
  rw [if_neg (by rw [h.1]; exact fun h => h rfl)]
  exact ⟨h.1, rfl, h.2.1, h.2.2⟩

set_option maxRecDepth 10000 in
theorem evalAhead_pure (m : Module) (hm : ArgsOk m) (hk : KOk m) (inp more : ByteArray) (hi : inp.size ≤ 140737488351232) (hmo : more.size ≤ 140737488351232) (fuel deep : Int) : APure Try.prog 6 [.agg (moduleC m ++ [.str inp, .str more, .int fuel, .int deep])] (.bool true) := by
  refine apureG _ _ Try.func6 (by kernel_rfl) t_marlinelaw07_EvalAhead u_marlinelaw07_EvalAhead rfl rfl (fun _ => ?_)
  simp [c_marlinelaw07_EvalAhead, r_marlinelaw07_EvalAhead]
  refine call_plain (ds := []) _ (by simp) (by simp) (fun _ => rfl) (fun _ => shown07_pure) ?_
  simp
  refine call_plain (ds := [.int fuel]) _ (by simp) (by simp) (fun _ => by simp) (fun _ => most_pure fuel) ?_
  simp
  refine call_plain (ds := [.agg (moduleC m), .str inp, .int (mostI fuel), .int deep]) _ (by simp) (by simp) (fun _ => by simp; rfl) (fun _ => erun_pure m hm hk inp (mostI fuel) deep) ?_
  simp
  intro hlt
  obtain ⟨t, ht⟩ : ∃ t, runA m inp (mostI fuel) deep = t := ⟨_, rfl⟩
  rw [ht] at hlt ⊢
  have hw : IntKind.i64.wrap ((t.read : Int) + 1) = (t.read : Int) + 1 := wrap_succ (by omega)
  have e := runA_ahead m inp (inp.extract 0 (t.read + 1) ++ more) (mostI fuel) deep (by rw [ht]; exact hlt) (by rw [ht, ahead_size _ _ hlt]; omega) (fun i hi => ahead_get _ _ hlt (by rw [ht] at hi; exact hi))
  rw [ht] at e
  rw [hw]
  refine ⟨by omega, by omega, ?_⟩
  refine call_plain (ds := [.int fuel]) _ (by simp) (by simp) (fun _ => by simp) (fun _ => most_pure fuel) ?_
  simp
  refine call_plain (ds := [.agg (moduleC m), .str (inp.extract 0 (t.read + 1) ++ more), .int (mostI fuel), .int deep]) _ (by simp) (by simp) (fun _ => by simp; rfl) (fun _ => erun_pure m hm hk _ (mostI fuel) deep) ?_
  rw [e]
  simp

set_option maxRecDepth 10000 in
theorem evalStraight_pure (m : Module) (hm : ArgsOk m) (hk : KOk m) (inp : ByteArray) : APure Try.prog 9 [.agg (moduleC m), .str inp] (.bool true) := by
  refine apureG _ _ Try.func9 (by kernel_rfl) t_marlinelaw07_EvalStraight u_marlinelaw07_EvalStraight rfl rfl (fun _ => ?_)
  simp [c_marlinelaw07_EvalStraight, r_marlinelaw07_EvalStraight]
  refine call_plain (ds := []) _ (by simp) (by simp) (fun _ => rfl) (fun _ => shown07_pure) ?_
  simp
  refine call_plain (ds := [.agg (moduleC m)]) _ (by simp) (by simp) (fun _ => by simp; rfl) (fun _ => ewhole_pure m hm) ?_
  simp
  intro hw
  have hok := (wholeE_zero.1 hw).1
  have hnf := hok.nf
  refine loop_s (κ := Nat) (fun k => k ≤ m.funcs.length) (fun k => m.funcs.length - k) (fun k => [(sl 6, .int k)]) (fun _ => []) 0 0 (srcs []) (by simp) (by simp) ?_
  rintro k hk0
  simp
  intro hlt
  rw [getD_some hlt]
  obtain ⟨f, hf⟩ : ∃ f, m.funcs[k] = f := ⟨_, rfl⟩
  have hfm : f ∈ m.funcs := by rw [← hf]; exact List.getElem_mem hlt
  simp only [hf]
  refine ⟨hlt, fun h1 h2 => ?_, ?_, ?_⟩
  · exact ⟨⟨h1, h2⟩, by omega⟩
  · intro _
    exact ⟨k + 1, by omega, by omega, srcs [], by simp [SLeK]; exact DLe_int (wrap_succ (by omega))⟩
  · intro h1 h2 h3
    obtain ⟨b, hb⟩ : ∃ b, f.blocks = [b] := List.length_eq_one_iff.1 (by omega)
    have hb0 : f.blocks[0]?.getD default = b := by rw [hb]; rfl
    rw [hb0] at h3
    have hbk : blockOk f b = true := by
      have := funcOk_block (hok.funcs f hfm) (by omega : 0 < f.blocks.length)
      have e : f.blocks[0]'(by omega) = b := by simp [hb]
      rwa [e] at this
    have hi32 := (blockOk_parts hbk).2.2.1
    refine loop_s (κ := Nat) (fun j => j ≤ b.ins.length ∧ ∀ x ∈ b.ins.take j, ¬ x.op = 14) (fun j => b.ins.length - j) (fun j => [(sl 8, .int j)]) (fun _ => []) 31 0 (srcs []) ⟨by simp, by simp⟩ (by simp) ?_
    rintro j ⟨hj, hj14⟩
    simp [hb0, hb]
    refine ⟨fun hlt => ?_, fun hge => ?_⟩
    · rw [getD_some hlt]
      refine ⟨hlt, fun h14 => ?_⟩
      refine ⟨j + 1, ⟨by omega, fun x hx => ?_⟩, by omega, srcs [], by simp [SLeK]; exact DLe_int (wrap_succ (by omega))⟩
      rw [List.take_succ_eq_append_getElem hlt] at hx
      rcases List.mem_append.1 hx with hx | hx
      · exact hj14 x hx
      · rw [List.mem_singleton.1 hx]; exact h14
    · have h14 : ∀ x ∈ b.ins, ¬ x.op = 14 := fun x hx => hj14 x (by rw [List.take_of_length_le hge]; exact hx)
      obtain ⟨r1, r2, r3, r4⟩ := runA_straight inp hw hfm h1 hb h3 h14
      refine call_plain (ds := [.agg (moduleC m), .str inp, .int 100, .int 1]) _ (by simp) (by simp) (fun _ => by simp; rfl) (fun _ => erun_pure m hm hk inp 100 1) ?_
      simp [r1, r2, r3, r4, hb, hb0]
      exact DLe_bool (decide_eq_true (wrap_succ (by omega)).symm)

end Go.Proofs.Ytpfokkfomgmibaa
