/- Contracts by the evaluator: the program's layer 11: the search behind Deepest. -/
import Derived.Test.YtifinpijhbkhnaaF6
namespace Go.Proofs.Ytifinpijhbkhnaa
open Go.RowKit

/-- A function behind those that it calls: what was seen, and what was told. -/
def vis (m : Module) : Nat → List ByteArray × List ByteArray → ByteArray → List ByteArray × List ByteArray
  | 0, p, _ => p
  | n + 1, p, s => match findF m s with
    | none => p
    | some _ => if hasN p.1 s = true then p else (((callsL m s).foldl (vis m n) (p.1 ++ [s], p.2)).1, ((callsL m s).foldl (vis m n) (p.1 ++ [s], p.2)).2 ++ [s])

theorem vis_none {m : Module} {n : Nat} {p : List ByteArray × List ByteArray} {s : ByteArray} (h : findF m s = none) : vis m (n + 1) p s = p := by
  unfold vis; rw [h]
theorem vis_had {m : Module} {n : Nat} {p : List ByteArray × List ByteArray} {s : ByteArray} (h : hasN p.1 s = true) : vis m (n + 1) p s = p := by
  unfold vis
  split
  · rfl
  · rw [if_pos h]
theorem vis_new {m : Module} {n : Nat} {p : List ByteArray × List ByteArray} {s : ByteArray} {f : Func} (h : findF m s = some f) (hs : hasN p.1 s = false) :
    vis m (n + 1) p s = (((callsL m s).foldl (vis m n) (p.1 ++ [s], p.2)).1, ((callsL m s).foldl (vis m n) (p.1 ++ [s], p.2)).2 ++ [s]) := by
  conv => lhs; unfold vis
  rw [h]
  simp only []
  rw [if_neg (by simp [hs])]

theorem foldl_inv {α β : Type} {f : β → α → β} {R : β → β → Prop} (hr : ∀ b, R b b) (ht : ∀ a b c, R a b → R b c → R a c) (h : ∀ b a, R b (f b a)) : ∀ (l : List α) (b : β), R b (l.foldl f b)
  | [], b => hr b
  | a :: l, b => ht _ _ _ (h b a) (foldl_inv hr ht h l (f b a))

theorem vis_mono (m : Module) (t : ByteArray) : ∀ (n : Nat) (p : List ByteArray × List ByteArray) (s : ByteArray), hasN p.1 t = true → hasN (vis m n p s).1 t = true
  | 0, p, s, h => h
  | n + 1, p, s, h => by
    cases hf : findF m s with
    | none => rw [vis_none hf]; exact h
    | some f =>
      cases hs : hasN p.1 s with
      | true => rw [vis_had hs]; exact h
      | false =>
        rw [vis_new hf hs]
        exact foldl_inv (R := fun b c : List ByteArray × List ByteArray => hasN b.1 t = true → hasN c.1 t = true) (fun _ h => h) (fun _ _ _ h1 h2 h => h2 (h1 h)) (fun b a => vis_mono m t n b a) _ _ (by rw [hasN_append, h]; rfl)
theorem vis_left (m : Module) (n : Nat) (p : List ByteArray × List ByteArray) (l : List ByteArray) : left m (l.foldl (vis m n) p).1 ≤ left m p.1 :=
  left_mono fun t ht => foldl_inv (R := fun b c : List ByteArray × List ByteArray => hasN b.1 t = true → hasN c.1 t = true) (fun _ h => h) (fun _ _ _ h1 h2 h => h2 (h1 h)) (fun b a => vis_mono m t n b a) l p ht

theorem vis_len (m : Module) : ∀ (n : Nat) (p : List ByteArray × List ByteArray) (s : ByteArray), (vis m n p s).2.length + left m (vis m n p s).1 ≤ p.2.length + left m p.1
  | 0, p, s => Nat.le_refl _
  | n + 1, p, s => by
    cases hf : findF m s with
    | none => rw [vis_none hf]; exact Nat.le_refl _
    | some f =>
      cases hs : hasN p.1 s with
      | true => rw [vis_had hs]; exact Nat.le_refl _
      | false =>
        rw [vis_new hf hs]
        have h1 := foldl_inv (R := fun b c : List ByteArray × List ByteArray => c.2.length + left m c.1 ≤ b.2.length + left m b.1) (fun _ => Nat.le_refl _) (fun _ _ _ h1 h2 => Nat.le_trans h2 h1) (fun b a => vis_len m n b a) (callsL m s) (p.1 ++ [s], p.2)
        have h2 := left_lt hf hs
        simp only [List.length_append, List.length_cons, List.length_nil] at h1 ⊢
        omega
theorem vis_fold_len (m : Module) (n : Nat) (l : List ByteArray) (p : List ByteArray × List ByteArray) : (l.foldl (vis m n) p).2.length + left m (l.foldl (vis m n) p).1 ≤ p.2.length + left m p.1 :=
  foldl_inv (R := fun b c : List ByteArray × List ByteArray => c.2.length + left m c.1 ≤ b.2.length + left m b.1) (fun _ => Nat.le_refl _) (fun _ _ _ h1 h2 => Nat.le_trans h2 h1) (fun b a => vis_len m n b a) l p

theorem callsL_length {m : Module} (hm : Small m) (s : ByteArray) : (callsL m s).length ≤ 1048576 := by
  unfold callsL
  cases h : findF m s with
  | none => simp
  | some f =>
    have h1 := onceT_length (callsI (allIns f)) (callsI (allIns f)).length
    rw [onceT_all (Nat.le_refl _)] at h1
    exact Nat.le_trans h1 (Nat.le_trans (callsI_length _) (hm.ins f (List.mem_of_find?_eq_some h)))

/-- The objects of the search; r: the number of the row of what was told. -/
def LV (m : Module) (p : List ByteArray × List ByteArray) (r : Nat) : List (Nat × AObj) :=
  [(1000000, .box [.mp 1000001]), (1000001, .map .string p.1.length (mapN p.1)), (1000002, .box [.fn 53 [.d (.cref (moduleC m) 0), .ptr 1000000 0, .ptr 1000002 0, .ptr 1000003 0]]), (1000003, .box [.own r p.2.length]), (r, .row 9 1 p.2.length fun i => strC (p.2[i]?.getD ⟨#[]⟩))]
theorem hof_LV (m : Module) (p : List ByteArray × List ByteArray) (r : Nat) : hof (LV m p r) = hadd 1000000 (.box [.mp 1000001]) (hadd 1000001 (.map .string p.1.length (mapN p.1)) (hadd 1000002 (.box [.fn 53 [.d (.cref (moduleC m) 0), .ptr 1000000 0, .ptr 1000002 0, .ptr 1000003 0]]) (hadd 1000003 (.box [.own r p.2.length]) (hadd r (.row 9 1 p.2.length fun i => strC (p.2[i]?.getD ⟨#[]⟩)) hnil)))) := rfl

set_option maxRecDepth 10000 in
theorem vis_eff (m : Module) (hm : Small m) : ∀ (n : Nat) (p : List ByteArray × List ByteArray) (s : ByteArray), left m p.1 < n → p.2.length + left m p.1 ≤ 1048576 →
    AEff Try.prog 53 [.d (.str s), .d (.cref (moduleC m) 0), .ptr 1000000 0, .ptr 1000002 0, .ptr 1000003 0] (LV m p 1000004) (.tup []) (LV m (vis m n p s) 999999) := by
  intro n
  induction n with
  | zero => intro p s h; omega
  | succ n ih =>
    intro p s hn hb
    refine aeffG _ _ Try.func53 (by kernel_rfl) t_reach_Deepest_1 u_reach_Deepest_1 rfl rfl (by simp [LV]) (by simp [LV, idsOk]) (fun _ => ?_)
    simp [c_reach_Deepest_1, r_reach_Deepest_1, hof_LV]
    refine call_plain (ds := [.agg (moduleC m), .str s]) _ (by simp) (by simp) (fun _ => rfl) (fun _ => find_pure m s) ?_
    cases hf : findF m s with
    | none =>
      have hr : findR m s = .tup [.agg [.str ⟨#[]⟩, .int 0, .int 0, .lit (.slice none 0 0)], .bool false] := by unfold findR; rw [hf]
      rw [hr, vis_none hf]
      simp
      exact ⟨.id 1000004, by simp [LV, gE], by simp [LV, gE]⟩
    | some f =>
      have hr : findR m s = .tup [.agg (funcC f), .bool true] := by unfold findR; rw [hf]
      rw [hr]
      cases hs : hasN p.1 s with
      | true =>
        rw [vis_had hs]
        simp [hs]
        exact ⟨.id 1000004, by simp [LV, gE], by simp [LV, gE]⟩
      | false =>
        rw [vis_new hf hs]
        simp [hs]
        have hl := left_lt hf hs
        refine call_plain (ds := [.agg (moduleC m), .str s]) _ (by simp) (by simp) (fun _ => rfl) (fun _ => calls_pure m hm s) ?_
        simp
        obtain ⟨cs, hcs⟩ : ∃ cs, callsL m s = cs := ⟨_, rfl⟩
        have hcl : cs.length ≤ 1048576 := by
          rw [← hcs]
          exact callsL_length hm s
        simp only [hcs]
        refine loop_s (κ := Nat) (fun k => k ≤ cs.length) (fun k => cs.length - k) (fun k => [(sl 29, .int k)])
          (fun k => LV m ((cs.take k).foldl (vis m n) (p.1 ++ [s], p.2)) 0) 1 0 (srcs [(0, .id 1000004)]) (by simp) ?_ ?_
        · simp [LV]
          exact fun v hv => mapN_step v hv
        rintro k hk
        have h1 := vis_left m n (p.1 ++ [s], p.2) (cs.take k)
        have h2 := vis_fold_len m n (cs.take k) (p.1 ++ [s], p.2)
        simp only [] at h1 h2
        simp [hof_LV]
        refine ⟨fun hlt => ⟨hlt, ?_⟩, fun hge => ?_⟩
        · have hsucc : (cs.take (k + 1)).foldl (vis m n) (p.1 ++ [s], p.2) = vis m n ((cs.take k).foldl (vis m n) (p.1 ++ [s], p.2)) cs[k] := by
            rw [List.take_succ_eq_append_getElem hlt, List.foldl_append]
            rfl
          obtain ⟨q, hq⟩ : ∃ q, (cs.take k).foldl (vis m n) (p.1 ++ [s], p.2) = q := ⟨_, rfl⟩
          rw [hq] at hsucc h1 h2
          simp only [hq]
          refine calle_k (ih q cs[k] (by omega) (by omega)) (fun i => if i = 1000004 then 0 else if i = 999999 then _ else i) rfl [.d (.str cs[k]), .d (.cref (moduleC m) 0), .ptr 1000000 0, .ptr 1000002 0, .ptr 1000003 0] (by simp) (by simp) (by simp [hlt]) ?_ ?_ ?_ (by simp [LV, idsOk]) ?_
          · simp [gOf, LV]
          · simp [gOf, LV]
          · simp [gOf, LV]
          simp [LV]
          refine ⟨k + 1, by omega, by omega, srcs [(0, .id 7)], ?_⟩
          simp [SLeK, hsucc, LV]
          exact DLe_int (wrap_succ (by omega))
        · rw [List.take_of_length_le hge] at h2 ⊢
          obtain ⟨q, hq⟩ : ∃ q, cs.foldl (vis m n) (p.1 ++ [s], p.2) = q := ⟨_, rfl⟩
          rw [hq] at h2
          simp only [hq]
          refine ⟨by omega, .id 5, ?_, by simp [LV, gE]⟩
          simp [LV, gE]
          exact fun i hi => appRow_str hi

end Go.Proofs.Ytifinpijhbkhnaa
