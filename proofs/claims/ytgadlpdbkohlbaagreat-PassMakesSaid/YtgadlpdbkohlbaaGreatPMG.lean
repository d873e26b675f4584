/- Texts of one kind, one behind the other (merged by program; the bodies of functions are printed by program). -/
import Derived.Test.YtgadlpdbkohlbaaGreatPMF
import Derived.Lib.AppendZeros
import Derived.Laws.AppendOwnNone
namespace Go.Proofs.YtgadlpdbkohlbaaGreat
open Go.RowKit
def flT {α : Type} (p : α → Bool) (l : List α) (k : Nat) : List α := (l.take k).filter p
@[simp] theorem flT_zero {α : Type} (p : α → Bool) (l : List α) : flT p l 0 = [] := rfl
theorem ql0 {α : Type} (p : α → Bool) {l : List α} {k : Nat} (hk : k < l.length) : flT p l (k + 1) = if p l[k] = true then flT p l k ++ [l[k]] else flT p l k := by
 unfold flT
 rw [List.take_succ_eq_append_getElem hk, List.filter_append]
 cases h : p l[k] <;> simp [h]
theorem qry {α : Type} (p : α → Bool) {l : List α} {k : Nat} (hk : l.length ≤ k) : flT p l k = l.filter p := by
 unfold flT
 rw [List.take_of_length_le hk]
theorem qdc {α : Type} (p : α → Bool) (l : List α) (k : Nat) : (flT p l k).length ≤ k := by
 unfold flT
 have := List.length_filter_le p (l.take k)
 simp at this
 omega
theorem qli {l : List Func} {x : Func} {i : Nat} (h : i < l.length + 1) : q13 l.length (fun i => qm (l[i]?.getD default)) (fun i => List.take 4 (List.drop (i * 4) (qm x))) i = qm ((l ++ [x])[i]?.getD default) := by
 unfold q13
 by_cases hi : i < l.length
 ·rw [if_pos hi]; simp [List.getElem?_append_left hi, hi]
 ·obtain rfl : i = l.length := by omega
  simp [qm]
theorem qlj {l : List Glob} {x : Glob} {i : Nat} (h : i < l.length + 1) : q13 l.length (fun i => q67 (l[i]?.getD default)) (fun i => List.take 4 (List.drop (i * 4) (q67 x))) i = q67 ((l ++ [x])[i]?.getD default) := by
 unfold q13
 by_cases hi : i < l.length
 ·rw [if_pos hi]; simp [List.getElem?_append_left hi, hi]
 ·obtain rfl : i = l.length := by omega
  simp [q67]
def qax (m : Module) : Module := ⟨m.funcs.filter fun f => hasN (qun m (q3t m)) f.name, m.globs.filter fun g => hasN (qun m (q3t m)) g.name⟩
theorem qsm (m : Module) : (q3t m).length ≤ m.funcs.length + m.globs.length := by
 have := qj6 m m.globs.length
 rwa [qyl (Nat.le_refl _)] at this
set_option maxRecDepth 10000 in
theorem z59 (m : Module) (hm : Small m) : APure Tryz.prog 41 [.agg (q8 m)] (.agg (q8 (qax m))) := by
 refine qb _ _ Tryz.func41 (by kernel_rfl) qwl qx0 rfl rfl (fun _ => ?_)
 have hl := hm.len
 simp [qjk, qk1]
 refine q4 (ds := [.agg (q8 m)]) _ (by simp) (by simp) (fun _ => rfl) (fun _ => z31 m hl) ?_
 simp
 refine q4 (ds := [.agg (q8 m), q2k (q3t m)]) _ (by simp) (by simp) (fun _ => rfl) (fun _ => z5o m hm (q3t m) (Nat.le_trans (qsm m) hl)) ?_
 simp
 obtain ⟨R, hR⟩ : ∃ R, qun m (q3t m) = R := ⟨_, rfl⟩
 rw [hR]
 refine qe (κ := Nat) (fun k => k ≤ m.funcs.length) (fun k => m.funcs.length - k) (fun k => [(sl 16, .int k), (sl 4, .ptr 1 0), (sl 2, .ptr 2 0)])
  (fun k => [(0, .row 61 4 (flT (fun f => hasN R f.name) m.funcs k).length fun i => qm ((flT (fun f => hasN R f.name) m.funcs k)[i]?.getD default)), (1, .box [.own 0 (flT (fun f => hasN R f.name) m.funcs k).length, .d (.lit (.slice none 0 0))]), (2, .box [.d (.lit (.slice none 0 0)), .d (.lit (.slice none 0 0))])]) 3 0 (srcs [(0, .nil), (1, .id 7), (2, .id 1)]) (by simp) ?_ ?_
 ·simp
 rintro k hk
 simp
 refine ⟨fun hlt => ⟨hlt, ?_⟩, fun hge => ?_⟩
 ·have hlm := qdc (fun f : Func => hasN R f.name) m.funcs k
  have hs := ql0 (fun f : Func => hasN R f.name) hlt
  rw [getD_some hlt]
  refine q4 (ds := [q2k R, .str m.funcs[k].name]) _ (by simp) (by simp) (fun _ => rfl) (fun _ => qa5 R m.funcs[k].name) ?_
  simp
  refine ⟨fun h => ?_, fun h => ?_⟩
  ·rw [if_pos h] at hs
   refine ⟨by omega, k + 1, by omega, by omega, srcs [(0, .id 16), (1, .id 1), (2, .id 2)], ?_⟩
   simp [SLeK, hs]
   exact ⟨q6 (q5 (by omega)), fun i hi => qli hi⟩
  ·rw [if_neg (by simp [h])] at hs
   refine ⟨k + 1, by omega, by omega, srcs [(0, .id 0), (1, .id 1), (2, .id 2)], ?_⟩
   simp [SLeK, hs]
   exact q6 (q5 (by omega))
 rw [qry _ hge]
 refine qe (κ := Nat) (fun k => k ≤ m.globs.length) (fun k => m.globs.length - k) (fun k => [(sl 34, .int k), (sl 4, .ptr 1 0), (sl 2, .ptr 2 0)])
  (fun k => [(0, .row 61 4 (m.funcs.filter fun f => hasN R f.name).length fun i => qm ((m.funcs.filter fun f => hasN R f.name)[i]?.getD default)), (1, .box [.own 0 (m.funcs.filter fun f => hasN R f.name).length, .own 3 (flT (fun g => hasN R g.name) m.globs k).length]), (2, .box [.d (.lit (.slice none 0 0)), .d (.lit (.slice none 0 0))]),
   (3, .row 64 4 (flT (fun g => hasN R g.name) m.globs k).length fun i => q67 ((flT (fun g => hasN R g.name) m.globs k)[i]?.getD default))]) 4 0 (srcs [(0, .id 0), (1, .id 1), (2, .id 2), (3, .nil)]) (by simp) ?_ ?_
 ·simp
 rintro j hj
 simp
 refine ⟨fun hlt => ⟨hlt, ?_⟩, fun hge => ?_⟩
 ·have hlm := qdc (fun g : Glob => hasN R g.name) m.globs j
  have hs := ql0 (fun g : Glob => hasN R g.name) hlt
  rw [getD_some hlt]
  refine q4 (ds := [q2k R, .str m.globs[j].name]) _ (by simp) (by simp) (fun _ => rfl) (fun _ => qa5 R m.globs[j].name) ?_
  simp
  refine ⟨fun h => ?_, fun h => ?_⟩
  ·rw [if_pos h] at hs
   refine ⟨by omega, j + 1, by omega, by omega, srcs [(0, .id 0), (1, .id 1), (2, .id 2), (3, .id 17)], ?_⟩
   simp [SLeK, hs]
   exact ⟨q6 (q5 (by omega)), fun i hi => qlj hi⟩
  ·rw [if_neg (by simp [h])] at hs
   refine ⟨j + 1, by omega, by omega, srcs [(0, .id 0), (1, .id 1), (2, .id 2), (3, .id 3)], ?_⟩
   simp [SLeK, hs]
   exact q6 (q5 (by omega))
 ·rw [qry _ hge]
  subst hR
  exact DLe.refl _





theorem q2j {l : List ByteArray} {s : ByteArray} : hasN l s = true ↔ s ∈ l := qs0 _ _
def q9n (m : Module) (s : ByteArray) : List ByteArray := match q55 m s with
 | none => []
 | some f => qo (qk f)
inductive Rch (m : Module) (R : List ByteArray) : ByteArray → Prop
 | root {s : ByteArray} (h : s ∈ R) : Rch m R s
 | step {s t : ByteArray} (h : Rch m R s) (ht : t ∈ q9n m s) : Rch m R t
theorem Rch.mono {m : Module} {R R' : List ByteArray} (h : ∀ s ∈ R, Rch m R' s) {t : ByteArray} (ht : Rch m R t) : Rch m R' t := by
 induction ht with
 | root hs => exact h _ hs
 | step _ ht ih => exact .step ih ht
theorem dfs_sub (m : Module) : ∀ (n : Nat) (S : List ByteArray) (s t : ByteArray), t ∈ dfs m n S s → t ∈ S ∨ Rch m [s] t := by
  intro n
  induction n with
  | zero => intro S s t h; exact .inl h
  | succ n ih =>
    intro S s t h
    unfold dfs at h
    split at h
    · exact .inl h
    · split at h
      · rcases List.mem_append.1 h with h | h
        · exact .inl h
        · exact .inr (.root h)
      · rename_i f hf
        have key : ∀ (l : List ByteArray) (S : List ByteArray), (∀ x ∈ l, Rch m [s] x) → t ∈ l.foldl (dfs m n) S → t ∈ S ∨ Rch m [s] t := by
          intro l
          induction l with
          | nil => intro S _ h; exact .inl h
          | cons x l ihl =>
            intro S hl h
            rcases ihl _ (fun y hy => hl y (List.mem_cons_of_mem _ hy)) h with h1 | h1
            · rcases ih S x t h1 with h2 | h2
              · exact .inl h2
              · exact .inr (h2.mono fun y hy => by
                  obtain rfl : y = x := by simpa using hy
                  exact hl _ (by simp))
            · exact .inr h1
        have hs : ∀ x ∈ qo (qk f), Rch m [s] x := fun x hx => .step (s := s) (.root (by simp)) (by unfold q9n; rw [hf]; exact hx)
        rcases key _ _ hs h with h1 | h1
        · rcases List.mem_append.1 h1 with h1 | h1
          · exact .inl h1
          · exact .inr (.root h1)
        · exact .inr h1
def z49 (m : Module) (S S' : List ByteArray) : Prop := ∀ x ∈ S', x ∉ S → ∀ y ∈ q9n m x, y ∈ S'
theorem dfs_has (m : Module) (n : Nat) (S : List ByteArray) (s t : ByteArray) (h : t ∈ S) : t ∈ dfs m n S s := q2j.1 (qzz m n S s t (q2j.2 h))
theorem qhf (m : Module) (n : Nat) (t : ByteArray) (l S : List ByteArray) (h : t ∈ S) : t ∈ l.foldl (dfs m n) S := q2j.1 (qme m n t l S (q2j.2 h))
theorem left_sub {m : Module} {S S' : List ByteArray} (h : ∀ s ∈ S, s ∈ S') : left m S' ≤ left m S := qva fun s hs => q2j.2 (h s (q2j.1 hs))
theorem dfs_full (m : Module) : ∀ (n : Nat) (S : List ByteArray) (s : ByteArray), left m S < n → s ∈ dfs m n S s ∧ z49 m S (dfs m n S s) := by
  intro n
  induction n with
  | zero => intro S s h; omega
  | succ n ih =>
    intro S s hn
    have key : ∀ (l : List ByteArray) (S : List ByteArray), left m S < n → (∀ x ∈ l, x ∈ l.foldl (dfs m n) S) ∧ z49 m S (l.foldl (dfs m n) S) := by
      intro l
      induction l with
      | nil => intro S _; exact ⟨fun x hx => (by cases hx), fun x hx hn => absurd hx hn⟩
      | cons x l ihl =>
        intro S hS
        have hS' : left m (dfs m n S x) < n := Nat.lt_of_le_of_lt (left_sub fun t ht => dfs_has m n S x t ht) hS
        obtain ⟨h1, h2⟩ := ihl (dfs m n S x) hS'
        obtain ⟨h3, h4⟩ := ih S x hS
        refine ⟨fun y hy => ?_, fun y hy hyn z hz => ?_⟩
        · rcases List.mem_cons.1 hy with rfl | hy
          · exact qhf m n _ l _ h3
          · exact h1 y hy
        · by_cases hyd : y ∈ dfs m n S x
          · exact qhf m n _ l _ (h4 y hyd hyn z hz)
          · exact h2 y hy hyd z hz
    unfold dfs
    split
    · rename_i hs
      exact ⟨q2j.1 hs, fun x hx hn => absurd hx hn⟩
    · rename_i hs
      have hs' : hasN S s = false := by simpa using hs
      split
      · rename_i hf
        refine ⟨by simp, fun x hx hxn y hy => ?_⟩
        have hx' : x = s := by
          rcases List.mem_append.1 hx with h | h
          · exact absurd h hxn
          · simpa using h
        subst hx'
        unfold q9n at hy
        rw [hf] at hy
        cases hy
      · rename_i f hf
        have hl := z6h hf hs'
        obtain ⟨h1, h2⟩ := key (qo (qk f)) (S ++ [s]) (by omega)
        refine ⟨qhf m n _ _ _ (by simp), fun x hx hxn y hy => ?_⟩
        by_cases hxs : x = s
        · subst hxs
          unfold q9n at hy
          rw [hf] at hy
          exact h1 y hy
        · exact h2 x hx (by simp [hxn, hxs]) y hy
theorem qqw (m : Module) (R : List ByteArray) (t : ByteArray) : t ∈ R.foldl (dfs m (m.funcs.length + 1)) [] ↔ Rch m R t := by
  have hlt : ∀ S, left m S < m.funcs.length + 1 := fun S => Nat.lt_succ_of_le (List.length_filter_le _ _)
  constructor
  · have key : ∀ (l S : List ByteArray), (∀ x ∈ l, Rch m R x) → t ∈ l.foldl (dfs m (m.funcs.length + 1)) S → t ∈ S ∨ Rch m R t := by
      intro l
      induction l with
      | nil => intro S _ h; exact .inl h
      | cons x l ih =>
        intro S hl h
        rcases ih _ (fun y hy => hl y (List.mem_cons_of_mem _ hy)) h with h1 | h1
        · rcases dfs_sub m _ _ _ _ h1 with h2 | h2
          · exact .inl h2
          · exact .inr (h2.mono fun y hy => by
              obtain rfl : y = x := by simpa using hy
              exact hl _ (by simp))
        · exact .inr h1
    intro h
    rcases key R [] (fun x hx => .root hx) h with h1 | h1
    · cases h1
    · exact h1
  · have key : ∀ (l S : List ByteArray), (∀ x ∈ l, x ∈ l.foldl (dfs m (m.funcs.length + 1)) S) ∧ z49 m S (l.foldl (dfs m (m.funcs.length + 1)) S) := by
      intro l
      induction l with
      | nil => intro S; exact ⟨fun x hx => (by cases hx), fun x hx hn => absurd hx hn⟩
      | cons x l ihl =>
        intro S
        obtain ⟨h1, h2⟩ := ihl (dfs m (m.funcs.length + 1) S x)
        obtain ⟨h3, h4⟩ := dfs_full m _ S x (hlt S)
        refine ⟨fun y hy => ?_, fun y hy hyn z hz => ?_⟩
        · rcases List.mem_cons.1 hy with rfl | hy
          · exact qhf m _ _ l _ h3
          · exact h1 y hy
        · by_cases hyd : y ∈ dfs m (m.funcs.length + 1) S x
          · exact qhf m _ _ l _ (h4 y hyd hyn z hz)
          · exact h2 y hy hyd z hz
    intro h
    obtain ⟨h1, h2⟩ := key R []
    induction h with
    | root hs => exact h1 _ hs
    | step _ ht ih => exact h2 _ ih (by simp) _ ht
theorem qn3 (l : List ByteArray) (s : ByteArray) : s ∈ q90 l ↔ s ∈ l := by
  have key : ∀ (l acc : List ByteArray), s ∈ l.foldl (fun acc x => if hasN acc x = true then acc else acc ++ [x]) acc ↔ s ∈ acc ∨ s ∈ l := by
    intro l
    induction l with
    | nil => intro acc; simp
    | cons x l ih =>
      intro acc
      rw [List.foldl_cons, ih]
      split
      · rename_i h
        have hx := q2j.1 h
        constructor
        · rintro (h | h)
          · exact .inl h
          · exact .inr (List.mem_cons_of_mem _ h)
        · rintro (h | h)
          · exact .inl h
          · rcases List.mem_cons.1 h with rfl | h
            · exact .inl hx
            · exact .inr h
      · simp only [List.mem_append, List.mem_cons, List.not_mem_nil, or_false]
        constructor
        · rintro ((h | h) | h)
          · exact .inl h
          · exact .inr (.inl h)
          · exact .inr (.inr h)
        · rintro (h | h | h)
          · exact .inl (.inl h)
          · exact .inl (.inr h)
          · exact .inr h
  have := key l []
  unfold q90
  rw [this]
  simp
theorem qup {m : Module} {R : List ByteArray} {s : ByteArray} : s ∈ qun m R ↔ s ∈ qn m ∧ Rch m R s := by
 unfold qun qk5
 rw [List.mem_filter, qn3]
 exact and_congr_right fun _ => by rw [q2j]; exact qqw m R s
theorem qhb {m : Module} {f : Func} (h : f ∈ m.funcs) : f.name ∈ qn m := List.mem_append_left _ (List.mem_map.2 ⟨f, h, rfl⟩)
theorem qcc {m : Module} {g : Glob} (h : g ∈ m.globs) : g.name ∈ qn m := List.mem_append_right _ (List.mem_map.2 ⟨g, h, rfl⟩)
theorem q6p {m : Module} {f : Func} : f ∈ (qax m).funcs ↔ f ∈ m.funcs ∧ Rch m (q3t m) f.name := by
 unfold qax
 simp only [List.mem_filter]
 exact and_congr_right fun h => by rw [q2j, qup]; exact and_iff_right (qhb h)
theorem qvd {m : Module} {g : Glob} : g ∈ (qax m).globs ↔ g ∈ m.globs ∧ Rch m (q3t m) g.name := by
 unfold qax
 simp only [List.mem_filter]
 exact and_congr_right fun h => by rw [q2j, qup]; exact and_iff_right (qcc h)
theorem z30 {m : Module} {s : ByteArray} : s ∈ q3t m ↔ (∃ f ∈ m.funcs, qdo f = true ∧ f.name = s) ∨ ∃ g ∈ m.globs, qi7 g = true ∧ g.name = s := by
 unfold q3t
 simp only [List.mem_append, List.mem_map, List.mem_filter]
 constructor
 ·rintro (⟨f, ⟨h1, h2⟩, h3⟩ | ⟨g, ⟨h1, h2⟩, h3⟩)
  ·exact .inl ⟨f, h1, h2, h3⟩
  ·exact .inr ⟨g, h1, h2, h3⟩
 ·rintro (⟨f, h1, h2, h3⟩ | ⟨g, h1, h2, h3⟩)
  ·exact .inl ⟨f, ⟨h1, h2⟩, h3⟩
  ·exact .inr ⟨g, ⟨h1, h2⟩, h3⟩
theorem qh4 (m : Module) : (qax m).funcs.length ≤ m.funcs.length := List.length_filter_le _ _
theorem qh5 (m : Module) : (qax m).globs.length ≤ m.globs.length := List.length_filter_le _ _
theorem Small.drop {m : Module} (h : Small m) : Small (qax m) where
 len := by have h1 := qh4 m; have h2 := qh5 m; have := h.len; omega
 ins := fun f hf => h.ins f (q6p.1 hf).1
 blks := fun f hf => h.blks f (q6p.1 hf).1
 args := fun f hf => h.args f (q6p.1 hf).1
theorem leads_of {m : Module} (h : ModOk m) {f : Func} (hf : f ∈ m.funcs) : q9n m f.name = qo (qk f) := by
 unfold q9n
 rw [qis h hf]
theorem z2h {m : Module} {s t : ByteArray} (h : t ∈ q9n m s) : ∃ f ∈ m.funcs, f.name = s ∧ t ∈ qo (qk f) := by
 unfold q9n at h
 split at h
 ·cases h
 ·rename_i f hf
  exact ⟨f, List.mem_of_find?_eq_some hf, by simpa using List.find?_some hf, h⟩
theorem drop_ok {m : Module} (h : ModOk m) : ModOk (qax m) := by
 have hnm : ∀ f ∈ (qax m).funcs, ∀ i ∈ qk f, q4k i.op = true → Rch m (q3t m) i.name := fun f hf i hi hn => by
  obtain ⟨h1, h2⟩ := q6p.1 hf
  exact .step h2 (by rw [leads_of h h1]; exact List.mem_map.2 ⟨i, List.mem_filter.2 ⟨hi, hn⟩, rfl⟩)
 refine .mk' (Nat.le_trans (qh4 m) h.nf) (Nat.le_trans (qh5 m) h.ng) (fun f hf => h.funcs f (q6p.1 hf).1) (fun g hg => h.globs g (qvd.1 hg).1) ?_ (fun f hf i hi h14 => ?_) (fun f hf i hi h12 => ?_)
 ·have : (qn (qax m)).Sublist (qn m) := List.Sublist.append (List.filter_sublist.map _) (List.filter_sublist.map _)
  exact h.names.sublist this
 ·obtain ⟨g, hg1, hg2, hg3⟩ := h.call (q3o (q6p.1 hf).1 hi) h14
  exact ⟨g, q6p.2 ⟨hg1, by rw [hg2]; exact hnm f hf i hi (q8x.2 (.inr (.inr h14)))⟩, hg2, hg3⟩
 ·obtain ⟨g, hg1, hg2⟩ := q4j.1 ((q37 (h.miss i (q3o (q6p.1 hf).1 hi))).2 h12)
  refine ⟨g, qvd.2 ⟨hg1, ?_⟩, hg2⟩
  rw [hg2]
  exact hnm f hf i hi (q8x.2 (by rcases h12 with h | h <;> simp [h]))

theorem z0n {α : Type} [DecidableEq α] : ∀ {l l' : List α}, l.Nodup → (∀ x ∈ l, x ∈ l') → l.length ≤ l'.length
  | [], _, _, _ => Nat.zero_le _
  | x :: l, l', hn, hs => by
    have hx := hs x (by simp)
    have h1 := List.nodup_cons.1 hn
    have h2 := z0n (l := l) (l' := l'.erase x) h1.2 fun y hy => by
      have hne : y ≠ x := fun e => h1.1 (e ▸ hy)
      exact (List.mem_erase_of_ne hne).2 (hs y (by simp [hy]))
    have h3 := List.length_erase_of_mem hx
    have h4 := List.length_pos_of_mem hx
    simp only [List.length_cons]
    omega
theorem z2p (l : List ByteArray) (x : ByteArray) : q90 (l ++ [x]) = if hasN (q90 l) x = true then q90 l else q90 l ++ [x] := by
 unfold q90
 rw [List.foldl_append]
 rfl
theorem onceL_le (l : List ByteArray) : (q90 l).length ≤ l.length := by
 have h1 := qjx l l.length
 rwa [qht (Nat.le_refl _)] at h1
set_option maxRecDepth 10000 in
theorem qyk (m : Module) (hm : Small m) (s : ByteArray) : APure Tryz.prog 78 [.agg (q8 m), .str s] (q2k (q9n m s)) := by
 refine qb _ _ Tryz.func78 (by kernel_rfl) qfp qg7 rfl rfl (fun _ => ?_)
 simp [q8l, q9b]
 refine q4 (ds := [.agg (q8 m), .str s]) _ (by simp) (by simp) (fun _ => rfl) (fun _ => q56 m s) ?_
 simp
 rcases qhk m s with ⟨k, hk, h1, h2⟩ | ⟨h1, h2⟩
 ·rw [h1]
  have e : q9n m s = qo (qk m.funcs[k]) := by unfold q9n; rw [h2]
  rw [e]
  refine ⟨fun h => by omega, fun _ => ⟨⟨by omega, by omega⟩, ?_⟩⟩
  simp only [Int.toNat_natCast, getD_some hk]
  refine q4 (ds := [.agg (qm m.funcs[k])]) _ (by simp) (by simp) (fun _ => rfl) (fun _ => qk7 m.funcs[k] (by have := hm.ins _ (List.getElem_mem hk); omega)) ?_
  simp
 ·rw [h1]
  have e : q9n m s = [] := by unfold q9n; rw [h2]
  rw [e]
  exact ⟨fun _ => z7n, fun h => by omega⟩
structure BInv (m : Module) (r : ByteArray) (i : Nat) (l : List ByteArray) : Prop where
 le : i ≤ l.length
 root : r ∈ l
 nodup : l.Nodup
 sub : ∀ x ∈ l, x = r ∨ x ∈ qn m
 rch : ∀ x ∈ l, Rch m [r] x
 out : ∀ j (h : j < l.length), j < i → ∀ y ∈ q9n m l[j], y ∈ l
theorem qy5 {m : Module} (h : ModOk m) {s t : ByteArray} (ht : t ∈ q9n m s) : t ∈ qn m := by
 obtain ⟨f, hf, _, h3⟩ := z2h ht
 obtain ⟨i, hi, rfl⟩ := List.mem_map.1 h3
 obtain ⟨h4, h5⟩ := List.mem_filter.1 hi
 rcases q8x.1 h5 with h6 | h6 | h6
 ·obtain ⟨g, hg, hn⟩ := q4j.1 ((q37 (h.miss i (q3o hf h4))).2 (.inl h6))
  rw [← hn]; exact qcc hg
 ·obtain ⟨g, hg, hn⟩ := q4j.1 ((q37 (h.miss i (q3o hf h4))).2 (.inr h6))
  rw [← hn]; exact qcc hg
 ·obtain ⟨g, hg, hn, _⟩ := h.call (q3o hf h4) h6
  rw [← hn]; exact qhb hg
theorem z6f {m : Module} (hm : Small m) (s : ByteArray) : (q9n m s).length ≤ 1048576 := by
 unfold q9n
 split
 ·simp
 ·rename_i f hf
  have h1 := q3i (qk f)
  have h2 := hm.ins f (List.mem_of_find?_eq_some hf)
  omega
def flO (l : List ByteArray) (m : Module) (k : Nat) : List ByteArray := q90 (((qn m).take k).filter fun s => hasN l s)
@[simp] theorem flO_zero (l : List ByteArray) (m : Module) : flO l m 0 = [] := rfl
theorem z04 {l : List ByteArray} {m : Module} {k : Nat} (hk : k < (qn m).length) : flO l m (k + 1) = if hasN l (qn m)[k] = true ∧ hasN (flO l m k) (qn m)[k] = false then flO l m k ++ [(qn m)[k]] else flO l m k := by
  unfold flO
  rw [List.take_succ_eq_append_getElem hk, List.filter_append]
  cases h : hasN l (qn m)[k] with
  | true =>
    simp only [List.filter_cons, h, List.filter_nil, if_true, z2p]
    cases h2 : hasN (q90 (((qn m).take k).filter fun s => hasN l s)) (qn m)[k] <;> simp
  | false => simp [h]
theorem qpp (l : List ByteArray) (m : Module) (k : Nat) : (flO l m k).length ≤ k := by
 have h1 := onceL_le (((qn m).take k).filter fun s => hasN l s)
 have h2 := List.length_filter_le (fun s => hasN l s) ((qn m).take k)
 simp at h2
 unfold flO
 omega


structure SimD (m : Module) (w w' : Wd) : Prop where
 same : w' = { w with globs := w'.globs }
 globs : ∀ s, Rch m (q3t m) s → (∃ g ∈ m.globs, g.name = s) → qks w'.globs (globI (qax m) s) = qks w.globs (globI m s)
 len : w.globs.length = m.globs.length
 len' : w'.globs.length = (qax m).globs.length

def u64C (x : Int) : List DV := [.lit (.int .u64 x)]
@[simp] theorem u64C_length (x : Int) : (u64C x).length = 1 := rfl
@[simp] theorem u64C_0 (x : Int) : (u64C x)[0]? = some (.lit (.int .u64 x)) := rfl
@[simp] theorem u64C_len? (x : Int) : (u64C x)[1]? = none := rfl
@[simp] theorem u64C_map (x : Int) : (u64C x).map AV.d = [.d (.lit (.int .u64 x))] := rfl
@[reducible] def qko (xs : List Int) : DV := .sl 1 xs.length fun k => u64C (xs[k]?.getD 0)
@[simp high] theorem u64sD_cell (xs : List Int) : DV.cell (qko xs) = true := rfl
@[simp high] theorem u64sD_isLit (xs : List Int) : DV.isLit (qko xs) = false := rfl
@[simp high] theorem u64sD_lenV (xs : List Int) : lenV (.d (qko xs)) = .int xs.length := rfl
@[simp high] theorem u64sD_lenOk (H : Heap) (s : Bool) (xs : List Int) : qhn H s (.d (qko xs)) = (s = false) := rfl
@[simp high] theorem u64sD_slLen (xs : List Int) : qj9 (.d (qko xs)) = xs.length := rfl
@[simp high] theorem u64sD_idxV (H : Heap) (xs : List Int) (k : IntKind) (i : Int) : idxH H (.d (qko xs)) (.d (.lit (.int k i))) = .d (.cref (u64C (xs[i.toNat]?.getD 0)) 0) := rfl
@[simp high] theorem u64sD_idxOk (H : Heap) (n : Nat) (xs : List Int) (k : IntKind) (i : Int) : q6o H n (.d (qko xs)) (.d (.lit (.int k i))) = (1 = n ∧ 0 ≤ i ∧ i < xs.length) := rfl
@[simp high] theorem u64sD_moreV (n : Nat) (xs : List Int) : qbq n (.d (qko xs)) = if 1 = n then some (xs.length, fun k => u64C (xs[k]?.getD 0)) else none := rfl
@[simp high] theorem u64sD_slcV (xs : List Int) (lo hi : Int) : slcV (.d (qko xs)) lo hi = .d (.sl 1 (hi.toNat - lo.toNat) fun i => u64C (xs[lo.toNat + i]?.getD 0)) := rfl
@[simp high] theorem u64sD_slcOk (n : Nat) (xs : List Int) (lo hi : Int) : qia n (.d (qko xs)) lo hi = (1 = n ∧ 0 ≤ lo ∧ lo ≤ hi ∧ hi ≤ xs.length) := rfl
abbrev DV.u64 (n : Int) : DV := .lit (.int .u64 n)
def z8e (w : Wd) : List DV := [.bool w.ended, .u64 w.code, .str w.out, .int w.read, .int w.steps, .int w.deep, qko w.globs, .int w.bad]
@[simp] theorem worldC_length (x : Wd) : (z8e x).length = 8 := rfl
@[simp] theorem worldC_len? (x : Wd) : (z8e x)[8]? = none := rfl
@[simp] theorem worldC_map (w : Wd) : (z8e w).map AV.d = [.d (.bool w.ended), .d (.u64 w.code), .d (.str w.out), .d (.int w.read), .d (.int w.steps), .d (.int w.deep), .d (qko w.globs), .d (.int w.bad)] := rfl
theorem z1g {n : Int} (h : 0 ≤ n) (h' : n < 18446744073709551616) : IntKind.u64.wrap n = n := by
 unfold IntKind.wrap
 simp only [show IntKind.u64.signed = false from rfl, Bool.false_and, if_neg (by simp : ¬ false = true)]
 exact Int.emod_eq_of_lt h h'
theorem powI_ne : ∀ q, q < 64 → ¬ powI q = 0 := by decide
set_option maxRecDepth 10000 in
theorem qqi (n : Nat) (h : n < 64) : APure Tryz.prog 108 [.u64 n] (.u64 (powI n)) := by
 refine qb _ _ Tryz.func108 (by kernel_rfl) qdv qe8 rfl rfl (fun _ => ?_)
 simp [q7e, q7r]
 refine qe (κ := Nat) (fun k => k ≤ n) (fun k => n - k) (fun k => [(sl 0, .d (.u64 ((n - k : Nat) : Int))), (sl 3, .d (.u64 (powI k)))]) (fun _ => []) 0 0 (srcs []) (by simp) (by simp [powI]) ?_
 rintro k hk
 simp
 refine ⟨fun hlt => ?_, fun hge => ?_⟩
 ·refine ⟨k + 1, by omega, by omega, srcs [], ?_⟩
  simp [SLeK]
  refine ⟨DLe.of_eq ?_, DLe.refl _⟩
  rw [show IntKind.u64.wrap (((n - k : Nat) : Int) - 1) = ((n - (k + 1) : Nat) : Int) from ?_]
  rw [z1g (by omega) (by omega)]
  omega
 ·obtain rfl : k = n := by omega
  exact DLe.refl _
set_option maxRecDepth 10000 in
theorem qyj (op a b : Int) (ha : 0 ≤ a) (hb : 0 ≤ b) : APure Tryz.prog 83 [.int op, .u64 a, .u64 b] (.u64 (q4l op a b)) := by
 refine qb _ _ Tryz.func83 (by kernel_rfl) qcu qd3 rfl rfl (fun _ => ?_)
 simp [q6g, q6r]
 have hm : 0 ≤ b.tmod 64 ∧ b.tmod 64 < 64 := ⟨Int.tmod_nonneg _ hb, Int.tmod_lt_of_pos _ (by decide)⟩
 obtain ⟨q, hq⟩ := Int.eq_ofNat_of_zero_le hm.1
 refine ⟨fun h => DLe.of_eq (by simp [q4l, q5u, h]), fun h2 => ⟨fun h => DLe.of_eq (by simp [q4l, q5u, h]), fun h3 => ⟨fun h => DLe.of_eq (by simp [q4l, q5u, h]), fun h4 => ⟨fun h => DLe.of_eq (by simp [q4l, q5u, h]), fun h5 => ⟨fun h => DLe.of_eq (by simp [q4l, q5u, h]),
  fun h6 => ⟨fun h => DLe.of_eq (by simp [q4l, q5u, h]), fun h7 => ⟨fun h => ?_, fun h8 => ⟨fun h => ?_, fun h9 => ?_⟩⟩⟩⟩⟩⟩⟩⟩
 ·refine q4 (ds := [.u64 (b.tmod 64)]) _ (by simp) (by simp) (fun _ => rfl) (fun _ => by rw [hq]; exact qqi q (by omega)) ?_
  simp
  refine DLe.of_eq ?_
  simp [q4l, q5u, h, hq]
 ·refine q4 (ds := [.u64 (b.tmod 64)]) _ (by simp) (by simp) (fun _ => rfl) (fun _ => by rw [hq]; exact qqi q (by omega)) ?_
  simp
  refine ⟨powI_ne q (by omega), DLe.of_eq ?_⟩
  simp [q4l, q5u, h, hq]
 ·refine ⟨fun h => ⟨h, fun h' => ⟨h, h'⟩⟩, fun h => ?_, fun h => DLe.of_eq ?_, fun h h' => DLe.of_eq ?_⟩
  ·by_cases h10 : op = 10
   ·exact .inr (h h10)
   ·exact .inl h10
  ·simp only [q4l, if_neg h2, if_neg h3, if_neg h4, if_neg h5, if_neg h6, if_neg h7, if_neg h8, if_neg h9, if_pos h]
  ·simp only [q4l, if_neg h2, if_neg h3, if_neg h4, if_neg h5, if_neg h6, if_neg h7, if_neg h8, if_neg h9]
   rw [if_neg]
   rintro (⟨h1, k⟩ | ⟨h1, k⟩)
   ·have := h h1; omega
   ·exact h' h1 k

structure CallIn (m : Module) (fuel deep : Nat) (w : Wd) (name : ByteArray) (args : List Int) (n : Nat) (f : Func) : Prop where
 good : Good m fuel w
 pos : ∀ v ∈ args, 0 ≤ v
 n1 : 1 ≤ n
 nd : n ≤ deep
 found : q55 m name = some f
 has : 0 < f.blocks.length
 len : (args.length : Int) = f.params
def z81 (w : Wd) : List DV := [.bool w.ended, .u64 w.code, .str w.out, .int w.read, .int w.steps, .int w.deep]
@[simp] theorem traceC_length (x : Wd) : (z81 x).length = 6 := rfl
@[simp] theorem traceC_len? (x : Wd) : (z81 x)[6]? = none := rfl
@[simp] theorem traceC_map (w : Wd) : (z81 w).map AV.d = [.d (.bool w.ended), .d (.u64 w.code), .d (.str w.out), .d (.int w.read), .d (.int w.steps), .d (.int w.deep)] := rfl
def oneP (m : Module) (tag budget : Int) : Module := if tag = 1 then qxm m else if tag = 2 then z3q m else if tag = 3 then qax m else if tag = 4 then inlM m budget else m
def runP (m : Module) (tags : List Int) (budget : Int) : Module := tags.foldl (fun m t => oneP m t budget) m
def qd0 (t : Int) : Bool := decide (1 ≤ t) && decide (t ≤ 4)
def qbr (m : Module) (tags : List Int) : Int := if tags.length ≤ 16 ∧ tags.all qd0 = true then q65 m else 1
def sizeM (m : Module) : Nat := (m.funcs.map fun f => (f.blocks.map fun b => b.ins.length + 1).sum).sum
theorem qih {t : Int} : qd0 t = true ↔ t = 1 ∨ t = 2 ∨ t = 3 ∨ t = 4 := by
 unfold qd0
 simp only [Bool.and_eq_true, decide_eq_true_eq]
 omega
theorem z6s {m : Module} (h : ModOk m) (t budget : Int) : ModOk (oneP m t budget) := by
 unfold oneP
 repeat' split
 ·exact fold_ok h
 ·exact trim_ok h
 ·exact drop_ok h
 ·exact inl_ok h budget
 ·exact h
theorem qyn {budget : Int} : ∀ (tags : List Int) {m : Module}, ModOk m → ModOk (runP m tags budget)
 | [], _, h => h
 | t :: tags, m, h => qyn tags (z6s h t budget)
theorem qym (m : Module) (a b : List Int) (budget : Int) : runP m (a ++ b) budget = runP (runP m a budget) b budget := List.foldl_append
theorem qw8 {m : Module} {tags : List Int} {budget : Int} {k : Nat} (hk : k < tags.length) : runP m (tags.take (k + 1)) budget = oneP (runP m (tags.take k) budget) tags[k] budget := by
 rw [List.take_succ_eq_append_getElem hk, qym]
 rfl
def KOk' (m : Module) : Prop := ∀ f ∈ m.funcs, ∀ b ∈ f.blocks, ∀ i ∈ b.ins, i.k < 18446744073709551616
def qac : ACode :=
 (.seq (.reg [Ro 4 (.new [(.int .u64 0), (.bool false)])])
 (.seq (.seq (.reg [Ro 5 (Mv 1), Ro 6 (.bin .lss (Sv 5) (Ci 0)), Ro 7 (Mv 6), Rg 8 7 false (Mv 1), Rg 9 7 false (Mv 0), Rg 10 7 false (.len false (Sv 9)), Rg 11 7 false (.bin .geq (Sv 8) (Sv 10)), Ro 12 (.pick (Sv 7) (.c (.bool true)) (Sv 11))])
 (.cond (Sv 12)
 (.seq (.reg [Ro 13 (.bld [(.int .u64 0), (.bool false)] []), Rn (.st (Sv 4) (Sv 13) 2)])
 .ret)
 .skip))
 (.seq (.reg [Ro 14 (Mv 0), Ro 15 (Mv 1), Ro 16 (.idx true (Sv 14) (Sv 15) 2), Ro 17 (Lk 16 2), Rn (.st (Sv 4) (Sv 17) 2)])
 .ret)))
def qai : List ARes := [(.cell (sl 4) (some 2))]
theorem qja : (Tryz.f74).body.bind (q9 Tryz.prog 8 (Tryz.f74).ntmps [4] [] (drOk 8)) = some qac := by kernel_rfl
theorem qjd : qa Tryz.prog 8 (Tryz.f74).results.toList = some qai := by kernel_rfl
def q6i : ACode :=
 (.seq (.reg [Ro 1 (.box true (Sv 0)), Ro 2 (.mv (.c (.slice none 0 0)))])
 (.seq (.reg [Ro 3 (.mv (.c (.slice none 0 0)))])
 (.seq (.seq (.reg [Ro 4 (.mv (Ci 0))])
 (.block 0
 (.loop (.seq (.seq (.reg [Ro 10 (Mv 4), Ro 11 (Fd 1 0), Ro 12 (Ld 11), Ro 13 (.bin .lss (Sv 10) (Sv 12))])
 (.cond (Sv 13)
 .skip
 (.exit 0)))
 (.seq (.block 1
 (.reg [Ro 16 (Mv 3), Ro 17 (.bld [(.int .u64 0), (.bool false)] []), Ro 18 (.mksl 2 1 [(.int .u64 0), (.bool false)] [(0, 2, (Sv 17))]), Ro 19 (.app 112 2 16 (Sv 16) (Sv 18)), Ro 3 (Mv 19)]))
 (.reg [Ro 14 (Mv 4), Ro 15 (.bin .add (Sv 14) (Ci 1)), Ro 4 (Mv 15)]))))))
 (.seq (.seq (.reg [Ro 5 (.mv (Ci 0))])
 (.block 2
 (.loop (.seq (.seq (.reg [Ro 20 (Mv 5), Ro 21 (Fd 1 1), Ro 22 (Ld 21), Ro 23 (.len false (Sv 22)), Ro 24 (.bin .lss (Sv 20) (Sv 23))])
 (.cond (Sv 24)
 .skip
 (.exit 2)))
 (.seq (.block 3
 (.seq (.seq (.reg [Ro 27 (Fd 1 1), Ro 28 (Ld 27), Ro 29 (Mv 5), Ro 30 (.idx true (Sv 28) (Sv 29) 6), Ro 31 (Lk 30 6), Ro 6 (.new [(.int .i64 0), (.int .i64 0), (.int .i64 0), (.int .u64 0), (.string ⟨#[]⟩), (.slice none 0 0)]), Rn (.ini 1 (Sv 6) (Sv 31) 6)])
 (.frz (sl 6)))
 (.seq (.reg [Ro 32 (.bld [(.int .u64 0), (.bool false)] []), Ro 7 (.new [(.int .u64 0), (.bool false)]), Rn (.ini 1 (Sv 7) (Sv 32) 2)])
 (.seq (.seq (.reg [Ro 33 (Fd 6 0), Ro 34 (Ld 33), Ro 35 (.bin .eql (Sv 34) (Ci 1))])
 (.cond (Sv 35)
 (.reg [Ro 36 (Fd 6 3), Ro 37 (Ld 36), Ro 38 (.bld [(.int .u64 0), (.bool false)] [(0, 1, (Sv 37)), (1, 1, (.c (.bool true)))]), Rn (.st (Sv 7) (Sv 38) 2)])
 .skip))
 (.seq (.seq (.reg [Ro 39 (Mv 3), Ro 40 (Fd 6 1), Ro 41 (Ld 40), Ro 42 (.call false (.f 74) [Sv 39, Sv 41]), Ro 8 (.new [(.int .u64 0), (.bool false)]), Rn (.ini 1 (Sv 8) (Sv 42) 2)])
 (.frz (sl 8)))
 (.seq (.seq (.reg [Ro 43 (Mv 3), Ro 44 (Fd 6 2), Ro 45 (Ld 44), Ro 46 (.call false (.f 74) [Sv 43, Sv 45]), Ro 9 (.new [(.int .u64 0), (.bool false)]), Rn (.ini 1 (Sv 9) (Sv 46) 2)])
 (.frz (sl 9)))
 (.seq (.seq (.reg [Ro 47 (Fd 6 0), Ro 48 (Ld 47), Ro 49 (.bin .geq (Sv 48) (Ci 2)), Ro 50 (Mv 49), Rg 51 50 true (Fd 6 0), Rg 52 50 true (Ld 51), Rg 53 50 true (.bin .leq (Sv 52) (Ci 11)), Ro 54 (.pick (Sv 50) (Sv 53) (.c (.bool false))), Ro 55 (Mv 54), Rg 56 55 true (Fd 8 1), Rg 57 55 true (Ld 56), Ro 58 (.pick (Sv 55) (Sv 57) (.c (.bool false))), Ro 59 (Mv 58), Rg 60 59 true (Fd 9 1), Rg 61 59 true (Ld 60), Ro 62 (.pick (Sv 59) (Sv 61) (.c (.bool false)))])
 (.cond (Sv 62)
 (.reg [Ro 63 (Fd 6 0), Ro 64 (Ld 63), Ro 65 (Fd 8 0), Ro 66 (Ld 65), Ro 67 (Fd 9 0), Ro 68 (Ld 67), Ro 69 (.call true (.f 83) [Sv 64, Sv 66, Sv 68]), Ro 70 (.bld [(.int .u64 0), (.bool false)] [(0, 1, (Sv 69)), (1, 1, (.c (.bool true)))]), Rn (.st (Sv 7) (Sv 70) 2)])
 .skip))
 (.reg [Ro 71 (Mv 3), Ro 72 (.ld false (Sv 7) (some 2)), Ro 73 (.mksl 2 1 [(.int .u64 0), (.bool false)] [(0, 2, (Sv 72))]), Ro 74 (.app 112 2 16 (Sv 71) (Sv 73)), Ro 3 (Mv 74)]))))))))
 (.reg [Ro 25 (Mv 5), Ro 26 (.bin .add (Sv 25) (Ci 1)), Ro 5 (Mv 26)]))))))
 (.seq (.reg [Ro 75 (Mv 3), Ro 2 (Mv 75)])
 .ret)))))
def q6t : List ARes := [(.tmp (sl 2))]
theorem qcw : (Tryz.f73).body.bind (q9 Tryz.prog 8 (Tryz.f73).ntmps [2, 3, 7, 16, 19, 39, 43, 71, 72, 73, 74, 75] [] (drOk 8)) = some q6i := by kernel_rfl
theorem qd5 : qa Tryz.prog 8 (Tryz.f73).results.toList = some q6t := by kernel_rfl
def q7g : ACode :=
 (.seq (.reg [Ro 1 (.box true (Sv 0)), Ro 2 (.new [(.int .i64 0), (.slice none 0 0), (.int .i64 0), (.int .i64 0), (.int .i64 0), (.slice none 0 0), (.int .i64 0), (.slice none 0 0)])])
 (.seq (.reg [Ro 8 (Lk 1 8), Ro 9 (.call true (.f 73) [Sv 8]), Ro 3 (Mv 9)])
 (.seq (.reg [Ro 10 (Fd 1 0), Ro 11 (Ld 10), Ro 12 (Fd 1 2), Ro 13 (Lk 12 6), Ro 14 (.bld [(.int .i64 0), (.slice none 0 0), (.int .i64 0), (.int .i64 0), (.int .i64 0), (.slice none 0 0), (.int .i64 0), (.slice none 0 0)] [(0, 1, (Sv 11)), (2, 6, (Sv 13))]), Ro 4 (.new [(.int .i64 0), (.slice none 0 0), (.int .i64 0), (.int .i64 0), (.int .i64 0), (.slice none 0 0), (.int .i64 0), (.slice none 0 0)]), Rn (.ini 1 (Sv 4) (Sv 14) 8)])
 (.seq (.seq (.reg [Ro 5 (.mv (Ci 0))])
 (.block 0
 (.loop (.seq (.seq (.reg [Ro 15 (Mv 5), Ro 16 (Fd 1 1), Ro 17 (Ld 16), Ro 18 (.len false (Sv 17)), Ro 19 (.bin .lss (Sv 15) (Sv 18))])
 (.cond (Sv 19)
 .skip
 (.exit 0)))
 (.seq (.block 1
 (.seq (.seq (.reg [Ro 22 (Mv 3), Ro 23 (Mv 3), Ro 24 (.len false (Sv 23)), Ro 25 (Fd 1 1), Ro 26 (Ld 25), Ro 27 (.len false (Sv 26)), Ro 28 (.bin .sub (Sv 24) (Sv 27)), Ro 29 (Mv 5), Ro 30 (.bin .add (Sv 28) (Sv 29)), Ro 31 (.idx true (Sv 22) (Sv 30) 2), Ro 32 (Lk 31 2), Ro 6 (.new [(.int .u64 0), (.bool false)]), Rn (.ini 1 (Sv 6) (Sv 32) 2)])
 (.frz (sl 6)))
 (.seq (.reg [Ro 33 (Fd 6 1), Ro 34 (Ld 33)])
 (.cond (Sv 34)
 (.reg [Ro 35 (Fd 4 1), Ro 36 (.ld false (Sv 35) none), Ro 37 (Fd 6 0), Ro 38 (Ld 37), Ro 39 (.bld [(.int .i64 0), (.int .i64 0), (.int .i64 0), (.int .u64 0), (.string ⟨#[]⟩), (.slice none 0 0)] [(0, 1, (Ci 1)), (3, 1, (Sv 38))]), Ro 40 (.mksl 6 1 [(.int .i64 0), (.int .i64 0), (.int .i64 0), (.int .u64 0), (.string ⟨#[]⟩), (.slice none 0 0)] [(0, 6, (Sv 39))]), Ro 41 (.app 53 6 72 (Sv 36) (Sv 40)), Ro 42 (Fd 4 1), Rn (.st (Sv 42) (Sv 41) 1)])
 (.reg [Rl 43 (Fd 4 1) 0, Rl 44 (.ld false (Sv 43) none) 1, Rl 45 (Fd 1 1) 2, Rl 46 (Ld 45) 3, Rl 47 (Mv 5) 4, Rl 48 (.idx true (Sv 46) (Sv 47) 6) 5, Rl 49 (Lk 48 6) 6, Rl 50 (.mksl 6 1 [(.int .i64 0), (.int .i64 0), (.int .i64 0), (.int .u64 0), (.string ⟨#[]⟩), (.slice none 0 0)] [(0, 6, (Sv 49))]) 7, Rl 51 (.app 53 6 72 (Sv 44) (Sv 50)) 8, Rl 52 (Fd 4 1) 9, ⟨none, none, (.st (Sv 52) (Sv 51) 1), (some (10, []))⟩])))))
 (.reg [Ro 20 (Mv 5), Ro 21 (.bin .add (Sv 20) (Ci 1)), Ro 5 (Mv 21)]))))))
 (.seq (.seq (.reg [Ro 53 (Mv 3), Ro 54 (Fd 1 2), Ro 55 (Fd 54 1), Ro 56 (Ld 55), Ro 57 (.call true (.f 74) [Sv 53, Sv 56]), Ro 7 (.new [(.int .u64 0), (.bool false)]), Rn (.ini 1 (Sv 7) (Sv 57) 2)])
 (.frz (sl 7)))
 (.seq (.seq (.reg [Ro 58 (Fd 1 2), Ro 59 (Fd 58 0), Ro 60 (Ld 59), Ro 61 (.bin .eql (Sv 60) (Ci 2)), Ro 62 (Mv 61), Rg 63 62 true (Fd 7 1), Rg 64 62 true (Ld 63), Ro 65 (.pick (Sv 62) (Sv 64) (.c (.bool false))), Ro 66 (Mv 65), Rg 67 66 true (Fd 7 0), Rg 68 66 true (Ld 67), Rg 69 66 true (.bin .neq (Sv 68) (.c (.int .u64 0))), Ro 70 (.pick (Sv 66) (Sv 69) (.c (.bool false)))])
 (.cond (Sv 70)
 (.reg [Ro 71 (Fd 1 2), Ro 72 (Fd 71 2), Ro 73 (Ld 72), Ro 74 (Fd 1 2), Ro 75 (Fd 74 3), Ro 76 (Ld 75), Ro 77 (.bld [(.int .i64 0), (.int .i64 0), (.int .i64 0), (.slice none 0 0), (.int .i64 0), (.slice none 0 0)] [(0, 1, (Ci 1)), (2, 1, (Sv 73)), (3, 1, (Sv 76))]), Ro 78 (Fd 4 2), Rn (.st (Sv 78) (Sv 77) 6)])
 .skip))
 (.seq (.seq (.reg [Ro 79 (Fd 1 2), Ro 80 (Fd 79 0), Ro 81 (Ld 80), Ro 82 (.bin .eql (Sv 81) (Ci 2)), Ro 83 (Mv 82), Rg 84 83 true (Fd 7 1), Rg 85 83 true (Ld 84), Ro 86 (.pick (Sv 83) (Sv 85) (.c (.bool false))), Ro 87 (Mv 86), Rg 88 87 true (Fd 7 0), Rg 89 87 true (Ld 88), Rg 90 87 true (.bin .eql (Sv 89) (.c (.int .u64 0))), Ro 91 (.pick (Sv 87) (Sv 90) (.c (.bool false)))])
 (.cond (Sv 91)
 (.reg [Ro 92 (Fd 1 2), Ro 93 (Fd 92 4), Ro 94 (Ld 93), Ro 95 (Fd 1 2), Ro 96 (Fd 95 5), Ro 97 (Ld 96), Ro 98 (.bld [(.int .i64 0), (.int .i64 0), (.int .i64 0), (.slice none 0 0), (.int .i64 0), (.slice none 0 0)] [(0, 1, (Ci 1)), (2, 1, (Sv 94)), (3, 1, (Sv 97))]), Ro 99 (Fd 4 2), Rn (.st (Sv 99) (Sv 98) 6)])
 .skip))
 (.seq (.reg [Ro 100 (.ld false (Sv 4) (some 8)), Rn (.st (Sv 2) (Sv 100) 8)])
 .ret))))))))
def q7t : List ARes := [(.cell (sl 2) (some 8))]
theorem qdx : (Tryz.f44).body.bind (q9 Tryz.prog 8 (Tryz.f44).ntmps [2, 4, 35, 36, 41, 42, 43, 44, 51, 52, 78, 99, 100] [] (drOk 8)) = some q7g := by kernel_rfl
theorem qea : qa Tryz.prog 8 (Tryz.f44).results.toList = some q7t := by kernel_rfl
def q6h : ACode :=
 (.seq (.reg [Ro 1 (.box true (Sv 0)), Ro 2 (.new [(.slice none 0 0), (.slice none 0 0)])])
 (.seq (.reg [Ro 8 (Fd 1 1), Ro 9 (Ld 8), Ro 10 (.bld [(.slice none 0 0), (.slice none 0 0)] [(1, 1, (Sv 9))]), Ro 3 (.new [(.slice none 0 0), (.slice none 0 0)]), Rn (.ini 1 (Sv 3) (Sv 10) 2)])
 (.seq (.seq (.reg [Ro 4 (.mv (Ci 0))])
 (.block 0
 (.loop (.seq (.seq (.reg [Ro 11 (Mv 4), Ro 12 (Fd 1 0), Ro 13 (Ld 12), Ro 14 (.len false (Sv 13)), Ro 15 (.bin .lss (Sv 11) (Sv 14))])
 (.cond (Sv 15)
 .skip
 (.exit 0)))
 (.seq (.block 1
 (.seq (.seq (.reg [Ro 18 (Fd 1 0), Ro 19 (Ld 18), Ro 20 (Mv 4), Ro 21 (.idx true (Sv 19) (Sv 20) 4), Ro 22 (Lk 21 4), Ro 5 (.new [(.string ⟨#[]⟩), (.int .i64 0), (.int .i64 0), (.slice none 0 0)]), Rn (.ini 1 (Sv 5) (Sv 22) 4)])
 (.frz (sl 5)))
 (.seq (.reg [Ro 23 (Fd 5 0), Ro 24 (Ld 23), Ro 25 (Fd 5 1), Ro 26 (Ld 25), Ro 27 (Fd 5 2), Ro 28 (Ld 27), Ro 29 (.bld [(.string ⟨#[]⟩), (.int .i64 0), (.int .i64 0), (.slice none 0 0)] [(0, 1, (Sv 24)), (1, 1, (Sv 26)), (2, 1, (Sv 28))]), Ro 6 (.new [(.string ⟨#[]⟩), (.int .i64 0), (.int .i64 0), (.slice none 0 0)]), Rn (.ini 1 (Sv 6) (Sv 29) 4)])
 (.seq (.seq (.reg [Ro 7 (.mv (Ci 0))])
 (.block 2
 (.loop (.seq (.seq (.reg [Ro 30 (Mv 7), Ro 31 (Fd 5 3), Ro 32 (Ld 31), Ro 33 (.len false (Sv 32)), Ro 34 (.bin .lss (Sv 30) (Sv 33))])
 (.cond (Sv 34)
 .skip
 (.exit 2)))
 (.seq (.block 3
 (.reg [Rl 37 (Fd 6 3) 0, Rl 38 (.ld false (Sv 37) none) 1, Rl 39 (Fd 5 3) 2, Rl 40 (Ld 39) 3, Rl 41 (Mv 7) 4, Rl 42 (.idx true (Sv 40) (Sv 41) 8) 5, Rl 43 (Lk 42 8) 6, Rl 44 (.call true (.f 44) [Sv 43]) 7, Rl 45 (.mksl 8 1 [(.int .i64 0), (.slice none 0 0), (.int .i64 0), (.int .i64 0), (.int .i64 0), (.slice none 0 0), (.int .i64 0), (.slice none 0 0)] [(0, 8, (Sv 44))]) 8, Rl 46 (.app 58 8 112 (Sv 38) (Sv 45)) 9, Rl 47 (Fd 6 3) 10, ⟨none, none, (.st (Sv 47) (Sv 46) 1), (some (11, []))⟩]))
 (.reg [Ro 35 (Mv 7), Ro 36 (.bin .add (Sv 35) (Ci 1)), Ro 7 (Mv 36)]))))))
 (.seq (.frz (sl 6))
 (.reg [Ro 48 (Fd 3 0), Ro 49 (.ld false (Sv 48) none), Ro 50 (.ld false (Sv 6) (some 4)), Ro 51 (.mksl 4 1 [(.string ⟨#[]⟩), (.int .i64 0), (.int .i64 0), (.slice none 0 0)] [(0, 4, (Sv 50))]), Ro 52 (.app 61 4 56 (Sv 49) (Sv 51)), Ro 53 (Fd 3 0), Rn (.st (Sv 53) (Sv 52) 1)]))))))
 (.reg [Ro 16 (Mv 4), Ro 17 (.bin .add (Sv 16) (Ci 1)), Ro 4 (Mv 17)]))))))
 (.seq (.reg [Ro 54 (.ld false (Sv 3) (some 2)), Rn (.st (Sv 2) (Sv 54) 2)])
 .ret))))
def q6s : List ARes := [(.cell (sl 2) (some 2))]
theorem qcv : (Tryz.f26).body.bind (q9 Tryz.prog 8 (Tryz.f26).ntmps [2, 3, 6, 37, 38, 46, 47, 48, 49, 50, 51, 52, 53, 54] [(4000006, 0, 1)] (drOk 8)) = some q6h := by kernel_rfl
theorem qd4 : qa Tryz.prog 8 (Tryz.f26).results.toList = some q6s := by kernel_rfl
def q8m : ACode :=
 (.seq (.reg [Ro 1 (.box true (Sv 0)), Ro 2 (.mv (.c (.bool false)))])
 (.seq (.reg [Ro 3 (Fd 1 0), Ro 4 (Ld 3), Ro 5 (.bin .eql (Sv 4) (Ci 13)), Ro 6 (Mv 5), Rg 7 6 false (Fd 1 0), Rg 8 6 false (Ld 7), Rg 9 6 false (.bin .eql (Sv 8) (Ci 14)), Ro 10 (.pick (Sv 6) (.c (.bool true)) (Sv 9)), Ro 11 (Mv 10), Rg 12 11 false (Fd 1 0), Rg 13 11 false (Ld 12), Rg 14 11 false (.bin .eql (Sv 13) (Ci 15)), Ro 15 (.pick (Sv 11) (.c (.bool true)) (Sv 14)), Ro 16 (Mv 15), Rg 17 16 false (Fd 1 0), Rg 18 16 false (Ld 17), Rg 19 16 false (.bin .eql (Sv 18) (Ci 16)), Ro 20 (.pick (Sv 16) (.c (.bool true)) (Sv 19)), Ro 2 (Mv 20)])
 .ret))
def q9c : List ARes := [(.tmp (sl 2))]
theorem qfq : (Tryz.f104).body.bind (q9 Tryz.prog 8 (Tryz.f104).ntmps [] [] (drOk 8)) = some q8m := by kernel_rfl
theorem qg8 : qa Tryz.prog 8 (Tryz.f104).results.toList = some q9c := by kernel_rfl
def q9q : ACode :=
 (.seq (.reg [Ro 4 (.mv (.c (.bool false)))])
 (.seq (.seq (.reg [Ro 5 (.mv (Ci 0))])
 (.block 0
 (.loop (.seq (.seq (.reg [Ro 6 (Mv 5), Ro 7 (Mv 0), Ro 8 (.len false (Sv 7)), Ro 9 (.bin .lss (Sv 6) (Sv 8))])
 (.cond (Sv 9)
 .skip
 (.exit 0)))
 (.seq (.block 1
 (.seq (.reg [Ro 12 (Mv 0), Ro 13 (Mv 5), Ro 14 (.idx true (Sv 12) (Sv 13) 1), Ro 15 (Ld 14), Ro 16 (Mv 1), Ro 17 (.bin .eql (Sv 15) (Sv 16))])
 (.cond (Sv 17)
 (.seq (.reg [Ro 4 (.mv (.c (.bool true)))])
 .ret)
 .skip)))
 (.reg [Ro 10 (Mv 5), Ro 11 (.bin .add (Sv 10) (Ci 1)), Ro 5 (Mv 11)]))))))
 (.seq (.reg [Ro 4 (.mv (.c (.bool false)))])
 .ret)))
def q9w : List ARes := [(.tmp (sl 4))]
theorem qid : (Tryz.f128).body.bind (q9 Tryz.prog 8 (Tryz.f128).ntmps [] [] (drOk 8)) = some q9q := by kernel_rfl
theorem qil : qa Tryz.prog 8 (Tryz.f128).results.toList = some q9w := by kernel_rfl
def q8o : ACode :=
 (.seq (.reg [Ro 1 (.box true (Sv 0)), Ro 2 (.mv (.c (.slice none 0 0)))])
 (.seq (.reg [Ro 12 (Fd 1 0), Ro 13 (Ld 12), Ro 14 (Fd 1 1), Ro 15 (Ld 14), Ro 16 (.len false (Sv 15)), Ro 17 (.bin .add (Sv 13) (Sv 16)), Ro 3 (Mv 17)])
 (.seq (.reg [Ro 18 (Mv 3), Ro 19 (.vop 3 4 1 1 (Sv 18) (.c (.agg #[(.bool false)]))), Ro 4 (Mv 19)])
 (.seq (.seq (.reg [Ro 5 (.mv (Ci 0))])
 (.block 0
 (.loop (.seq (.seq (.reg [Ro 20 (Mv 5), Ro 21 (Mv 3), Ro 22 (.bin .lss (Sv 20) (Sv 21))])
 (.cond (Sv 22)
 .skip
 (.exit 0)))
 (.seq (.block 1
 (.seq (.reg [Ro 25 (Fd 1 2), Ro 26 (Fd 25 3), Ro 27 (Ld 26), Ro 28 (Mv 5), Ro 29 (.call true (.f 128) [Sv 27, Sv 28]), Ro 6 (Mv 29)])
 (.seq (.reg [Ro 30 (Fd 1 2), Ro 31 (Fd 30 5), Ro 32 (Ld 31), Ro 33 (Mv 5), Ro 34 (.call true (.f 128) [Sv 32, Sv 33]), Ro 7 (Mv 34)])
 (.reg [Ro 35 (Mv 4), Ro 36 (Mv 5), Ro 37 (Mv 6), Ro 38 (Mv 37), Rg 39 38 false (Mv 7), Ro 40 (.pick (Sv 38) (.c (.bool true)) (Sv 39)), Ro 41 (Mv 40), Rg 42 41 false (Fd 1 2), Rg 43 41 false (Fd 42 0), Rg 44 41 false (Ld 43), Rg 45 41 false (.bin .neq (Sv 44) (Ci 1)), Rg 46 41 false (Mv 45), Rg 47 46 true (Fd 1 2), Rg 48 46 true (Fd 47 1), Rg 49 46 true (Ld 48), Rg 50 46 true (Mv 5), Rg 51 46 true (.bin .eql (Sv 49) (Sv 50)), Rg 52 41 false (.pick (Sv 46) (Sv 51) (.c (.bool false))), Ro 53 (.pick (Sv 41) (.c (.bool true)) (Sv 52)), Ro 54 (.idx false (Sv 35) (Sv 36) 1), Rn (.st (Sv 54) (Sv 53) 1)]))))
 (.reg [Ro 23 (Mv 5), Ro 24 (.bin .add (Sv 23) (Ci 1)), Ro 5 (Mv 24)]))))))
 (.seq (.seq (.reg [Ro 55 (Fd 1 1), Ro 56 (Ld 55), Ro 57 (.len false (Sv 56)), Ro 58 (.bin .sub (Sv 57) (Ci 1)), Ro 8 (Mv 58)])
 (.block 2
 (.loop (.seq (.seq (.reg [Ro 59 (Mv 8), Ro 60 (.bin .geq (Sv 59) (Ci 0))])
 (.cond (Sv 60)
 .skip
 (.exit 2)))
 (.seq (.block 3
 (.seq (.reg [Ro 63 (Fd 1 1), Ro 64 (Ld 63), Ro 65 (Mv 8), Ro 66 (.idx true (Sv 64) (Sv 65) 6), Ro 67 (Lk 66 6), Ro 68 (.call true (.f 104) [Sv 67]), Ro 9 (Mv 68)])
 (.seq (.seq (.reg [Ro 69 (Mv 9), Ro 70 (.not (Sv 69)), Ro 71 (Mv 70), Rg 72 71 true (Mv 4), Rg 73 71 true (Fd 1 0), Rg 74 71 true (Ld 73), Rg 75 71 true (Mv 8), Rg 76 71 true (.bin .add (Sv 74) (Sv 75)), Rg 77 71 true (.idx false (Sv 72) (Sv 76) 1), Rg 78 71 true (.ld false (Sv 77) none), Rg 79 71 true (.not (Sv 78)), Ro 80 (.pick (Sv 71) (Sv 79) (.c (.bool false)))])
 (.cond (Sv 80)
 (.exit 3)
 .skip))
 (.seq (.reg [Ro 81 (Fd 1 1), Ro 82 (Ld 81), Ro 83 (Mv 8), Ro 84 (.idx true (Sv 82) (Sv 83) 6), Ro 85 (Lk 84 6), Ro 86 (.call true (.f 85) [Sv 85]), Ro 10 (Mv 86)])
 (.seq (.reg [Ro 11 (.mv (Ci 0))])
 (.block 4
 (.loop (.seq (.seq (.reg [Ro 87 (Mv 11), Ro 88 (Mv 10), Ro 89 (.len false (Sv 88)), Ro 90 (.bin .lss (Sv 87) (Sv 89))])
 (.cond (Sv 90)
 .skip
 (.exit 4)))
 (.seq (.block 5
 (.reg [Ro 93 (Mv 4), Ro 94 (Mv 10), Ro 95 (Mv 11), Ro 96 (.idx true (Sv 94) (Sv 95) 1), Ro 97 (Ld 96), Ro 98 (.idx false (Sv 93) (Sv 97) 1), Rn (.st (Sv 98) (.c (.bool true)) 1)]))
 (.reg [Ro 91 (Mv 11), Ro 92 (.bin .add (Sv 91) (Ci 1)), Ro 11 (Mv 92)]))))))))))
 (.reg [Ro 61 (Mv 8), Ro 62 (.bin .sub (Sv 61) (Ci 1)), Ro 8 (Mv 62)]))))))
 (.seq (.reg [Ro 99 (Mv 4), Ro 2 (Mv 99)])
 .ret))))))
def q9e : List ARes := [(.tmp (sl 2))]
theorem qfs : (Tryz.f103).body.bind (q9 Tryz.prog 8 (Tryz.f103).ntmps [2, 4, 19, 35, 54, 72, 77, 78, 93, 98, 99] [(6000019, 0, 1)] (drOk 8)) = some q8o := by kernel_rfl
theorem qga : qa Tryz.prog 8 (Tryz.f103).results.toList = some q9e := by kernel_rfl
def q6k : ACode :=
 (.seq (.reg [Ro 4 (.mv (Ci 0))])
 (.seq (.reg [Ro 5 (.mv (Ci 0))])
 (.seq (.seq (.reg [Ro 6 (.mv (Ci 0))])
 (.block 0
 (.loop (.seq (.seq (.reg [Ro 7 (Mv 6), Ro 8 (Mv 1), Ro 9 (.bin .lss (Sv 7) (Sv 8))])
 (.cond (Sv 9)
 .skip
 (.exit 0)))
 (.seq (.block 1
 (.seq (.reg [Ro 12 (Mv 0), Ro 13 (Mv 6), Ro 14 (.idx true (Sv 12) (Sv 13) 1), Ro 15 (Ld 14)])
 (.cond (Sv 15)
 (.reg [Ro 16 (Mv 5), Ro 17 (.bin .add (Sv 16) (Ci 1)), Ro 5 (Mv 17)])
 .skip)))
 (.reg [Ro 10 (Mv 6), Ro 11 (.bin .add (Sv 10) (Ci 1)), Ro 6 (Mv 11)]))))))
 (.seq (.reg [Ro 18 (Mv 5), Ro 4 (Mv 18)])
 .ret))))
def q6v : List ARes := [(.tmp (sl 4))]
theorem qcy : (Tryz.f77).body.bind (q9 Tryz.prog 8 (Tryz.f77).ntmps [] [] (drOk 8)) = some q6k := by kernel_rfl
theorem qd7 : qa Tryz.prog 8 (Tryz.f77).results.toList = some q6v := by kernel_rfl
def q5y : ACode :=
 (.seq (.reg [Ro 4 (.mv (.c (.slice none 0 0)))])
 (.seq (.reg [Ro 5 (.mv (.c (.slice none 0 0)))])
 (.seq (.seq (.reg [Ro 6 (.mv (Ci 0))])
 (.block 0
 (.loop (.seq (.seq (.reg [Ro 7 (Mv 6), Ro 8 (Mv 1), Ro 9 (.len false (Sv 8)), Ro 10 (.bin .lss (Sv 7) (Sv 9))])
 (.cond (Sv 10)
 .skip
 (.exit 0)))
 (.seq (.block 1
 (.reg [Ro 13 (Mv 5), Ro 14 (Mv 0), Ro 15 (Mv 1), Ro 16 (Mv 6), Ro 17 (.idx true (Sv 15) (Sv 16) 1), Ro 18 (Ld 17), Ro 19 (.call true (.f 77) [Sv 14, Sv 18]), Ro 20 (.mksl 1 1 [(.int .i64 0)] [(0, 1, (Sv 19))]), Ro 21 (.app 3 1 8 (Sv 13) (Sv 20)), Ro 5 (Mv 21)]))
 (.reg [Ro 11 (Mv 6), Ro 12 (.bin .add (Sv 11) (Ci 1)), Ro 6 (Mv 12)]))))))
 (.seq (.reg [Ro 22 (Mv 5), Ro 4 (Mv 22)])
 .ret))))
def q64 : List ARes := [(.tmp (sl 4))]
theorem qbv : (Tryz.f105).body.bind (q9 Tryz.prog 8 (Tryz.f105).ntmps [4, 5, 13, 21, 22] [] (drOk 8)) = some q5y := by kernel_rfl
theorem qc0 : qa Tryz.prog 8 (Tryz.f105).results.toList = some q64 := by kernel_rfl
def q7h : ACode :=
 (.seq (.reg [Ro 1 (.box true (Sv 0)), Ro 2 (.new [(.int .i64 0), (.slice none 0 0), (.int .i64 0), (.int .i64 0), (.int .i64 0), (.slice none 0 0), (.int .i64 0), (.slice none 0 0)])])
 (.seq (.reg [Ro 10 (Lk 1 8), Ro 11 (.callv 4 1 (.f 103) [Sv 10]), Ro 3 (Mv 11)])
 (.seq (.seq (.reg [Ro 4 (.mv (Ci 0))])
 (.block 0
 (.loop (.seq (.seq (.reg [Ro 12 (Mv 4), Ro 13 (Fd 1 0), Ro 14 (Ld 13), Ro 15 (.bin .lss (Sv 12) (Sv 14))])
 (.cond (Sv 15)
 .skip
 (.exit 0)))
 (.seq (.block 1
 (.reg [Ro 18 (Mv 3), Ro 19 (Mv 4), Ro 20 (.idx false (Sv 18) (Sv 19) 1), Rn (.st (Sv 20) (.c (.bool true)) 1)]))
 (.reg [Ro 16 (Mv 4), Ro 17 (.bin .add (Sv 16) (Ci 1)), Ro 4 (Mv 17)]))))))
 (.seq (.seq (.reg [Ro 5 (.mv (Ci 0))])
 (.block 2
 (.loop (.seq (.seq (.reg [Ro 21 (Mv 5), Ro 22 (Fd 1 1), Ro 23 (Ld 22), Ro 24 (.len false (Sv 23)), Ro 25 (.bin .lss (Sv 21) (Sv 24))])
 (.cond (Sv 25)
 .skip
 (.exit 2)))
 (.seq (.block 3
 (.seq (.reg [Ro 28 (Fd 1 1), Ro 29 (Ld 28), Ro 30 (Mv 5), Ro 31 (.idx true (Sv 29) (Sv 30) 6), Ro 32 (Lk 31 6), Ro 33 (.call true (.f 104) [Sv 32]), Ro 6 (Mv 33)])
 (.reg [Rl 34 (Mv 3) 0, Rl 35 (Fd 1 0) 1, Rl 36 (Ld 35) 2, Rl 37 (Mv 5) 3, Rl 38 (.bin .add (Sv 36) (Sv 37)) 4, Rl 39 (Mv 3) 5, Rl 40 (Fd 1 0) 6, Rl 41 (Ld 40) 7, Rl 42 (Mv 5) 8, Rl 43 (.bin .add (Sv 41) (Sv 42)) 9, Rl 44 (.idx false (Sv 39) (Sv 43) 1) 10, Rl 45 (.ld false (Sv 44) none) 11, Rl 46 (Mv 45) 12, Rh 47 46 false (Mv 6) 13, Rl 48 (.pick (Sv 46) (.c (.bool true)) (Sv 47)) 14, Rl 49 (.idx false (Sv 34) (Sv 38) 1) 15, ⟨none, none, (.st (Sv 49) (Sv 48) 1), (some (16, []))⟩])))
 (.reg [Ro 26 (Mv 5), Ro 27 (.bin .add (Sv 26) (Ci 1)), Ro 5 (Mv 27)]))))))
 (.seq (.reg [Ro 50 (Fd 1 0), Ro 51 (Ld 50), Ro 52 (Fd 1 2), Ro 53 (Lk 52 6), Ro 54 (.bld [(.int .i64 0), (.slice none 0 0), (.int .i64 0), (.int .i64 0), (.int .i64 0), (.slice none 0 0), (.int .i64 0), (.slice none 0 0)] [(0, 1, (Sv 51)), (2, 6, (Sv 53))]), Ro 7 (.new [(.int .i64 0), (.slice none 0 0), (.int .i64 0), (.int .i64 0), (.int .i64 0), (.slice none 0 0), (.int .i64 0), (.slice none 0 0)]), Rn (.ini 1 (Sv 7) (Sv 54) 8)])
 (.seq (.seq (.reg [Ro 8 (.mv (Ci 0))])
 (.block 4
 (.loop (.seq (.seq (.reg [Ro 55 (Mv 8), Ro 56 (Fd 1 1), Ro 57 (Ld 56), Ro 58 (.len false (Sv 57)), Ro 59 (.bin .lss (Sv 55) (Sv 58))])
 (.cond (Sv 59)
 .skip
 (.exit 4)))
 (.seq (.block 5
 (.seq (.seq (.reg [Ro 62 (Mv 3), Ro 63 (Fd 1 0), Ro 64 (Ld 63), Ro 65 (Mv 8), Ro 66 (.bin .add (Sv 64) (Sv 65)), Ro 67 (.idx false (Sv 62) (Sv 66) 1), Ro 68 (.ld false (Sv 67) none), Ro 69 (.not (Sv 68))])
 (.cond (Sv 69)
 (.exit 5)
 .skip))
 (.seq (.reg [Ro 70 (Fd 1 1), Ro 71 (Ld 70), Ro 72 (Mv 8), Ro 73 (.idx true (Sv 71) (Sv 72) 6), Ro 74 (Lk 73 6), Ro 9 (.new [(.int .i64 0), (.int .i64 0), (.int .i64 0), (.int .u64 0), (.string ⟨#[]⟩), (.slice none 0 0)]), Rn (.ini 1 (Sv 9) (Sv 74) 6)])
 (.seq (.seq (.reg [Ro 75 (Fd 9 0), Ro 76 (.ld false (Sv 75) none), Ro 77 (.bin .geq (Sv 76) (Ci 2)), Ro 78 (Mv 77), Rg 79 78 true (Fd 9 0), Rg 80 78 true (.ld false (Sv 79) none), Rg 81 78 true (.bin .leq (Sv 80) (Ci 11)), Ro 82 (.pick (Sv 78) (Sv 81) (.c (.bool false))), Ro 83 (Mv 82), Rg 84 83 false (Fd 9 0), Rg 85 83 false (.ld false (Sv 84) none), Rg 86 83 false (.bin .eql (Sv 85) (Ci 13)), Ro 87 (.pick (Sv 83) (.c (.bool true)) (Sv 86)), Ro 88 (Mv 87), Rg 89 88 false (Fd 9 0), Rg 90 88 false (.ld false (Sv 89) none), Rg 91 88 false (.bin .eql (Sv 90) (Ci 16)), Ro 92 (.pick (Sv 88) (.c (.bool true)) (Sv 91))])
 (.cond (Sv 92)
 (.reg [Ro 93 (Mv 3), Ro 94 (Fd 9 1), Ro 95 (.ld false (Sv 94) none), Ro 96 (.call false (.f 77) [Sv 93, Sv 95]), Ro 97 (Fd 9 1), Rn (.st (Sv 97) (Sv 96) 1)])
 .skip))
 (.seq (.seq (.reg [Ro 98 (Fd 9 0), Ro 99 (.ld false (Sv 98) none), Ro 100 (.bin .geq (Sv 99) (Ci 2)), Ro 101 (Mv 100), Rg 102 101 true (Fd 9 0), Rg 103 101 true (.ld false (Sv 102) none), Rg 104 101 true (.bin .leq (Sv 103) (Ci 11)), Ro 105 (.pick (Sv 101) (Sv 104) (.c (.bool false)))])
 (.cond (Sv 105)
 (.reg [Ro 106 (Mv 3), Ro 107 (Fd 9 2), Ro 108 (.ld false (Sv 107) none), Ro 109 (.call false (.f 77) [Sv 106, Sv 108]), Ro 110 (Fd 9 2), Rn (.st (Sv 110) (Sv 109) 1)])
 .skip))
 (.seq (.reg [Ro 111 (Mv 3), Ro 112 (Fd 9 5), Ro 113 (.ld false (Sv 112) none), Ro 114 (.call false (.f 105) [Sv 111, Sv 113]), Ro 115 (Fd 9 5), Rn (.st (Sv 115) (Sv 114) 1)])
 (.reg [Ro 116 (Fd 7 1), Ro 117 (.ld false (Sv 116) none), Ro 118 (.ld false (Sv 9) (some 6)), Ro 119 (.mksl 6 1 [(.int .i64 0), (.int .i64 0), (.int .i64 0), (.int .u64 0), (.string ⟨#[]⟩), (.slice none 0 0)] [(0, 6, (Sv 118))]), Ro 120 (.app 53 6 72 (Sv 117) (Sv 119)), Ro 121 (Fd 7 1), Rn (.st (Sv 121) (Sv 120) 1)])))))))
 (.reg [Ro 60 (Mv 8), Ro 61 (.bin .add (Sv 60) (Ci 1)), Ro 8 (Mv 61)]))))))
 (.seq (.reg [Ro 122 (Mv 3), Ro 123 (Fd 1 2), Ro 124 (Fd 123 3), Ro 125 (Ld 124), Ro 126 (.call false (.f 105) [Sv 122, Sv 125]), Ro 127 (Fd 7 2), Ro 128 (Fd 127 3), Rn (.st (Sv 128) (Sv 126) 1)])
 (.seq (.reg [Ro 129 (Mv 3), Ro 130 (Fd 1 2), Ro 131 (Fd 130 5), Ro 132 (Ld 131), Ro 133 (.call false (.f 105) [Sv 129, Sv 132]), Ro 134 (Fd 7 2), Ro 135 (Fd 134 5), Rn (.st (Sv 135) (Sv 133) 1)])
 (.seq (.seq (.reg [Ro 136 (Fd 1 2), Ro 137 (Fd 136 0), Ro 138 (Ld 137), Ro 139 (.bin .neq (Sv 138) (Ci 1))])
 (.cond (Sv 139)
 (.reg [Ro 140 (Mv 3), Ro 141 (Fd 1 2), Ro 142 (Fd 141 1), Ro 143 (Ld 142), Ro 144 (.call false (.f 77) [Sv 140, Sv 143]), Ro 145 (Fd 7 2), Ro 146 (Fd 145 1), Rn (.st (Sv 146) (Sv 144) 1)])
 .skip))
 (.seq (.reg [Ro 147 (.ld false (Sv 7) (some 8)), Rn (.st (Sv 2) (Sv 147) 8)])
 .ret))))))))))
def q7u : List ARes := [(.cell (sl 2) (some 8))]
theorem qdy : (Tryz.f76).body.bind (q9 Tryz.prog 8 (Tryz.f76).ntmps [2, 3, 7, 9, 11, 18, 20, 34, 39, 44, 45, 46, 48, 49, 62, 67, 68, 75, 76, 79, 80, 84, 85, 89, 90, 93, 94, 95, 97, 98, 99, 102, 103, 106, 107, 108, 110, 111, 112, 113, 115, 116, 117, 118, 119, 120, 121, 122, 127, 128, 129, 134, 135, 140, 145, 146, 147] [(103, 4, 1001)] (drOk 8)) = some q7h := by kernel_rfl
theorem qeb : qa Tryz.prog 8 (Tryz.f76).results.toList = some q7u := by kernel_rfl
def q5x : ACode :=
 (.seq (.reg [Ro 1 (.box true (Sv 0)), Ro 2 (.mv (.c (.slice none 0 0)))])
 (.seq (.reg [Ro 7 (Fd 1 3), Ro 8 (Ld 7), Ro 9 (.len false (Sv 8)), Ro 10 (.vop 3 4 1 1 (Sv 9) (.c (.agg #[(.bool false)]))), Ro 3 (Mv 10)])
 (.seq (.seq (.reg [Ro 4 (.mv (Ci 0))])
 (.block 0
 (.loop (.seq (.seq (.reg [Ro 11 (Mv 4), Ro 12 (Fd 1 3), Ro 13 (Ld 12), Ro 14 (.len false (Sv 13)), Ro 15 (.bin .lss (Sv 11) (Sv 14))])
 (.cond (Sv 15)
 .skip
 (.exit 0)))
 (.seq (.block 1
 (.seq (.reg [Ro 18 (Mv 3), Ro 19 (.idx false (Sv 18) (Ci 0) 1), Rn (.st (Sv 19) (.c (.bool true)) 1)])
 (.seq (.reg [Ro 5 (.mv (Ci 0))])
 (.block 2
 (.loop (.seq (.seq (.reg [Ro 20 (Mv 5), Ro 21 (Fd 1 3), Ro 22 (Ld 21), Ro 23 (.len false (Sv 22)), Ro 24 (.bin .lss (Sv 20) (Sv 23))])
 (.cond (Sv 24)
 .skip
 (.exit 2)))
 (.seq (.block 3
 (.seq (.seq (.reg [Ro 27 (Fd 1 3), Ro 28 (Ld 27), Ro 29 (Mv 5), Ro 30 (.idx true (Sv 28) (Sv 29) 8), Ro 31 (Fd 30 2), Ro 32 (Lk 31 6), Ro 6 (.new [(.int .i64 0), (.int .i64 0), (.int .i64 0), (.slice none 0 0), (.int .i64 0), (.slice none 0 0)]), Rn (.ini 1 (Sv 6) (Sv 32) 6)])
 (.frz (sl 6)))
 (.seq (.seq (.reg [Ro 33 (Mv 3), Ro 34 (Mv 5), Ro 35 (.idx false (Sv 33) (Sv 34) 1), Ro 36 (.ld false (Sv 35) none), Ro 37 (Mv 36), Rg 38 37 true (Fd 6 0), Rg 39 37 true (Ld 38), Rg 40 37 true (.bin .neq (Sv 39) (Ci 3)), Ro 41 (.pick (Sv 37) (Sv 40) (.c (.bool false)))])
 (.cond (Sv 41)
 (.reg [Ro 42 (Mv 3), Ro 43 (Fd 6 2), Ro 44 (Ld 43), Ro 45 (.idx false (Sv 42) (Sv 44) 1), Rn (.st (Sv 45) (.c (.bool true)) 1)])
 .skip))
 (.seq (.reg [Ro 46 (Mv 3), Ro 47 (Mv 5), Ro 48 (.idx false (Sv 46) (Sv 47) 1), Ro 49 (.ld false (Sv 48) none), Ro 50 (Mv 49), Rg 51 50 true (Fd 6 0), Rg 52 50 true (Ld 51), Rg 53 50 true (.bin .eql (Sv 52) (Ci 2)), Ro 54 (.pick (Sv 50) (Sv 53) (.c (.bool false)))])
 (.cond (Sv 54)
 (.reg [Ro 55 (Mv 3), Ro 56 (Fd 6 4), Ro 57 (Ld 56), Ro 58 (.idx false (Sv 55) (Sv 57) 1), Rn (.st (Sv 58) (.c (.bool true)) 1)])
 .skip)))))
 (.reg [Ro 25 (Mv 5), Ro 26 (.bin .add (Sv 25) (Ci 1)), Ro 5 (Mv 26)]))))))))
 (.reg [Ro 16 (Mv 4), Ro 17 (.bin .add (Sv 16) (Ci 1)), Ro 4 (Mv 17)]))))))
 (.seq (.reg [Ro 59 (Mv 3), Ro 2 (Mv 59)])
 .ret))))
def q63 : List ARes := [(.tmp (sl 2))]
theorem qbu : (Tryz.f75).body.bind (q9 Tryz.prog 8 (Tryz.f75).ntmps [2, 3, 10, 18, 19, 33, 35, 36, 37, 41, 42, 45, 46, 48, 49, 50, 54, 55, 58, 59] [(6000010, 0, 1)] (drOk 8)) = some q5x := by kernel_rfl
theorem qbz : qa Tryz.prog 8 (Tryz.f75).results.toList = some q63 := by kernel_rfl
def q8n : ACode :=
 (.seq (.reg [Ro 1 (.box true (Sv 0)), Ro 2 (.new [(.string ⟨#[]⟩), (.int .i64 0), (.int .i64 0), (.slice none 0 0)])])
 (.seq (.reg [Ro 7 (Lk 1 4), Ro 8 (.call true (.f 75) [Sv 7]), Ro 3 (Mv 8)])
 (.seq (.reg [Ro 9 (Fd 1 0), Ro 10 (Ld 9), Ro 11 (Fd 1 1), Ro 12 (Ld 11), Ro 13 (Fd 1 2), Ro 14 (Ld 13), Ro 15 (.bld [(.string ⟨#[]⟩), (.int .i64 0), (.int .i64 0), (.slice none 0 0)] [(0, 1, (Sv 10)), (1, 1, (Sv 12)), (2, 1, (Sv 14))]), Ro 4 (.new [(.string ⟨#[]⟩), (.int .i64 0), (.int .i64 0), (.slice none 0 0)]), Rn (.ini 1 (Sv 4) (Sv 15) 4)])
 (.seq (.seq (.reg [Ro 5 (.mv (Ci 0))])
 (.block 0
 (.loop (.seq (.seq (.reg [Ro 16 (Mv 5), Ro 17 (Fd 1 3), Ro 18 (Ld 17), Ro 19 (.len false (Sv 18)), Ro 20 (.bin .lss (Sv 16) (Sv 19))])
 (.cond (Sv 20)
 .skip
 (.exit 0)))
 (.seq (.block 1
 (.seq (.seq (.reg [Ro 23 (Mv 3), Ro 24 (Mv 5), Ro 25 (.idx true (Sv 23) (Sv 24) 1), Ro 26 (Ld 25), Ro 27 (.not (Sv 26))])
 (.cond (Sv 27)
 (.exit 1)
 .skip))
 (.seq (.reg [Ro 28 (Fd 1 3), Ro 29 (Ld 28), Ro 30 (Mv 5), Ro 31 (.idx true (Sv 29) (Sv 30) 8), Ro 32 (Lk 31 8), Ro 33 (.call true (.f 76) [Sv 32]), Ro 6 (.new [(.int .i64 0), (.slice none 0 0), (.int .i64 0), (.int .i64 0), (.int .i64 0), (.slice none 0 0), (.int .i64 0), (.slice none 0 0)]), Rn (.ini 1 (Sv 6) (Sv 33) 8)])
 (.seq (.seq (.reg [Ro 34 (Fd 6 2), Ro 35 (Fd 34 0), Ro 36 (.ld false (Sv 35) none), Ro 37 (.bin .neq (Sv 36) (Ci 3))])
 (.cond (Sv 37)
 (.reg [Ro 38 (Mv 3), Ro 39 (Fd 6 2), Ro 40 (Fd 39 2), Ro 41 (.ld false (Sv 40) none), Ro 42 (.call false (.f 77) [Sv 38, Sv 41]), Ro 43 (Fd 6 2), Ro 44 (Fd 43 2), Rn (.st (Sv 44) (Sv 42) 1)])
 .skip))
 (.seq (.seq (.reg [Ro 45 (Fd 6 2), Ro 46 (Fd 45 0), Ro 47 (.ld false (Sv 46) none), Ro 48 (.bin .eql (Sv 47) (Ci 2))])
 (.cond (Sv 48)
 (.reg [Ro 49 (Mv 3), Ro 50 (Fd 6 2), Ro 51 (Fd 50 4), Ro 52 (.ld false (Sv 51) none), Ro 53 (.call false (.f 77) [Sv 49, Sv 52]), Ro 54 (Fd 6 2), Ro 55 (Fd 54 4), Rn (.st (Sv 55) (Sv 53) 1)])
 .skip))
 (.reg [Ro 56 (Fd 4 3), Ro 57 (.ld false (Sv 56) none), Ro 58 (.ld false (Sv 6) (some 8)), Ro 59 (.mksl 8 1 [(.int .i64 0), (.slice none 0 0), (.int .i64 0), (.int .i64 0), (.int .i64 0), (.slice none 0 0), (.int .i64 0), (.slice none 0 0)] [(0, 8, (Sv 58))]), Ro 60 (.app 58 8 112 (Sv 57) (Sv 59)), Ro 61 (Fd 4 3), Rn (.st (Sv 61) (Sv 60) 1)]))))))
 (.reg [Ro 21 (Mv 5), Ro 22 (.bin .add (Sv 21) (Ci 1)), Ro 5 (Mv 22)]))))))
 (.seq (.reg [Ro 62 (.ld false (Sv 4) (some 4)), Rn (.st (Sv 2) (Sv 62) 4)])
 .ret)))))
def q9d : List ARes := [(.cell (sl 2) (some 4))]
theorem qfr : (Tryz.f45).body.bind (q9 Tryz.prog 8 (Tryz.f45).ntmps [2, 4, 6, 34, 35, 36, 39, 40, 41, 43, 44, 45, 46, 47, 50, 51, 52, 54, 55, 56, 57, 58, 59, 60, 61, 62] [] (drOk 8)) = some q8n := by kernel_rfl
theorem qg9 : qa Tryz.prog 8 (Tryz.f45).results.toList = some q9d := by kernel_rfl
def q6j : ACode :=
 (.seq (.reg [Ro 1 (.box true (Sv 0)), Ro 2 (.new [(.slice none 0 0), (.slice none 0 0)])])
 (.seq (.reg [Ro 6 (Fd 1 1), Ro 7 (Ld 6), Ro 8 (.bld [(.slice none 0 0), (.slice none 0 0)] [(1, 1, (Sv 7))]), Ro 3 (.new [(.slice none 0 0), (.slice none 0 0)]), Rn (.ini 1 (Sv 3) (Sv 8) 2)])
 (.seq (.seq (.reg [Ro 4 (.mv (Ci 0))])
 (.block 0
 (.loop (.seq (.seq (.reg [Ro 9 (Mv 4), Ro 10 (Fd 1 0), Ro 11 (Ld 10), Ro 12 (.len false (Sv 11)), Ro 13 (.bin .lss (Sv 9) (Sv 12))])
 (.cond (Sv 13)
 .skip
 (.exit 0)))
 (.seq (.block 1
 (.seq (.reg [Ro 16 (Fd 1 0), Ro 17 (Ld 16), Ro 18 (Mv 4), Ro 19 (.idx true (Sv 17) (Sv 18) 4), Ro 20 (Lk 19 4), Ro 21 (.call true (.f 18) [Sv 20]), Ro 5 (Mv 21)])
 (.seq (.reg [Ro 22 (Mv 5)])
 (.cond (Sv 22)
 (.reg [Rl 23 (Fd 3 0) 0, Rl 24 (.ld false (Sv 23) none) 1, Rl 25 (Fd 1 0) 2, Rl 26 (Ld 25) 3, Rl 27 (Mv 4) 4, Rl 28 (.idx true (Sv 26) (Sv 27) 4) 5, Rl 29 (Lk 28 4) 6, Rl 30 (.call true (.f 45) [Sv 29]) 7, Rl 31 (.mksl 4 1 [(.string ⟨#[]⟩), (.int .i64 0), (.int .i64 0), (.slice none 0 0)] [(0, 4, (Sv 30))]) 8, Rl 32 (.app 61 4 56 (Sv 24) (Sv 31)) 9, Rl 33 (Fd 3 0) 10, ⟨none, none, (.st (Sv 33) (Sv 32) 1), (some (11, []))⟩])
 (.reg [Rl 34 (Fd 3 0) 0, Rl 35 (.ld false (Sv 34) none) 1, Rl 36 (Fd 1 0) 2, Rl 37 (Ld 36) 3, Rl 38 (Mv 4) 4, Rl 39 (.idx true (Sv 37) (Sv 38) 4) 5, Rl 40 (Lk 39 4) 6, Rl 41 (.mksl 4 1 [(.string ⟨#[]⟩), (.int .i64 0), (.int .i64 0), (.slice none 0 0)] [(0, 4, (Sv 40))]) 7, Rl 42 (.app 61 4 56 (Sv 35) (Sv 41)) 8, Rl 43 (Fd 3 0) 9, ⟨none, none, (.st (Sv 43) (Sv 42) 1), (some (10, []))⟩])))))
 (.reg [Ro 14 (Mv 4), Ro 15 (.bin .add (Sv 14) (Ci 1)), Ro 4 (Mv 15)]))))))
 (.seq (.reg [Ro 44 (.ld false (Sv 3) (some 2)), Rn (.st (Sv 2) (Sv 44) 2)])
 .ret))))
def q6u : List ARes := [(.cell (sl 2) (some 2))]
theorem qcx : (Tryz.f27).body.bind (q9 Tryz.prog 8 (Tryz.f27).ntmps [2, 3, 23, 24, 32, 33, 34, 35, 42, 43, 44] [] (drOk 8)) = some q6j := by kernel_rfl
theorem qd6 : qa Tryz.prog 8 (Tryz.f27).results.toList = some q6u := by kernel_rfl
def q1u : ACode :=
 (.seq (.reg [Ro 3 (.box true (Sv 0)), Ro 6 (.new [(.slice none 0 0), (.slice none 0 0)]), Ro 7 (.mv (Ci 0))])
 (.seq (.seq (.reg [Ro 8 (Mv 1), Ro 9 (.bin .eql (Sv 8) (Ci 1))])
 (.cond (Sv 9)
 (.seq (.reg [Ro 10 (Lk 3 2), Ro 11 (.call true (.f 26) [Sv 10]), Rn (.st (Sv 6) (Sv 11) 2), Ro 7 (.mv (Ci 0))])
 .ret)
 .skip))
 (.seq (.seq (.reg [Ro 12 (Mv 1), Ro 13 (.bin .eql (Sv 12) (Ci 2))])
 (.cond (Sv 13)
 (.seq (.reg [Ro 14 (Lk 3 2), Ro 15 (.call true (.f 27) [Sv 14]), Rn (.st (Sv 6) (Sv 15) 2), Ro 7 (.mv (Ci 0))])
 .ret)
 .skip))
 (.seq (.seq (.reg [Ro 16 (Mv 1), Ro 17 (.bin .eql (Sv 16) (Ci 3))])
 (.cond (Sv 17)
 (.seq (.reg [Ro 18 (Lk 3 2), Ro 19 (.call true (.f 28) [Sv 18]), Rn (.st (Sv 6) (Sv 19) 2), Ro 7 (.mv (Ci 0))])
 .ret)
 .skip))
 (.seq (.seq (.reg [Ro 20 (Mv 1), Ro 21 (.bin .eql (Sv 20) (Ci 4))])
 (.cond (Sv 21)
 (.seq (.reg [Ro 22 (Lk 3 2), Ro 23 (Mv 2), Ro 24 (.call true (.f 29) [Sv 22, Sv 23]), Rn (.st (Sv 6) (Sv 24) 2), Ro 7 (.mv (Ci 0))])
 .ret)
 .skip))
 (.seq (.reg [Ro 25 (.bld [(.slice none 0 0), (.slice none 0 0)] []), Rn (.st (Sv 6) (Sv 25) 2), Ro 7 (.mv (Ci 1))])
 .ret))))))
def q1w : List ARes := [(.cell (sl 6) (some 2)), (.tmp (sl 7))]
theorem qif : (Tryz.f12).body.bind (q9 Tryz.prog 8 (Tryz.f12).ntmps [6] [] (drOk 8)) = some q1u := by kernel_rfl
theorem qin : qa Tryz.prog 8 (Tryz.f12).results.toList = some q1w := by kernel_rfl
def q9s : ACode :=
 (.seq (.reg [Ro 3 (.box false (Sv 0)), Ro 6 (.new [(.slice none 0 0), (.slice none 0 0)]), Ro 7 (.mv (Ci 0))])
 (.seq (.seq (.reg [Ro 11 (Mv 1), Ro 12 (.len false (Sv 11)), Ro 13 (.bin .gtr (Sv 12) (Ci 16))])
 (.cond (Sv 13)
 (.seq (.reg [Ro 14 (.bld [(.slice none 0 0), (.slice none 0 0)] []), Rn (.st (Sv 6) (Sv 14) 2), Ro 7 (.mv (Ci 1))])
 .ret)
 .skip))
 (.seq (.seq (.reg [Ro 8 (.mv (Ci 0))])
 (.block 0
 (.loop (.seq (.seq (.reg [Ro 15 (Mv 8), Ro 16 (Mv 1), Ro 17 (.len false (Sv 16)), Ro 18 (.bin .lss (Sv 15) (Sv 17))])
 (.cond (Sv 18)
 .skip
 (.exit 0)))
 (.seq (.block 1
 (.seq (.reg [Ro 21 (Mv 1), Ro 22 (Mv 8), Ro 23 (.idx true (Sv 21) (Sv 22) 1), Ro 24 (Ld 23), Ro 25 (.bin .lss (Sv 24) (Ci 1)), Ro 26 (Mv 25), Rg 27 26 false (Mv 1), Rg 28 26 false (Mv 8), Rg 29 26 false (.idx true (Sv 27) (Sv 28) 1), Rg 30 26 false (Ld 29), Rg 31 26 false (.bin .gtr (Sv 30) (Ci 4)), Ro 32 (.pick (Sv 26) (.c (.bool true)) (Sv 31))])
 (.cond (Sv 32)
 (.seq (.reg [Ro 33 (.bld [(.slice none 0 0), (.slice none 0 0)] []), Rn (.st (Sv 6) (Sv 33) 2), Ro 7 (.mv (Ci 1))])
 .ret)
 .skip)))
 (.reg [Ro 19 (Mv 8), Ro 20 (.bin .add (Sv 19) (Ci 1)), Ro 8 (Mv 20)]))))))
 (.seq (.reg [Ro 34 (.ld false (Sv 3) (some 2)), Ro 35 (.call false (.f 16) [Sv 34]), Ro 9 (Mv 35)])
 (.seq (.seq (.reg [Ro 36 (Mv 9), Ro 37 (.bin .neq (Sv 36) (Ci 0))])
 (.cond (Sv 37)
 (.seq (.reg [Ro 38 (.bld [(.slice none 0 0), (.slice none 0 0)] []), Ro 39 (Mv 9), Rn (.st (Sv 6) (Sv 38) 2), Ro 7 (Mv 39)])
 .ret)
 .skip))
 (.seq (.seq (.reg [Ro 10 (.mv (Ci 0))])
 (.block 2
 (.loop (.seq (.seq (.reg [Ro 40 (Mv 10), Ro 41 (Mv 1), Ro 42 (.len false (Sv 41)), Ro 43 (.bin .lss (Sv 40) (Sv 42))])
 (.cond (Sv 43)
 .skip
 (.exit 2)))
 (.seq (.block 3
 (.reg [Rl 47 (.ld false (Sv 3) (some 2)) 0, Rl 48 (Mv 1) 1, Rl 49 (Mv 10) 2, Rl 50 (.idx true (Sv 48) (Sv 49) 1) 3, Rl 51 (Ld 50) 4, Rl 52 (Mv 2) 5, Rl 53 (.call false (.f 12) [Sv 47, Sv 51, Sv 52]) 6, Rl 46 (Mv 53) 7, Rl 54 (.ext (Sv 46) 0) 8, Rl 55 (.ext (Sv 46) 1) 9, ⟨none, none, (.st (Sv 3) (Sv 54) 2), (some (10, []))⟩]))
 (.reg [Ro 44 (Mv 10), Ro 45 (.bin .add (Sv 44) (Ci 1)), Ro 10 (Mv 45)]))))))
 (.seq (.reg [Ro 56 (.ld false (Sv 3) (some 2)), Rn (.st (Sv 6) (Sv 56) 2), Ro 7 (.mv (Ci 0))])
 .ret)))))))
def q9y : List ARes := [(.cell (sl 6) (some 2)), (.tmp (sl 7))]
theorem qig : (Tryz.f10).body.bind (q9 Tryz.prog 8 (Tryz.f10).ntmps [3, 6, 34, 47, 56] [] (drOk 8)) = some q9s := by kernel_rfl
theorem qio : qa Tryz.prog 8 (Tryz.f10).results.toList = some q9y := by kernel_rfl
def q8q : ACode :=
 (.seq (.reg [Ro 1 (.box true (Sv 0)), Ro 2 (.mv (Ci 0))])
 (.seq (.reg [Ro 3 (.mv (Ci 0))])
 (.seq (.seq (.reg [Ro 4 (.mv (Ci 0))])
 (.block 0
 (.loop (.seq (.seq (.reg [Ro 6 (Mv 4), Ro 7 (Fd 1 0), Ro 8 (Ld 7), Ro 9 (.len false (Sv 8)), Ro 10 (.bin .lss (Sv 6) (Sv 9))])
 (.cond (Sv 10)
 .skip
 (.exit 0)))
 (.seq (.block 1
 (.seq (.reg [Ro 5 (.mv (Ci 0))])
 (.block 2
 (.loop (.seq (.seq (.reg [Ro 13 (Mv 5), Ro 14 (Fd 1 0), Ro 15 (Ld 14), Ro 16 (Mv 4), Ro 17 (.idx true (Sv 15) (Sv 16) 4), Ro 18 (Fd 17 3), Ro 19 (Ld 18), Ro 20 (.len false (Sv 19)), Ro 21 (.bin .lss (Sv 13) (Sv 20))])
 (.cond (Sv 21)
 .skip
 (.exit 2)))
 (.seq (.block 3
 (.reg [Ro 24 (Mv 3), Ro 25 (.bin .add (Sv 24) (Ci 1)), Ro 26 (Fd 1 0), Ro 27 (Ld 26), Ro 28 (Mv 4), Ro 29 (.idx true (Sv 27) (Sv 28) 4), Ro 30 (Fd 29 3), Ro 31 (Ld 30), Ro 32 (Mv 5), Ro 33 (.idx true (Sv 31) (Sv 32) 8), Ro 34 (Fd 33 1), Ro 35 (Ld 34), Ro 36 (.len false (Sv 35)), Ro 37 (.bin .add (Sv 25) (Sv 36)), Ro 3 (Mv 37)]))
 (.reg [Ro 22 (Mv 5), Ro 23 (.bin .add (Sv 22) (Ci 1)), Ro 5 (Mv 23)])))))))
 (.reg [Ro 11 (Mv 4), Ro 12 (.bin .add (Sv 11) (Ci 1)), Ro 4 (Mv 12)]))))))
 (.seq (.reg [Ro 38 (Mv 3), Ro 2 (Mv 38)])
 .ret))))
def q9g : List ARes := [(.tmp (sl 2))]
theorem qfv : (Tryz.f15).body.bind (q9 Tryz.prog 8 (Tryz.f15).ntmps [] [] (drOk 8)) = some q8q := by kernel_rfl
theorem qgd : qa Tryz.prog 8 (Tryz.f15).results.toList = some q9g := by kernel_rfl
def qlv : ACode :=
 (.seq (.reg [Ro 1 (.box true (Sv 0)), Ro 2 (.mv (Ci 0))])
 (.seq (.reg [Ro 3 (.mv (Ci 0))])
 (.seq (.seq (.reg [Ro 8 (Fd 1 0), Ro 9 (Ld 8), Ro 10 (.len false (Sv 9)), Ro 11 (.mv (Ci 0))])
 (.block 0
 (.loop (.seq (.reg [Ro 12 (.bin .lss (Sv 11) (Sv 10))])
 (.seq (.cond (Sv 12)
 .skip
 (.exit 0))
 (.seq (.block 1
 (.seq (.seq (.reg [Ro 13 (.idx true (Sv 9) (Sv 11) 4), Ro 14 (Lk 13 4), Ro 5 (.new [(.string ⟨#[]⟩), (.int .i64 0), (.int .i64 0), (.slice none 0 0)]), Rn (.ini 1 (Sv 5) (Sv 14) 4)])
 (.frz (sl 5)))
 (.seq (.reg [Ro 15 (Fd 5 3), Ro 16 (Ld 15), Ro 17 (.len false (Sv 16)), Ro 18 (.mv (Ci 0))])
 (.block 2
 (.loop (.seq (.reg [Ro 19 (.bin .lss (Sv 18) (Sv 17))])
 (.seq (.cond (Sv 19)
 .skip
 (.exit 2))
 (.seq (.block 3
 (.seq (.seq (.reg [Ro 20 (.idx true (Sv 16) (Sv 18) 8), Ro 21 (Lk 20 8), Ro 7 (.new [(.int .i64 0), (.slice none 0 0), (.int .i64 0), (.int .i64 0), (.int .i64 0), (.slice none 0 0), (.int .i64 0), (.slice none 0 0)]), Rn (.ini 1 (Sv 7) (Sv 21) 8)])
 (.frz (sl 7)))
 (.reg [Ro 22 (Mv 3), Ro 23 (Fd 7 1), Ro 24 (Ld 23), Ro 25 (.len false (Sv 24)), Ro 26 (.bin .add (Sv 25) (Ci 1)), Ro 27 (.bin .add (Sv 22) (Sv 26)), Ro 3 (Mv 27)])))
 (.reg [Ro 28 (.bin .add (Sv 18) (Ci 1)), Ro 18 (Mv 28)])))))))))
 (.reg [Ro 29 (.bin .add (Sv 11) (Ci 1)), Ro 11 (Mv 29)])))))))
 (.seq (.reg [Ro 30 (Mv 3), Ro 2 (Mv 30)])
 .ret))))
def qnc : List ARes := [(.tmp (sl 2))]
theorem qyz : (Tryz.f14).body.bind (q9 Tryz.prog 8 (Tryz.f14).ntmps [] [] (drOk 8)) = some qlv := by kernel_rfl
theorem qzf : qa Tryz.prog 8 (Tryz.f14).results.toList = some qnc := by kernel_rfl
def qpb : ACode :=
 (.seq (.reg [Ro 2 (.mv (.c (.bool false)))])
 (.seq (.reg [Ro 3 (Mv 0), Ro 4 (.bin .geq (Sv 3) (Ci 2)), Ro 5 (Mv 4), Rg 6 5 true (Mv 0), Rg 7 5 true (.bin .leq (Sv 6) (Ci 11)), Ro 8 (.pick (Sv 5) (Sv 7) (.c (.bool false))), Ro 2 (Mv 8)])
 .ret))
def qqo : List ARes := [(.tmp (sl 2))]
theorem z3c : (Tryz.f133).body.bind (q9 Tryz.prog 8 (Tryz.f133).ntmps [] [] (drOk 8)) = some qpb := by kernel_rfl
theorem z3u : qa Tryz.prog 8 (Tryz.f133).results.toList = some qqo := by kernel_rfl
def qgs : ACode :=
 (.seq (.reg [Ro 1 (.box true (Sv 0)), Ro 2 (.mv (.c (.slice none 0 0)))])
 (.seq (.reg [Ro 10 (Fd 1 0), Ro 11 (Ld 10), Ro 12 (.mx (Sv 11) (Ci 0)), Ro 13 (.vop 4 147 2 16 (Sv 12) (.c (.agg #[(.int .u64 0), (.bool false)]))), Ro 3 (.new [(.slice none 0 0)]), Rn (.st (Sv 3) (Sv 13) 1)])
 (.seq (.reg [Ro 14 (.mkfn 132 [Sv 3]), Ro 4 (Mv 14)])
 (.seq (.seq (.reg [Ro 15 (Fd 1 1), Ro 16 (Ld 15), Ro 17 (.len false (Sv 16)), Ro 18 (.mv (Ci 0))])
 (.block 0
 (.loop (.seq (.reg [Ro 19 (.bin .lss (Sv 18) (Sv 17))])
 (.seq (.cond (Sv 19)
 .skip
 (.exit 0))
 (.seq (.block 1
 (.seq (.seq (.reg [Ro 20 (.idx true (Sv 16) (Sv 18) 6), Ro 21 (Lk 20 6), Ro 6 (.new [(.int .i64 0), (.int .i64 0), (.int .i64 0), (.int .u64 0), (.string ⟨#[]⟩), (.slice none 0 0)]), Rn (.ini 1 (Sv 6) (Sv 21) 6)])
 (.frz (sl 6)))
 (.seq (.reg [Ro 22 (.bld [(.int .u64 0), (.bool false)] []), Ro 7 (.new [(.int .u64 0), (.bool false)]), Rn (.ini 1 (Sv 7) (Sv 22) 2)])
 (.seq (.seq (.seq (.seq (.reg [Rl 23 (Mv 4) 0, Rl 24 (Fd 6 1) 1, Rl 25 (Ld 24) 2, Rl 26 (.call false (Sv 23) [Sv 25]) 3, Rl 27 (Mv 4) 4, Rl 28 (Fd 6 2) 5, Rl 29 (Ld 28) 6, Rl 30 (.call false (Sv 27) [Sv 29]) 7, Rl 8 (.new [(.int .u64 0), (.bool false)]) 8, Rl 9 (.new [(.int .u64 0), (.bool false)]) 9, Rn (.ini 2 (Sv 8) (Sv 26) 2), Rn (.ini 2 (Sv 9) (Sv 30) 2)])
 (.frz (sl 8)))
 (.frz (sl 9)))
 (.block 2
 (.seq (.reg [Ro 32 (Fd 6 0), Ro 33 (Ld 32), Ro 34 (.bin .eql (Sv 33) (Ci 1)), Ro 31 (Mv 34)])
 (.cond (Sv 31)
 (.reg [Ro 35 (Fd 6 3), Ro 36 (Ld 35), Ro 37 (.bld [(.int .u64 0), (.bool false)] [(0, 1, (Sv 36)), (1, 1, (.c (.bool true)))]), Rn (.st (Sv 7) (Sv 37) 2)])
 (.seq (.reg [Ro 39 (Fd 6 0), Ro 40 (Ld 39), Ro 41 (.call true (.f 133) [Sv 40]), Ro 42 (Mv 41), Rg 43 42 true (Fd 8 1), Rg 44 42 true (Ld 43), Ro 45 (.pick (Sv 42) (Sv 44) (.c (.bool false))), Ro 46 (Mv 45), Rg 47 46 true (Fd 9 1), Rg 48 46 true (Ld 47), Ro 49 (.pick (Sv 46) (Sv 48) (.c (.bool false))), Ro 38 (Mv 49)])
 (.cond (Sv 38)
 (.reg [Ro 50 (Fd 6 0), Ro 51 (Ld 50), Ro 52 (Fd 8 0), Ro 53 (Ld 52), Ro 54 (Fd 9 0), Ro 55 (Ld 54), Ro 56 (.call true (.f 134) [Sv 51, Sv 53, Sv 55]), Ro 57 (.bld [(.int .u64 0), (.bool false)] [(0, 1, (Sv 56)), (1, 1, (.c (.bool true)))]), Rn (.st (Sv 7) (Sv 57) 2)])
 .skip))))))
 (.reg [Ro 58 (.ld false (Sv 3) none), Ro 59 (.ld false (Sv 7) (some 2)), Ro 60 (.mksl 2 1 [(.int .u64 0), (.bool false)] [(0, 2, (Sv 59))]), Ro 61 (.app 147 2 16 (Sv 58) (Sv 60)), Rn (.st (Sv 3) (Sv 61) 1)])))))
 (.reg [Ro 62 (.bin .add (Sv 18) (Ci 1)), Ro 18 (Mv 62)])))))))
 (.seq (.reg [Ro 63 (.ld false (Sv 3) none), Ro 2 (Mv 63)])
 .ret)))))
def qhx : List ARes := [(.tmp (sl 2))]
theorem qt0 : (Tryz.f112).body.bind (q9 Tryz.prog 8 (Tryz.f112).ntmps [2, 3, 4, 7, 14, 23, 27, 58, 59, 60, 61, 63] [(6000013, 0, 4), (8000003, 0, 1)] (drOk 8)) = some qgs := by kernel_rfl
theorem qtc : qa Tryz.prog 8 (Tryz.f112).results.toList = some qhx := by kernel_rfl
def qc5 : ACode :=
 (.seq (.reg [Ro 3 (.new [(.int .u64 0), (.bool false)])])
 (.seq (.seq (.reg [Ro 4 (Mv 0), Ro 5 (.bin .lss (Sv 4) (Ci 0)), Ro 6 (Mv 5), Rg 7 6 false (Mv 0), Rg 8 6 false (Ld 1), Rg 9 6 false (.len false (Sv 8)), Rg 10 6 false (.bin .geq (Sv 7) (Sv 9)), Ro 11 (.pick (Sv 6) (.c (.bool true)) (Sv 10))])
 (.cond (Sv 11)
 (.seq (.reg [Ro 12 (.bld [(.int .u64 0), (.bool false)] []), Rn (.st (Sv 3) (Sv 12) 2)])
 .ret)
 .skip))
 (.seq (.reg [Ro 13 (Ld 1), Ro 14 (Mv 0), Ro 15 (.idx true (Sv 13) (Sv 14) 2), Ro 16 (Lk 15 2), Rn (.st (Sv 3) (Sv 16) 2)])
 .ret)))
def qch : List ARes := [(.cell (sl 3) (some 2))]
theorem qnr : (Tryz.f132).body.bind (q9 Tryz.prog 8 (Tryz.f132).ntmps [3] [] (drOk 8)) = some qc5 := by kernel_rfl
theorem qo1 : qa Tryz.prog 8 (Tryz.f132).results.toList = some qch := by kernel_rfl
def q30 : ACode :=
 (.seq (.reg [Ro 4 (.mv (.c (.slice none 0 0)))])
 (.seq (.reg [Ro 5 (.mv (.c (.slice none 0 0)))])
 (.seq (.seq (.reg [Ro 8 (Mv 0), Ro 9 (.len false (Sv 8)), Ro 10 (.mv (Ci 0))])
 (.block 0
 (.loop (.seq (.reg [Ro 11 (.bin .lss (Sv 10) (Sv 9))])
 (.seq (.cond (Sv 11)
 .skip
 (.exit 0))
 (.seq (.block 1
 (.seq (.seq (.reg [Ro 12 (.idx true (Sv 8) (Sv 10) 4), Ro 13 (Lk 12 4), Ro 7 (.new [(.string ⟨#[]⟩), (.int .i64 0), (.int .i64 0), (.slice none 0 0)]), Rn (.ini 1 (Sv 7) (Sv 13) 4)])
 (.frz (sl 7)))
 (.reg [Ro 14 (Mv 5), Ro 15 (Mv 1), Ro 16 (Lk 7 4), Ro 17 (.call true (Sv 15) [Sv 16]), Ro 18 (.mksl 4 1 [(.string ⟨#[]⟩), (.int .i64 0), (.int .i64 0), (.slice none 0 0)] [(0, 4, (Sv 17))]), Ro 19 (.app 61 4 56 (Sv 14) (Sv 18)), Ro 5 (Mv 19)])))
 (.reg [Ro 20 (.bin .add (Sv 10) (Ci 1)), Ro 10 (Mv 20)])))))))
 (.seq (.reg [Ro 21 (Mv 5), Ro 4 (Mv 21)])
 .ret))))
def q32 : List ARes := [(.tmp (sl 4))]
theorem q6y : (Tryz.f65).body.bind (q9 Tryz.prog 8 (Tryz.f65).ntmps [4, 5, 14, 19, 21] [] (drOk 8)) = some q30 := by kernel_rfl
theorem q71 : qa Tryz.prog 8 (Tryz.f65).results.toList = some q32 := by kernel_rfl
def q2n : ACode :=
 (.seq (.reg [Ro 4 (.mv (.c (.slice none 0 0)))])
 (.seq (.reg [Ro 5 (.mv (.c (.slice none 0 0)))])
 (.seq (.seq (.reg [Ro 8 (Mv 0), Ro 9 (.len false (Sv 8)), Ro 10 (.mv (Ci 0))])
 (.block 0
 (.loop (.seq (.reg [Ro 11 (.bin .lss (Sv 10) (Sv 9))])
 (.seq (.cond (Sv 11)
 .skip
 (.exit 0))
 (.seq (.block 1
 (.seq (.seq (.reg [Ro 12 (.idx true (Sv 8) (Sv 10) 8), Ro 13 (Lk 12 8), Ro 7 (.new [(.int .i64 0), (.slice none 0 0), (.int .i64 0), (.int .i64 0), (.int .i64 0), (.slice none 0 0), (.int .i64 0), (.slice none 0 0)]), Rn (.ini 1 (Sv 7) (Sv 13) 8)])
 (.frz (sl 7)))
 (.reg [Ro 14 (Mv 5), Ro 15 (Mv 1), Ro 16 (Lk 7 8), Ro 17 (.call true (Sv 15) [Sv 16]), Ro 18 (.mksl 8 1 [(.int .i64 0), (.slice none 0 0), (.int .i64 0), (.int .i64 0), (.int .i64 0), (.slice none 0 0), (.int .i64 0), (.slice none 0 0)] [(0, 8, (Sv 17))]), Ro 19 (.app 58 8 112 (Sv 14) (Sv 18)), Ro 5 (Mv 19)])))
 (.reg [Ro 20 (.bin .add (Sv 10) (Ci 1)), Ro 10 (Mv 20)])))))))
 (.seq (.reg [Ro 21 (Mv 5), Ro 4 (Mv 21)])
 .ret))))
def q2p : List ARes := [(.tmp (sl 4))]
theorem q5q : (Tryz.f91).body.bind (q9 Tryz.prog 8 (Tryz.f91).ntmps [4, 5, 14, 19, 21] [] (drOk 8)) = some q2n := by kernel_rfl
theorem q5s : qa Tryz.prog 8 (Tryz.f91).results.toList = some q2p := by kernel_rfl
def qji : ACode :=
 (.seq (.reg [Ro 1 (.box false (Sv 0)), Ro 2 (.new [(.int .i64 0), (.slice none 0 0), (.int .i64 0), (.int .i64 0), (.int .i64 0), (.slice none 0 0), (.int .i64 0), (.slice none 0 0)])])
 (.seq (.reg [Ro 8 (.ld false (Sv 1) (some 8)), Ro 9 (.call false (.f 112) [Sv 8]), Ro 3 (Mv 9)])
 (.seq (.reg [Ro 10 (Mv 3), Ro 11 (.len false (Sv 10)), Ro 12 (Fd 1 1), Ro 13 (.ld false (Sv 12) none), Ro 14 (.len false (Sv 13)), Ro 15 (.bin .sub (Sv 11) (Sv 14)), Ro 4 (Mv 15)])
 (.seq (.reg [Ro 16 (Fd 1 1), Ro 17 (.ld false (Sv 16) none), Ro 18 (.callv 53 6 (.f 113) [Sv 17]), Ro 19 (Fd 1 1), Rn (.st (Sv 19) (Sv 18) 1)])
 (.seq (.seq (.reg [Ro 20 (Fd 1 1), Ro 21 (.ld false (Sv 20) none), Ro 22 (.len false (Sv 21)), Ro 23 (.mv (Ci 0))])
 (.block 0
 (.loop (.seq (.reg [Ro 24 (.bin .lss (Sv 23) (Sv 22))])
 (.seq (.cond (Sv 24)
 .skip
 (.exit 0))
 (.seq (.block 1
 (.seq (.reg [Ro 25 (Mv 23), Ro 5 (Mv 25)])
 (.seq (.seq (.reg [Ro 26 (Mv 3), Ro 27 (Mv 4), Ro 28 (Mv 5), Ro 29 (.bin .add (Sv 27) (Sv 28)), Ro 30 (.idx true (Sv 26) (Sv 29) 2), Ro 31 (Lk 30 2), Ro 6 (.new [(.int .u64 0), (.bool false)]), Rn (.ini 1 (Sv 6) (Sv 31) 2)])
 (.frz (sl 6)))
 (.seq (.reg [Ro 32 (Fd 6 1), Ro 33 (Ld 32)])
 (.cond (Sv 33)
 (.reg [Ro 34 (Fd 1 1), Ro 35 (.ld false (Sv 34) none), Ro 36 (Mv 5), Ro 37 (Fd 6 0), Ro 38 (Ld 37), Ro 39 (.bld [(.int .i64 0), (.int .i64 0), (.int .i64 0), (.int .u64 0), (.string ⟨#[]⟩), (.slice none 0 0)] [(0, 1, (Ci 1)), (3, 1, (Sv 38))]), Ro 40 (.idx false (Sv 35) (Sv 36) 6), Rn (.st (Sv 40) (Sv 39) 6)])
 .skip)))))
 (.reg [Ro 41 (.bin .add (Sv 23) (Ci 1)), Ro 23 (Mv 41)])))))))
 (.seq (.reg [Ro 42 (Fd 1 2), Ro 43 (.ld false (Sv 42) (some 6)), Ro 7 (.new [(.int .i64 0), (.int .i64 0), (.int .i64 0), (.slice none 0 0), (.int .i64 0), (.slice none 0 0)]), Rn (.ini 1 (Sv 7) (Sv 43) 6)])
 (.seq (.block 2
 (.seq (.block 5
 (.seq (.block 4
 (.seq (.block 3
 (.seq (.seq (.seq (.reg [Ro 45 (Fd 7 0), Ro 46 (.ld false (Sv 45) none), Ro 47 (.bin .neq (Sv 46) (Ci 2)), Ro 48 (Mv 47), Rg 49 48 false (Fd 7 1), Rg 50 48 false (.ld false (Sv 49) none), Rg 51 48 false (.bin .lss (Sv 50) (Ci 0)), Ro 52 (.pick (Sv 48) (.c (.bool true)) (Sv 51)), Ro 53 (Mv 52), Rg 54 53 false (Fd 7 1), Rg 55 53 false (.ld false (Sv 54) none), Rg 56 53 false (Mv 3), Rg 57 53 false (.len false (Sv 56)), Rg 58 53 false (.bin .geq (Sv 55) (Sv 57)), Ro 59 (.pick (Sv 53) (.c (.bool true)) (Sv 58)), Ro 60 (Mv 59), Rg 61 60 false (Mv 3), Rg 62 60 false (Fd 7 1), Rg 63 60 false (.ld false (Sv 62) none), Rg 64 60 false (.idx true (Sv 61) (Sv 63) 2), Rg 65 60 false (Fd 64 1), Rg 66 60 false (.ld false (Sv 65) none), Rg 67 60 false (.not (Sv 66)), Ro 68 (.pick (Sv 60) (.c (.bool true)) (Sv 67)), Ro 44 (Mv 68)])
 (.cond (Sv 44)
 (.exit 3)
 .skip))
 (.seq (.reg [Ro 70 (Mv 3), Ro 71 (Fd 7 1), Ro 72 (.ld false (Sv 71) none), Ro 73 (.idx true (Sv 70) (Sv 72) 2), Ro 74 (Fd 73 0), Ro 75 (.ld false (Sv 74) none), Ro 76 (.bin .eql (Sv 75) (.c (.int .u64 0))), Ro 69 (Mv 76)])
 (.cond (Sv 69)
 (.exit 4)
 .skip)))
 (.exit 5)))
 (.seq (.seq (.reg [Ro 77 (.ld false (Sv 1) (some 8)), Rn (.st (Sv 2) (Sv 77) 8)])
 .ret)
 (.exit 2))))
 (.reg [Ro 78 (Fd 7 4), Ro 79 (.ld false (Sv 78) none), Ro 80 (Fd 7 5), Ro 81 (.ld false (Sv 80) none), Ro 82 (Fd 7 2), Rn (.st (Sv 82) (Sv 79) 1), Ro 83 (Fd 7 3), Rn (.st (Sv 83) (Sv 81) 1)])))
 (.seq (.reg [Ro 84 (Fd 7 2), Ro 85 (.ld false (Sv 84) none), Ro 86 (Fd 7 3), Ro 87 (.ld false (Sv 86) none), Ro 88 (.bld [(.int .i64 0), (.int .i64 0), (.int .i64 0), (.slice none 0 0), (.int .i64 0), (.slice none 0 0)] [(0, 1, (Ci 1)), (2, 1, (Sv 85)), (3, 1, (Sv 87))]), Ro 89 (Fd 1 2), Rn (.st (Sv 89) (Sv 88) 6)])
 (.exit 2))))
 (.seq (.reg [Ro 90 (.ld false (Sv 1) (some 8)), Rn (.st (Sv 2) (Sv 90) 8)])
 .ret))))))))
def qjz : List ARes := [(.cell (sl 2) (some 8))]
theorem qwj : (Tryz.f92).body.bind (q9 Tryz.prog 8 (Tryz.f92).ntmps [1, 2, 7, 8, 12, 13, 16, 17, 18, 19, 20, 21, 34, 35, 40, 42, 43, 45, 46, 49, 50, 54, 55, 62, 63, 64, 65, 66, 71, 72, 73, 74, 75, 77, 78, 79, 80, 81, 82, 83, 84, 85, 86, 87, 88, 89, 90] [(113, 53, 1006)] (drOk 8)) = some qji := by kernel_rfl
theorem qwy : qa Tryz.prog 8 (Tryz.f92).results.toList = some qjz := by kernel_rfl
def qls : ACode :=
 (.seq (.reg [Ro 1 (.box false (Sv 0)), Ro 2 (.new [(.string ⟨#[]⟩), (.int .i64 0), (.int .i64 0), (.slice none 0 0)])])
 (.seq (.reg [Ro 3 (Fd 1 3), Ro 4 (.ld false (Sv 3) none), Ro 5 (.call false (.f 91) [Sv 4, (.f 92)]), Ro 6 (Fd 1 3), Rn (.st (Sv 6) (Sv 5) 1)])
 (.seq (.reg [Ro 7 (.ld false (Sv 1) (some 4)), Rn (.st (Sv 2) (Sv 7) 4)])
 .ret)))
def qn9 : List ARes := [(.cell (sl 2) (some 4))]
theorem qyw : (Tryz.f66).body.bind (q9 Tryz.prog 8 (Tryz.f66).ntmps [1, 2, 3, 4, 6, 7] [] (drOk 8)) = some qls := by kernel_rfl
theorem qzc : qa Tryz.prog 8 (Tryz.f66).results.toList = some qn9 := by kernel_rfl
def qgr : ACode :=
 (.seq (.reg [Ro 1 (.box false (Sv 0)), Ro 2 (.new [(.slice none 0 0), (.slice none 0 0)])])
 (.seq (.reg [Ro 3 (Fd 1 0), Ro 4 (.ld false (Sv 3) none), Ro 5 (.call false (.f 65) [Sv 4, (.f 66)]), Ro 6 (Fd 1 0), Rn (.st (Sv 6) (Sv 5) 1)])
 (.seq (.reg [Ro 7 (.ld false (Sv 1) (some 2)), Rn (.st (Sv 2) (Sv 7) 2)])
 .ret)))
def qhw : List ARes := [(.cell (sl 2) (some 2))]
theorem qsz : (Tryz.f39).body.bind (q9 Tryz.prog 8 (Tryz.f39).ntmps [1, 2, 3, 4, 6, 7] [] (drOk 8)) = some qgr := by kernel_rfl
theorem qtb : qa Tryz.prog 8 (Tryz.f39).results.toList = some qhw := by kernel_rfl
def q10 : ACode :=
 (.seq (.reg [Ro 2 (.mv (.c (.slice none 0 0)))])
 (.seq (.seq (.reg [Ro 3 (Mv 0), Ro 4 (.isnil false (Sv 3))])
 (.cond (Sv 4)
 (.seq (.reg [Ro 2 (.mv (.c (.slice none 0 0)))])
 .ret)
 .skip))
 (.seq (.reg [Ro 5 (.nrow 53 6), Ro 6 (Mv 0), Ro 7 (.vapp 53 6 72 (Sv 5) (Sv 6)), Ro 2 (Mv 7)])
 .ret)))
def q12 : List ARes := [(.tmp (sl 2))]
theorem q29 : (Tryz.f113).body.bind (q9 Tryz.prog 8 (Tryz.f113).ntmps [2, 7] [(2000007, 53, 6)] (drOk 8)) = some q10 := by kernel_rfl
theorem q2b : qa Tryz.prog 8 (Tryz.f113).results.toList = some q12 := by kernel_rfl
def knC (x : Option Int) : List DV := [.lit (.int .u64 (x.getD 0)), .bool x.isSome]
@[simp] theorem knC_length (x : Option Int) : (knC x).length = 2 := rfl
@[simp] theorem knC_0 (x : Option Int) : (knC x)[0]? = some (.lit (.int .u64 (x.getD 0))) := rfl
@[simp] theorem knC_1 (x : Option Int) : (knC x)[1]? = some (.bool x.isSome) := rfl
@[simp] theorem knC_cells (x : Option Int) : (∀ d, d ∈ knC x → d.cell = true) ↔ True := by unfold knC; simp
@[simp] theorem knC_len? (x : Option Int) : (knC x)[2]? = none := rfl
@[simp] theorem knC_map (x : Option Int) : (knC x).map AV.d = [.d (.lit (.int .u64 (x.getD 0))), .d (.bool x.isSome)] := rfl
def qkg (x : Bool) : List DV := [.bool x]
@[simp] theorem boolC_length (x : Bool) : (qkg x).length = 1 := rfl
@[simp] theorem boolC_0 (x : Bool) : (qkg x)[0]? = some (.bool x) := rfl
@[simp] theorem boolC_len? (x : Bool) : (qkg x)[1]? = none := rfl
@[simp] theorem boolC_map (x : Bool) : (qkg x).map AV.d = [.d (.bool x)] := rfl
@[simp] theorem knC_all (x : Option Int) : (knC x).take 2 = knC x := rfl
theorem qf {α : Type} (C : α → List DV) (d : α) {acc : List α} {x : α} {more : Nat → List DV} (h0 : more 0 = C x) {i : Nat} (hi : i < acc.length + 1) : q13 acc.length (fun i => C (acc[i]?.getD d)) more i = C ((acc ++ [x])[i]?.getD d) := by
 unfold q13
 split
 ·rename_i h; rw [List.getElem?_append_left h]
 ·rename_i h
  obtain rfl : i = acc.length := by omega
  rw [Nat.sub_self, h0, List.getElem?_append_right (Nat.le_refl _), Nat.sub_self]
  rfl
@[reducible] def knsD (xs : List (Option Int)) : DV := .sl 2 xs.length fun k => knC (xs[k]?.getD none)
@[simp high] theorem knsD_cell (xs : List (Option Int)) : DV.cell (knsD xs) = true := rfl
@[simp high] theorem knsD_isLit (xs : List (Option Int)) : DV.isLit (knsD xs) = false := rfl
@[simp high] theorem knsD_lenV (xs : List (Option Int)) : lenV (.d (knsD xs)) = .int xs.length := rfl
@[simp high] theorem knsD_lenOk (H : Heap) (s : Bool) (xs : List (Option Int)) : qhn H s (.d (knsD xs)) = (s = false) := rfl
@[simp high] theorem knsD_slLen (xs : List (Option Int)) : qj9 (.d (knsD xs)) = xs.length := rfl
@[simp high] theorem knsD_idxV (H : Heap) (xs : List (Option Int)) (k : IntKind) (i : Int) : idxH H (.d (knsD xs)) (.d (.lit (.int k i))) = .d (.cref (knC (xs[i.toNat]?.getD none)) 0) := rfl
@[simp high] theorem knsD_idxOk (H : Heap) (n : Nat) (xs : List (Option Int)) (k : IntKind) (i : Int) : q6o H n (.d (knsD xs)) (.d (.lit (.int k i))) = (2 = n ∧ 0 ≤ i ∧ i < xs.length) := rfl
@[simp high] theorem knsD_moreV (n : Nat) (xs : List (Option Int)) : qbq n (.d (knsD xs)) = if 2 = n then some (xs.length, fun k => knC (xs[k]?.getD none)) else none := rfl
@[simp high] theorem knsD_slcV (xs : List (Option Int)) (lo hi : Int) : slcV (.d (knsD xs)) lo hi = .d (.sl 2 (hi.toNat - lo.toNat) fun i => knC (xs[lo.toNat + i]?.getD none)) := rfl
@[simp high] theorem knsD_slcOk (n : Nat) (xs : List (Option Int)) (lo hi : Int) : qia n (.d (knsD xs)) lo hi = (2 = n ∧ 0 ≤ lo ∧ lo ≤ hi ∧ hi ≤ xs.length) := rfl
@[reducible] def q22 (xs : List Bool) : DV := .sl 1 xs.length fun k => qkg (xs[k]?.getD false)
@[simp high] theorem boolsD_cell (xs : List Bool) : DV.cell (q22 xs) = true := rfl
@[simp high] theorem boolsD_isLit (xs : List Bool) : DV.isLit (q22 xs) = false := rfl
@[simp high] theorem boolsD_lenV (xs : List Bool) : lenV (.d (q22 xs)) = .int xs.length := rfl
@[simp high] theorem boolsD_lenOk (H : Heap) (s : Bool) (xs : List Bool) : qhn H s (.d (q22 xs)) = (s = false) := rfl
@[simp high] theorem boolsD_slLen (xs : List Bool) : qj9 (.d (q22 xs)) = xs.length := rfl
@[simp high] theorem boolsD_idxV (H : Heap) (xs : List Bool) (k : IntKind) (i : Int) : idxH H (.d (q22 xs)) (.d (.lit (.int k i))) = .d (.cref (qkg (xs[i.toNat]?.getD false)) 0) := rfl
@[simp high] theorem boolsD_idxOk (H : Heap) (n : Nat) (xs : List Bool) (k : IntKind) (i : Int) : q6o H n (.d (q22 xs)) (.d (.lit (.int k i))) = (1 = n ∧ 0 ≤ i ∧ i < xs.length) := rfl
@[simp high] theorem boolsD_moreV (n : Nat) (xs : List Bool) : qbq n (.d (q22 xs)) = if 1 = n then some (xs.length, fun k => qkg (xs[k]?.getD false)) else none := rfl
@[simp high] theorem boolsD_slcV (xs : List Bool) (lo hi : Int) : slcV (.d (q22 xs)) lo hi = .d (.sl 1 (hi.toNat - lo.toNat) fun i => qkg (xs[lo.toNat + i]?.getD false)) := rfl
@[simp high] theorem boolsD_slcOk (n : Nat) (xs : List Bool) (lo hi : Int) : qia n (.d (q22 xs)) lo hi = (1 = n ∧ 0 ≤ lo ∧ lo ≤ hi ∧ hi ≤ xs.length) := rfl

def qgp : ACode :=
 (.seq (.reg [Ro 6 (.mv (.c (.int .u64 0)))])
 (.seq (.seq (.reg [Ro 7 (Mv 0)])
 (.block 0
 (.seq (.block 10
 (.seq (.block 9
 (.seq (.block 8
 (.seq (.block 7
 (.seq (.block 6
 (.seq (.block 5
 (.seq (.block 4
 (.seq (.block 3
 (.seq (.block 2
 (.seq (.block 1
 (.seq (.seq (.seq (.reg [Ro 9 (.bin .eql (Sv 7) (Ci 3)), Ro 8 (Mv 9)])
 (.cond (Sv 8)
 (.exit 1)
 .skip))
 (.seq (.seq (.reg [Ro 11 (.bin .eql (Sv 7) (Ci 2)), Ro 10 (Mv 11)])
 (.cond (Sv 10)
 (.exit 2)
 .skip))
 (.seq (.seq (.reg [Ro 13 (.bin .eql (Sv 7) (Ci 4)), Ro 12 (Mv 13)])
 (.cond (Sv 12)
 (.exit 3)
 .skip))
 (.seq (.seq (.reg [Ro 15 (.bin .eql (Sv 7) (Ci 5)), Ro 14 (Mv 15)])
 (.cond (Sv 14)
 (.exit 4)
 .skip))
 (.seq (.seq (.reg [Ro 17 (.bin .eql (Sv 7) (Ci 6)), Ro 16 (Mv 17)])
 (.cond (Sv 16)
 (.exit 5)
 .skip))
 (.seq (.seq (.reg [Ro 19 (.bin .eql (Sv 7) (Ci 7)), Ro 18 (Mv 19)])
 (.cond (Sv 18)
 (.exit 6)
 .skip))
 (.seq (.seq (.reg [Ro 21 (.bin .eql (Sv 7) (Ci 8)), Ro 20 (Mv 21)])
 (.cond (Sv 20)
 (.exit 7)
 .skip))
 (.seq (.seq (.reg [Ro 23 (.bin .eql (Sv 7) (Ci 9)), Ro 22 (Mv 23)])
 (.cond (Sv 22)
 (.exit 8)
 .skip))
 (.seq (.seq (.reg [Ro 25 (.bin .eql (Sv 7) (Ci 10)), Ro 24 (Mv 25)])
 (.cond (Sv 24)
 (.exit 9)
 .skip))
 (.seq (.reg [Ro 27 (.bin .eql (Sv 7) (Ci 11)), Ro 26 (Mv 27)])
 (.cond (Sv 26)
 (.exit 10)
 .skip)))))))))))
 (.exit 0)))
 (.reg [Ro 28 (Mv 2), Ro 29 (.bin .sub (.c (.int .u64 0)) (Sv 28)), Ro 2 (Mv 29)])))
 (.seq (.seq (.reg [Ro 30 (Mv 1), Ro 31 (Mv 2), Ro 32 (.bin .add (Sv 30) (Sv 31)), Ro 6 (Mv 32)])
 .ret)
 (.exit 0))))
 (.seq (.seq (.reg [Ro 33 (Mv 1), Ro 34 (Mv 2), Ro 35 (.bin .mul (Sv 33) (Sv 34)), Ro 6 (Mv 35)])
 .ret)
 (.exit 0))))
 (.seq (.seq (.reg [Ro 36 (Mv 1), Ro 37 (Mv 2), Ro 38 (.bin .and (Sv 36) (Sv 37)), Ro 6 (Mv 38)])
 .ret)
 (.exit 0))))
 (.seq (.seq (.reg [Ro 39 (Mv 1), Ro 40 (Mv 2), Ro 41 (.bin .or (Sv 39) (Sv 40)), Ro 6 (Mv 41)])
 .ret)
 (.exit 0))))
 (.seq (.seq (.reg [Ro 42 (Mv 1), Ro 43 (Mv 2), Ro 44 (.bin .xor (Sv 42) (Sv 43)), Ro 6 (Mv 44)])
 .ret)
 (.exit 0))))
 (.seq (.seq (.reg [Ro 45 (Mv 1), Ro 46 (Mv 2), Ro 47 (.bin .rem (Sv 46) (.c (.int .u64 64))), Ro 48 (.bin .shl (Sv 45) (Sv 47)), Ro 6 (Mv 48)])
 .ret)
 (.exit 0))))
 (.seq (.seq (.reg [Ro 49 (Mv 1), Ro 50 (Mv 2), Ro 51 (.bin .rem (Sv 50) (.c (.int .u64 64))), Ro 52 (.bin .shr (Sv 49) (Sv 51)), Ro 6 (Mv 52)])
 .ret)
 (.exit 0))))
 (.seq (.seq (.reg [Ro 53 (Mv 1), Ro 54 (Mv 2), Ro 55 (.bin .lss (Sv 53) (Sv 54)), Ro 56 (.call true (.f 145) [Sv 55]), Ro 6 (Mv 56)])
 .ret)
 (.exit 0))))
 (.seq (.seq (.reg [Ro 57 (Mv 1), Ro 58 (Mv 2), Ro 59 (.bin .eql (Sv 57) (Sv 58)), Ro 60 (.call true (.f 145) [Sv 59]), Ro 6 (Mv 60)])
 .ret)
 (.exit 0)))))
 (.seq (.reg [Ro 6 (.mv (.c (.int .u64 0)))])
 .ret)))
def qhu : List ARes := [(.tmp (sl 6))]
theorem qsx : (Tryz.f134).body.bind (q9 Tryz.prog 8 (Tryz.f134).ntmps [] [] (drOk 8)) = some qgp := by kernel_rfl
theorem qt9 : qa Tryz.prog 8 (Tryz.f134).results.toList = some qhu := by kernel_rfl
def qpa : ACode :=
 (.seq (.reg [Ro 2 (.mv (.c (.int .u64 0)))])
 (.seq (.seq (.reg [Ro 3 (Mv 0)])
 (.cond (Sv 3)
 (.seq (.reg [Ro 2 (.mv (.c (.int .u64 1)))])
 .ret)
 .skip))
 (.seq (.reg [Ro 2 (.mv (.c (.int .u64 0)))])
 .ret)))
def qqn : List ARes := [(.tmp (sl 2))]
theorem z3b : (Tryz.f145).body.bind (q9 Tryz.prog 8 (Tryz.f145).ntmps [] [] (drOk 8)) = some qpa := by kernel_rfl
theorem z3t : qa Tryz.prog 8 (Tryz.f145).results.toList = some qqn := by kernel_rfl
def qlr : ACode :=
 (.seq (.reg [Ro 2 (.box true (Sv 0)), Ro 3 (.box true (Sv 1)), Ro 4 (.new [(.string ⟨#[]⟩), (.int .i64 0), (.int .i64 0), (.slice none 0 0)]), Ro 5 (.mv (.c (.bool false)))])
 (.seq (.reg [Ro 7 (Fd 2 0), Ro 8 (Ld 7), Ro 9 (.mkfn 61 [Sv 3]), Ro 10 (.call true (.f 60) [Sv 8, Sv 9]), Ro 6 (Mv 10)])
 (.seq (.seq (.reg [Ro 11 (Mv 6), Ro 12 (.bin .lss (Sv 11) (Ci 0))])
 (.cond (Sv 12)
 (.seq (.reg [Ro 13 (.bld [(.string ⟨#[]⟩), (.int .i64 0), (.int .i64 0), (.slice none 0 0)] []), Rn (.st (Sv 4) (Sv 13) 4), Ro 5 (.mv (.c (.bool false)))])
 .ret)
 .skip))
 (.seq (.reg [Ro 14 (Fd 2 0), Ro 15 (Ld 14), Ro 16 (Mv 6), Ro 17 (.idx true (Sv 15) (Sv 16) 4), Ro 18 (Lk 17 4), Rn (.st (Sv 4) (Sv 18) 4), Ro 5 (.mv (.c (.bool true)))])
 .ret))))
def qn8 : List ARes := [(.cell (sl 4) (some 4)), (.tmp (sl 5))]
theorem qyv : (Tryz.f35).body.bind (q9 Tryz.prog 8 (Tryz.f35).ntmps [4] [] (drOk 8)) = some qlr := by kernel_rfl
theorem qzb : qa Tryz.prog 8 (Tryz.f35).results.toList = some qn8 := by kernel_rfl
def qgq : ACode :=
 (.seq (.reg [Ro 2 (.box true (Sv 0)), Ro 3 (.mv (.c (.bool false)))])
 (.seq (.reg [Ro 4 (Fd 2 0), Ro 5 (Ld 4), Ro 6 (Ld 1), Ro 7 (.bin .eql (Sv 5) (Sv 6)), Ro 3 (Mv 7)])
 .ret))
def qhv : List ARes := [(.tmp (sl 3))]
theorem qsy : (Tryz.f61).body.bind (q9 Tryz.prog 8 (Tryz.f61).ntmps [] [] (drOk 8)) = some qgq := by kernel_rfl
theorem qta : qa Tryz.prog 8 (Tryz.f61).results.toList = some qhv := by kernel_rfl
set_option maxRecDepth 10000 in
theorem z0p (b : Bool) : APure Tryz.prog 145 [.bool b] (.u64 (if b then 1 else 0)) := by
 refine qb _ _ Tryz.func145 (by kernel_rfl) z3b z3t rfl rfl (fun _ => ?_)
 simp [qpa, qqn]
 cases b <;> simp <;> exact DLe.refl _
theorem powI_eq : ∀ q, q < 64 → powI q = 2 ^ q := by decide
theorem z1h (n : Int) : IntKind.u64.wrap n = n % 18446744073709551616 := by
 unfold IntKind.wrap
 simp only [show IntKind.u64.signed = false from rfl, Bool.false_and, if_neg (by simp : ¬ false = true)]
 rfl
theorem wrap_neg (a b : Int) : IntKind.u64.wrap (a + IntKind.u64.wrap (-b)) = IntKind.u64.wrap (a - b) := by
 simp only [z1h]
 omega
set_option maxRecDepth 10000 in
theorem quh (op a b : Int) (ha : 0 ≤ a ∧ a < 18446744073709551616) (hb : 0 ≤ b) : APure Tryz.prog 134 [.int op, .u64 a, .u64 b] (.u64 (q4l op a b)) := by
 refine qb _ _ Tryz.func134 (by kernel_rfl) qsx qt9 rfl rfl (fun _ => ?_)
 simp [qgp, qhu]
 have hm : 0 ≤ b.tmod 64 ∧ b.tmod 64 < 64 := ⟨Int.tmod_nonneg _ hb, Int.tmod_lt_of_pos _ (by decide)⟩
 obtain ⟨q, hq⟩ := Int.eq_ofNat_of_zero_le hm.1
 have hb64 : min q IntKind.u64.bits = q := Nat.min_eq_left (by show q ≤ 64; omega)
 have hp := powI_eq q (by omega)
 refine ⟨fun h => DLe.of_eq ?_, fun h3 => ⟨fun h => DLe.of_eq ?_, fun h2 => ⟨fun h => DLe.of_eq ?_, fun h4 => ⟨fun h => DLe.of_eq ?_, fun h5 => ⟨fun h => DLe.of_eq ?_, fun h6 => ⟨fun h => DLe.of_eq ?_, fun h7 => ⟨fun h => ⟨hm.1, DLe.of_eq ?_⟩, fun h8 => ⟨fun h => ⟨hm.1, DLe.of_eq ?_⟩, fun h9 => ⟨fun h => ?_, fun h10 => ⟨fun h => ?_, fun h11 => DLe.of_eq ?_⟩⟩⟩⟩⟩⟩⟩⟩⟩⟩
 ·rw [wrap_neg]
  simp [q4l, q5u, h]
 ·simp [q4l, q5u, h]
 ·simp [q4l, q5u, h]
 ·simp [q4l, q5u, h]
 ·simp [q4l, q5u, h]
 ·simp [q4l, q5u, h]
 ·simp [q4l, q5u, h, hq, hb64, hp]
 ·simp only [hq, Int.toNat_natCast, hb64]
  have hpos : (0 : Int) < 2 ^ q := Int.pow_pos (by decide)
  have e1 : a.fdiv (2 ^ q) = a / 2 ^ q := Int.fdiv_eq_ediv_of_nonneg _ (Int.le_of_lt hpos)
  have e2 : a.tdiv (2 ^ q) = a / 2 ^ q := Int.tdiv_eq_ediv_of_nonneg ha.1
  have h0 : 0 ≤ a / 2 ^ q := Int.ediv_nonneg ha.1 (Int.le_of_lt hpos)
  have h1 : a / 2 ^ q ≤ a := Int.ediv_le_self _ ha.1
  have e3 : q4l op a b = a / 2 ^ q := by
   simp only [q4l, h, hq, Int.toNat_natCast, hp, e2]
   exact z1g h0 (by omega)
  rw [e3, e1]
 ·refine q4 (ds := [.bool (decide (a < b))]) _ (by simp) (by simp) (fun _ => rfl) (fun _ => z0p _) ?_
  simp
  refine DLe.of_eq ?_
  by_cases hlt : a < b <;> simp [q4l, h, hlt]
 ·refine q4 (ds := [.bool (decide (a = b))]) _ (by simp) (by simp) (fun _ => rfl) (fun _ => z0p _) ?_
  simp
  refine DLe.of_eq ?_
  by_cases hlt : a = b <;> simp [q4l, h, hlt]
 ·simp [q4l, *]
set_option maxRecDepth 10000 in
theorem qxh (f : Func) (s : ByteArray) : APure Tryz.prog 61 [.agg (qm f), .cref [.str s] 0] (.bool (decide (f.name = s))) := by
 refine qb _ _ Tryz.func61 (by kernel_rfl) qsy qta rfl rfl (fun _ => ?_)
 simp [qgq, qhv]
def z5b (m : Module) (s : ByteArray) : DV := match q55 m s with | some f => .tup [.agg (qm f), .bool true] | none => .tup [.agg [.str ⟨#[]⟩, .int 0, .int 0, .lit (.slice none 0 0)], .bool false]
set_option maxRecDepth 10000 in
theorem z20 (m : Module) (s : ByteArray) : APure Tryz.prog 35 [.agg (q8 m), .str s] (z5b m s) := by
 refine qb _ _ Tryz.func35 (by kernel_rfl) qyv qzb rfl rfl (fun _ => ?_)
 simp [qlr, qn8]
 refine q4 (ds := [q24 m.funcs, .fn 61 [.cref [.str s] 0]]) _ (by simp) (by simp) (fun _ => by simp) (fun _ => qf5 m.funcs _ _ _ (fun f _ => qxh f s)) ?_
 simp
 unfold z5b q55
 rcases qha (fun f : Func => decide (f.name = s)) m.funcs with ⟨k, hk, h1, h2⟩ | ⟨h1, h2⟩
 ·rw [h1, h2]
  refine ⟨fun h => by omega, fun _ => ⟨⟨by omega, by omega⟩, ?_⟩⟩
  simp only [Int.toNat_natCast, getD_some hk]
  exact DLe.refl _
 ·rw [h1, h2]
  exact ⟨fun _ => DLe.refl _, fun h => by omega⟩
theorem reckI_lt (op a b : Int) : 0 ≤ q4l op a b ∧ q4l op a b < 18446744073709551616 := by
 have hw : ∀ n, 0 ≤ q5u n ∧ q5u n < 18446744073709551616 := fun n => by
  unfold q5u
  rw [z1h]
  omega
 unfold q4l
 repeat' split
 all_goals first | exact hw _ | exact ⟨by omega, by omega⟩
theorem qc3 (l : List (Option Int)) (i : Int) : APure Tryz.prog 74 [knsD l, .int i] (.agg (knC (atO l i))) := by
 refine qb _ _ Tryz.func74 (by kernel_rfl) qja qjd rfl rfl (fun _ => ?_)
 simp [qac, qai]
 refine ⟨fun h => ?_, fun h0 h => ⟨⟨h0, h⟩, ?_⟩⟩
 ·have e : atO l i = none := by
   unfold atO
   split
   ·rw [List.getElem?_eq_none (by omega)]
    rfl
   ·rfl
  rw [e]
  exact DLe.refl _
 ·have e : atO l i = l[i.toNat]?.getD none := by unfold atO; rw [if_pos h0]
  rw [e]
  exact DLe.refl _
def KnOk (l : List (Option Int)) : Prop := ∀ v, some v ∈ l → 0 ≤ v ∧ v < 18446744073709551616
theorem KnOk.at {l : List (Option Int)} (h : KnOk l) {i v : Int} (hv : atO l i = some v) : 0 ≤ v ∧ v < 18446744073709551616 := by
  unfold atO at hv
  split at hv
  · cases hl : l[i.toNat]? with
    | none => rw [hl] at hv; cases hv
    | some o =>
      rw [hl] at hv
      simp only [Option.getD_some] at hv
      subst hv
      exact h _ (List.mem_of_getElem? hl)
  · cases hv
theorem KnOk.foldV {l : List (Option Int)} {x : Inst} (hx : x.k < 18446744073709551616) {v : Int} (hv : foldV l x = some v) : 0 ≤ v ∧ v < 18446744073709551616 := by
 unfold Proofs.YtgadlpdbkohlbaaGreat.foldV at hv
 repeat' split at hv
 all_goals first | (injection hv with hv; subst hv; exact reckI_lt _ _ _) | (injection hv with hv; omega) | cases hv
theorem KnOk.foldL : ∀ (xs : List Inst) {l : List (Option Int)}, (∀ x ∈ xs, x.k < 18446744073709551616) → KnOk l → KnOk (foldL l xs)
  | [], _, _, h => h
  | x :: xs, l, hx, h => by
    show KnOk (Proofs.YtgadlpdbkohlbaaGreat.foldL (l ++ [Proofs.YtgadlpdbkohlbaaGreat.foldV l x]) xs)
    refine KnOk.foldL xs (fun y hy => hx y (List.mem_cons_of_mem _ hy)) fun v hv => ?_
    rcases List.mem_append.1 hv with hv | hv
    · exact h v hv
    · exact KnOk.foldV (hx x (List.mem_cons_self ..)) (List.mem_singleton.1 hv).symm
theorem KnOk.none (b : Block) : KnOk (q4w b) := fun v hv => by
 unfold q4w at hv
 have := List.eq_of_mem_replicate hv
 cases this
set_option maxRecDepth 10000 in
theorem qtl (b : Block) (hp : b.params ≤ 1000) (hn : b.ins.length ≤ 1000) (hk : ∀ x ∈ b.ins, x.k < 18446744073709551616) : APure Tryz.prog 73 [.agg (qd b)] (knsD (q1h b)) := by
 refine qb _ _ Tryz.func73 (by kernel_rfl) qcw qd5 rfl rfl (fun _ => ?_)
 simp [q6i, q6t]
 refine qe (κ := Nat) (fun k => k ≤ b.params.toNat) (fun k => b.params.toNat - k) (fun k => [(sl 4, .int k), (sl 3, .own 0 k)]) (fun k => [(0, .row 112 2 k fun i => knC ((List.replicate k (none : Option Int))[i]?.getD none))]) 10 0 (srcs [(0, .nil)]) (by simp) (by simp) ?_
 rintro k hk1
 simp
 refine ⟨fun hlt => ?_, fun hge => ?_⟩
 ·refine ⟨by omega, k + 1, by omega, by omega, srcs [(0, .id 17)], ?_⟩
  simp [SLeK]
  refine ⟨q6 (q5 (by omega)), fun i hi => ?_⟩
  have h := qf knC none (acc := List.replicate k none) (x := none) (more := fun i => List.take 2 (List.drop (i * 2) [DV.lit (Value.int IntKind.u64 0), DV.lit (Value.bool false)])) rfl (i := i) (by simpa using hi)
  rw [List.length_replicate] at h
  rw [h, List.replicate_succ']
 obtain rfl : k = b.params.toNat := by omega
 refine qe (κ := Nat) (fun k => k ≤ b.ins.length) (fun k => b.ins.length - k) (fun k => [(sl 5, .int k), (sl 3, .own 0 (foldL (q4w b) (b.ins.take k)).length)]) (fun k => [(0, .row 112 2 (foldL (q4w b) (b.ins.take k)).length fun i => knC ((foldL (q4w b) (b.ins.take k))[i]?.getD none))]) 10 0 (srcs [(0, .id 0)]) (by simp) (by simp [q4w, foldL]) ?_
 rintro k hk1
 simp
 obtain ⟨l, hl⟩ : ∃ l, foldL (q4w b) (b.ins.take k) = l := ⟨_, rfl⟩
 have hlen : l.length ≤ 2000 := by rw [← hl, q6n, q3s]; simp; omega
 have hkn : KnOk l := by
  rw [← hl]
  exact KnOk.foldL _ (fun x hx => hk x (List.mem_of_mem_take hx)) (.none b)
 simp only [hl]
 refine ⟨fun hlt => ⟨hlt, ?_⟩, fun hge => ?_⟩
 ·rw [getD_some hlt]
  have hsucc : foldL (q4w b) (b.ins.take (k + 1)) = l ++ [foldV l b.ins[k]] := by rw [qiu (List.getElem?_eq_getElem hlt), hl]
  obtain ⟨x, hx⟩ : ∃ x, b.ins[k] = x := ⟨_, rfl⟩
  simp only [hx] at hsucc ⊢
  refine ⟨fun h1 => ?_, fun h1 => ?_⟩
  ·refine q4 (ds := [knsD l, .int x.a]) _ (by simp) (by simp) (fun _ => by simp) (fun _ => qc3 l x.a) ?_
   simp
   refine q4 (ds := [knsD l, .int x.b]) _ (by simp) (by simp) (fun _ => by simp) (fun _ => qc3 l x.b) ?_
   simp [h1]
   refine ⟨by omega, k + 1, by omega, by omega, srcs [(0, .id 63)], ?_⟩
   have hv : foldV l x = some (x.k : Int) := by unfold foldV; rw [if_pos h1]
   simp [SLeK, hsucc]
   refine ⟨q6 (q5 (by omega)), fun i hi => ?_⟩
   rw [hv]
   exact qf knC none rfl hi
  ·refine q4 (ds := [knsD l, .int x.a]) _ (by simp) (by simp) (fun _ => by simp) (fun _ => qc3 l x.a) ?_
   simp
   refine q4 (ds := [knsD l, .int x.b]) _ (by simp) (by simp) (fun _ => by simp) (fun _ => qc3 l x.b) ?_
   have hno : foldV l x = none → (l.length + 1) * 16 ≤ 140737488355328 ∧ ∀ i, i < l.length + 1 → q13 l.length (fun i => knC (l[i]?.getD none)) (fun i => List.take 2 (List.drop (i * 2) [DV.lit (Value.int IntKind.u64 0), DV.lit (Value.bool false)])) i = knC ((l ++ [foldV l x])[i]?.getD none) := fun h => by
    rw [h]
    exact ⟨by omega, fun i hi => qf knC none rfl hi⟩
   cases ha : atO l x.a <;> cases hb : atO l x.b <;> simp [ha, hb]
   ·obtain ⟨q1, q2⟩ := hno (by unfold foldV; rw [if_neg h1, ha, hb]; split <;> rfl)
    refine ⟨q1, k + 1, by omega, by omega, srcs [(0, .id 59)], ?_⟩
    simp [SLeK, hsucc]
    exact ⟨q6 (q5 (by omega)), q2⟩
   ·obtain ⟨q1, q2⟩ := hno (by unfold foldV; rw [if_neg h1, ha, hb]; split <;> rfl)
    refine ⟨q1, k + 1, by omega, by omega, srcs [(0, .id 59)], ?_⟩
    simp [SLeK, hsucc]
    exact ⟨q6 (q5 (by omega)), q2⟩
   ·obtain ⟨q1, q2⟩ := hno (by unfold foldV; rw [if_neg h1, ha, hb]; split <;> rfl)
    refine ⟨q1, k + 1, by omega, by omega, srcs [(0, .id 59)], ?_⟩
    simp [SLeK, hsucc]
    exact ⟨q6 (q5 (by omega)), q2⟩
   ·rename_i p q
    refine ⟨fun h2 h11 => ?_, fun h2 => ?_⟩
    ·refine q4 (ds := [.int x.op, .lit (.int .u64 p), .lit (.int .u64 q)]) _ (by simp) (by simp) (fun _ => by simp) (fun _ => qyj x.op p q (hkn.at ha).1 (hkn.at hb).1) ?_
     simp
     refine ⟨by omega, k + 1, by omega, by omega, srcs [(0, .id 68)], ?_⟩
     have hv : foldV l x = some (q4l x.op p q) := by unfold foldV; rw [if_neg h1, if_pos ⟨h2, h11⟩, ha, hb]
     simp [SLeK, hsucc]
     refine ⟨q6 (q5 (by omega)), fun i hi => ?_⟩
     rw [hv]
     exact qf knC none rfl hi
    ·obtain ⟨q1, q2⟩ := hno (by unfold foldV; rw [if_neg h1, if_neg (by omega)])
     refine ⟨q1, k + 1, by omega, by omega, srcs [(0, .id 59)], ?_⟩
     simp [SLeK, hsucc]
     exact ⟨q6 (q5 (by omega)), q2⟩
 ·rw [List.take_of_length_le hge] at hl
  rw [← hl]
  exact DLe.refl _
theorem z5r (op : Int) : APure Tryz.prog 133 [.int op] (.bool (decide (2 ≤ op ∧ op ≤ 11))) := by
 refine qb _ _ Tryz.func133 (by kernel_rfl) z3c z3u rfl rfl (fun _ => ?_)
 simp [qpb, qqo]
theorem qhg (l : List (Option Int)) (i : Int) : APure Tryz.prog 132 [.int i, .cref [knsD l] 0] (.agg (knC (atO l i))) := by
 refine qb _ _ Tryz.func132 (by kernel_rfl) qnr qo1 rfl rfl (fun _ => ?_)
 simp [qc5, qch]
 refine ⟨fun h => ?_, fun h0 h => ⟨⟨h0, h⟩, ?_⟩⟩
 ·have e : atO l i = none := by
   unfold atO
   split
   ·rw [List.getElem?_eq_none (by omega)]
    rfl
   ·rfl
  rw [e]
  exact DLe.refl _
 ·have e : atO l i = l[i.toNat]?.getD none := by unfold atO; rw [if_pos h0]
  rw [e]
  exact DLe.refl _
set_option maxRecDepth 10000 in
theorem quw (b : Block) (hp : 0 ≤ b.params ∧ b.params ≤ 1000) (hn : b.ins.length ≤ 1000) (hk : ∀ x ∈ b.ins, x.k < 18446744073709551616) : APure Tryz.prog 112 [.agg (qd b)] (knsD (q1h b)) := by
 refine qb _ _ Tryz.func112 (by kernel_rfl) qt0 qtc rfl rfl (fun _ => ?_)
 have hmx : (if b.params < 0 then 0 else b.params) = b.params := if_neg (by omega)
 simp [qgs, qhx, hmx]
 refine ⟨by omega, ?_⟩
 refine qe (κ := Nat) (fun k => k ≤ b.ins.length) (fun k => b.ins.length - k) (fun k => [(sl 18, .int k)]) (fun k => [(6, .box [.own 0 (foldL (q4w b) (b.ins.take k)).length]), (0, .row 147 2 (foldL (q4w b) (b.ins.take k)).length fun i => knC ((foldL (q4w b) (b.ins.take k))[i]?.getD none))]) 10 0 (srcs [(0, .id 5), (6, .id 6)]) (by simp) (by
  simp [q4w, foldL]
  intro i hi
  rw [List.getElem?_replicate]
  split <;> rfl) ?_
 rintro k hk1
 simp
 obtain ⟨l, hl⟩ : ∃ l, foldL (q4w b) (b.ins.take k) = l := ⟨_, rfl⟩
 have hlen : l.length ≤ 2000 := by rw [← hl, q6n, q3s]; simp; omega
 have hkn : KnOk l := by
  rw [← hl]
  exact KnOk.foldL _ (fun x hx => hk x (List.mem_of_mem_take hx)) (.none b)
 simp only [hl]
 refine ⟨fun hlt => ⟨hlt, ?_⟩, fun hge => ?_⟩
 ·rw [getD_some hlt]
  have hsucc : foldL (q4w b) (b.ins.take (k + 1)) = l ++ [foldV l b.ins[k]] := by rw [qiu (List.getElem?_eq_getElem hlt), hl]
  obtain ⟨x, hx⟩ : ∃ x, b.ins[k] = x := ⟨_, rfl⟩
  simp only [hx] at hsucc ⊢
  refine qu9 (ds := [.int x.a, .cref [knsD l] 0]) _ rfl (by simp) (by simp) (fun _ => by simp) (fun _ => qhg l x.a) ?_
  simp
  refine qu9 (ds := [.int x.b, .cref [knsD l] 0]) _ rfl (by simp) (by simp) (fun _ => by simp) (fun _ => qhg l x.b) ?_
  simp
  have hno : foldV l x = none → (l.length + 1) * 16 ≤ 140737488355328 ∧ ∀ i, i < l.length + 1 → q13 l.length (fun i => knC (l[i]?.getD none)) (fun i => List.take 2 (List.drop (i * 2) [DV.lit (Value.int IntKind.u64 0), DV.lit (Value.bool false)])) i = knC ((l ++ [foldV l x])[i]?.getD none) := fun h => by
   rw [h]
   exact ⟨by omega, fun i hi => qf knC none rfl hi⟩
  refine ⟨fun h1 => ?_, fun h1 => ?_⟩
  ·refine ⟨by omega, k + 1, by omega, by omega, srcs [(0, .id 41), (6, .id 6)], ?_⟩
   have hv : foldV l x = some (x.k : Int) := by unfold foldV; rw [if_pos h1]
   simp [SLeK, hsucc]
   refine ⟨q6 (q5 (by omega)), fun i hi => ?_⟩
   rw [hv]
   exact qf knC none rfl hi
  ·refine q4 (ds := [.int x.op]) _ (by simp) (by simp) (fun _ => by simp) (fun _ => z5r x.op) ?_
   cases ha : atO l x.a <;> cases hb : atO l x.b <;> simp [ha, hb]
   ·obtain ⟨q1, q2⟩ := hno (by unfold foldV; rw [if_neg h1, ha, hb]; split <;> rfl)
    refine ⟨q1, k + 1, by omega, by omega, srcs [(0, .id 49), (6, .id 6)], ?_⟩
    simp [SLeK, hsucc]
    exact ⟨q6 (q5 (by omega)), q2⟩
   ·obtain ⟨q1, q2⟩ := hno (by unfold foldV; rw [if_neg h1, ha, hb]; split <;> rfl)
    refine ⟨q1, k + 1, by omega, by omega, srcs [(0, .id 49), (6, .id 6)], ?_⟩
    simp [SLeK, hsucc]
    exact ⟨q6 (q5 (by omega)), q2⟩
   ·obtain ⟨q1, q2⟩ := hno (by unfold foldV; rw [if_neg h1, ha, hb]; split <;> rfl)
    refine ⟨q1, k + 1, by omega, by omega, srcs [(0, .id 49), (6, .id 6)], ?_⟩
    simp [SLeK, hsucc]
    exact ⟨q6 (q5 (by omega)), q2⟩
   ·rename_i p q
    refine ⟨fun h2 h11 => ?_, fun h2 => ?_⟩
    ·refine q4 (ds := [.int x.op, .lit (.int .u64 p), .lit (.int .u64 q)]) _ (by simp) (by simp) (fun _ => by simp) (fun _ => quh x.op p q (hkn.at ha) (hkn.at hb).1) ?_
     simp
     refine ⟨by omega, k + 1, by omega, by omega, srcs [(0, .id 58), (6, .id 6)], ?_⟩
     have hv : foldV l x = some (q4l x.op p q) := by unfold foldV; rw [if_neg h1, if_pos ⟨h2, h11⟩, ha, hb]
     simp [SLeK, hsucc]
     refine ⟨q6 (q5 (by omega)), fun i hi => ?_⟩
     rw [hv]
     exact qf knC none rfl hi
    ·obtain ⟨q1, q2⟩ := hno (by unfold foldV; rw [if_neg h1, if_neg (by omega)])
     refine ⟨q1, k + 1, by omega, by omega, srcs [(0, .id 49), (6, .id 6)], ?_⟩
     simp [SLeK, hsucc]
     exact ⟨q6 (q5 (by omega)), q2⟩
 ·rw [List.take_of_length_le hge] at hl
  rw [← hl]
  exact DLe.refl _
def qjj : ACode :=
 (.seq (.reg [Ro 3 (.box true (Sv 0)), Ro 4 (.box true (Sv 1)), Ro 6 (.new [(.int .i64 0), (.slice none 0 0), (.int .i64 0), (.int .i64 0), (.int .i64 0), (.slice none 0 0), (.int .i64 0), (.slice none 0 0)]), Ro 7 (.mv (.c (.bool false)))])
 (.seq (.seq (.reg [Rl 13 (Mv 2) 0, Rl 14 (.bin .lss (Sv 13) (Ci 0)) 1, Rl 15 (Mv 14) 2, Rh 16 15 false (Mv 2) 3, Rh 17 15 false (Fd 3 1) 4, Rh 18 15 false (Ld 17) 5, Rh 19 15 false (.len false (Sv 18)) 6, Rh 20 15 false (.bin .geq (Sv 16) (Sv 19)) 7, Rl 21 (.pick (Sv 15) (.c (.bool true)) (Sv 20)) 8, Rl 22 (Mv 21) 9, Rh 23 22 false (Fd 3 1) 10, Rh 24 22 false (Ld 23) 11, Rh 25 22 false (Mv 2) 12, Rh 26 22 false (.idx true (Sv 24) (Sv 25) 6) 13, Rh 27 22 false (Fd 26 0) 14, Rh 28 22 false (Ld 27) 15, Rh 29 22 false (.bin .neq (Sv 28) (Ci 14)) 16, Rl 30 (.pick (Sv 22) (.c (.bool true)) (Sv 29)) 17, Rl 31 (Mv 30) 18, Rh 32 31 false (Fd 3 1) 19, Rh 33 31 false (Ld 32) 20, Rh 34 31 false (Mv 2) 21, Rh 35 31 false (.idx true (Sv 33) (Sv 34) 6) 22, Rh 36 31 false (Fd 35 5) 23, Rh 37 31 false (Ld 36) 24, Rh 38 31 false (.len false (Sv 37)) 25, Rh 39 31 false (Fd 4 0) 26, Rh 40 31 false (Ld 39) 27, Rh 41 31 false (.bin .neq (Sv 38) (Sv 40)) 28, Rl 42 (.pick (Sv 31) (.c (.bool true)) (Sv 41)) 29, Rl 43 (Mv 42) 30, Rh 44 43 false (Fd 4 2) 31, Rh 45 43 false (Fd 44 0) 32, Rh 46 43 false (Ld 45) 33, Rh 47 43 false (.bin .neq (Sv 46) (Ci 3)) 34, Rl 48 (.pick (Sv 43) (.c (.bool true)) (Sv 47)) 35, Rl 49 (Mv 48) 36, Rh 50 49 false (Fd 3 1) 37, Rh 51 49 false (Ld 50) 38, Rh 52 49 false (.len false (Sv 51)) 39, Rh 53 49 false (.bin .sub (Sv 52) (Ci 1)) 40, Rh 54 49 false (Fd 4 1) 41, Rh 55 49 false (Ld 54) 42, Rh 56 49 false (.len false (Sv 55)) 43, Rh 57 49 false (.bin .add (Sv 53) (Sv 56)) 44, Rh 58 49 false (.bin .gtr (Sv 57) (Ci 32)) 45, Rl 59 (.pick (Sv 49) (.c (.bool true)) (Sv 58)) 46])
 (.cond (Sv 59)
 (.seq (.reg [Ro 60 (Lk 3 8), Rn (.st (Sv 6) (Sv 60) 8), Ro 7 (.mv (.c (.bool false)))])
 .ret)
 .skip))
 (.seq (.seq (.reg [Ro 61 (Fd 3 1), Ro 62 (Ld 61), Ro 63 (Mv 2), Ro 64 (.idx true (Sv 62) (Sv 63) 6), Ro 65 (Fd 64 5), Ro 66 (Ld 65), Ro 8 (.new [(.slice none 0 0)]), Rn (.ini 1 (Sv 8) (Sv 66) 1)])
 (.frz (sl 8)))
 (.seq (.seq (.reg [Ro 67 (Fd 3 0), Ro 68 (Ld 67), Ro 69 (Mv 2), Ro 70 (.bin .add (Sv 68) (Sv 69)), Ro 9 (.new [(.int .i64 0)]), Rn (.ini 1 (Sv 9) (Sv 70) 1)])
 (.frz (sl 9)))
 (.seq (.seq (.reg [Ro 71 (.mkfn 123 [Sv 4, Sv 8, Sv 9]), Ro 72 (.bld [.nilFunc] [(0, 1, (Sv 71))]), Ro 10 (.new [.nilFunc]), Rn (.ini 1 (Sv 10) (Sv 72) 1)])
 (.frz (sl 10)))
 (.seq (.seq (.reg [Ro 73 (.mkfn 124 [Sv 9, Sv 10, Sv 4]), Ro 74 (.bld [.nilFunc] [(0, 1, (Sv 73))]), Ro 11 (.new [.nilFunc]), Rn (.ini 1 (Sv 11) (Sv 74) 1)])
 (.frz (sl 11)))
 (.seq (.reg [Rl 75 (Fd 3 1) 0, Rl 76 (Ld 75) 1, Rl 77 (Mv 2) 2, Rl 78 (.slc (Sv 76) none (some (Sv 77)) 6) 3, Rl 79 (Lk 10 1) 4, Rl 80 (Fd 4 1) 5, Rl 81 (Ld 80) 6, Rl 82 (.call true (.f 126) [Sv 79, Sv 81]) 7, Rl 83 (Lk 11 1) 8, Rl 84 (Fd 3 1) 9, Rl 85 (Ld 84) 10, Rl 86 (Mv 2) 11, Rl 87 (.bin .add (Sv 86) (Ci 1)) 12, Rl 88 (.slc (Sv 85) (some (Sv 87)) none 6) 13, Rl 89 (.call true (.f 126) [Sv 83, Sv 88]) 14, Rl 90 (.mksl 1 3 [(.slice none 0 0), (.slice none 0 0), (.slice none 0 0)] [(0, 1, (Sv 78)), (1, 1, (Sv 82)), (2, 1, (Sv 89))]) 15, Rl 91 (.call true (.f 125) [Sv 90]) 16, Rl 12 (Mv 91) 17])
 (.seq (.reg [Rl 92 (Fd 3 0) 0, Rl 93 (Ld 92) 1, Rl 94 (Mv 12) 2, Rl 95 (Lk 11 1) 3, Rl 96 (Fd 3 2) 4, Rl 97 (Lk 96 6) 5, Rl 98 (.call true (.f 127) [Sv 95, Sv 97]) 6, Rl 99 (.bld [(.int .i64 0), (.slice none 0 0), (.int .i64 0), (.int .i64 0), (.int .i64 0), (.slice none 0 0), (.int .i64 0), (.slice none 0 0)] [(0, 1, (Sv 93)), (1, 1, (Sv 94)), (2, 6, (Sv 98))]) 7, ⟨none, none, (.st (Sv 6) (Sv 99) 8), (some (8, []))⟩, Rl 7 (.mv (.c (.bool true))) 9])
 .ret))))))))
def qk0 : List ARes := [(.cell (sl 6) (some 8)), (.tmp (sl 7))]
theorem qwk : (Tryz.f102).body.bind (q9 Tryz.prog 8 (Tryz.f102).ntmps [6] [] (drOk 8)) = some qjj := by kernel_rfl
theorem qwz : qa Tryz.prog 8 (Tryz.f102).results.toList = some qk0 := by kernel_rfl
def qeg : ACode :=
 (.seq (.reg [Ro 5 (.mv (Ci 0))])
 (.seq (.seq (.reg [Ro 6 (Mv 0), Ro 7 (Fd 1 0), Ro 8 (Ld 7), Ro 9 (.bin .lss (Sv 6) (Sv 8))])
 (.cond (Sv 9)
 (.seq (.reg [Ro 10 (Ld 2), Ro 11 (Mv 0), Ro 12 (.idx true (Sv 10) (Sv 11) 1), Ro 13 (Ld 12), Ro 5 (Mv 13)])
 .ret)
 .skip))
 (.seq (.reg [Ro 14 (Ld 3), Ro 15 (Mv 0), Ro 16 (.bin .add (Sv 14) (Sv 15)), Ro 17 (Fd 1 0), Ro 18 (Ld 17), Ro 19 (.bin .sub (Sv 16) (Sv 18)), Ro 5 (Mv 19)])
 .ret)))
def qen : List ARes := [(.tmp (sl 5))]
theorem qon : (Tryz.f123).body.bind (q9 Tryz.prog 8 (Tryz.f123).ntmps [] [] (drOk 8)) = some qeg := by kernel_rfl
theorem qot : qa Tryz.prog 8 (Tryz.f123).results.toList = some qen := by kernel_rfl
def qeh : ACode :=
 (.seq (.reg [Ro 5 (.mv (Ci 0))])
 (.seq (.block 0
 (.seq (.reg [Ro 7 (Mv 0), Ro 8 (Ld 1), Ro 9 (.bin .lss (Sv 7) (Sv 8)), Ro 6 (Mv 9)])
 (.cond (Sv 6)
 (.seq (.reg [Ro 10 (Mv 0), Ro 5 (Mv 10)])
 .ret)
 (.seq (.reg [Ro 12 (Mv 0), Ro 13 (Ld 1), Ro 14 (.bin .eql (Sv 12) (Sv 13)), Ro 11 (Mv 14)])
 (.cond (Sv 11)
 (.seq (.reg [Ro 15 (Fd 2 0), Ro 16 (Ld 15), Ro 17 (Fd 3 2), Ro 18 (Fd 17 1), Ro 19 (Ld 18), Ro 20 (.call true (Sv 16) [Sv 19]), Ro 5 (Mv 20)])
 .ret)
 .skip)))))
 (.seq (.reg [Ro 21 (Mv 0), Ro 22 (.bin .sub (Sv 21) (Ci 1)), Ro 23 (Fd 3 1), Ro 24 (Ld 23), Ro 25 (.len false (Sv 24)), Ro 26 (.bin .add (Sv 22) (Sv 25)), Ro 5 (Mv 26)])
 .ret)))
def qeo : List ARes := [(.tmp (sl 5))]
theorem qoo : (Tryz.f124).body.bind (q9 Tryz.prog 8 (Tryz.f124).ntmps [] [] (drOk 8)) = some qeh := by kernel_rfl
theorem qou : qa Tryz.prog 8 (Tryz.f124).results.toList = some qeo := by kernel_rfl
def q48 : ACode :=
 (.seq (.reg [Ro 2 (.mv (.c (.slice none 0 0)))])
 (.seq (.reg [Ro 3 (Mv 0), Ro 4 (.call true (.f 140) [Sv 3]), Ro 2 (Mv 4)])
 .ret))
def q4c : List ARes := [(.tmp (sl 2))]
theorem qaa : (Tryz.f125).body.bind (q9 Tryz.prog 8 (Tryz.f125).ntmps [] [] (drOk 8)) = some q48 := by kernel_rfl
theorem qab : qa Tryz.prog 8 (Tryz.f125).results.toList = some q4c := by kernel_rfl
def q4n : ACode :=
 (.seq (.reg [Ro 2 (.box true (Sv 0)), Ro 4 (.mv (.c (.slice none 0 0)))])
 (.seq (.reg [Ro 5 (.mv (.c (.slice none 0 0)))])
 (.seq (.seq (.reg [Ro 8 (Mv 1), Ro 9 (.len false (Sv 8)), Ro 10 (.mv (Ci 0))])
 (.block 0
 (.loop (.seq (.reg [Ro 11 (.bin .lss (Sv 10) (Sv 9))])
 (.seq (.cond (Sv 11)
 .skip
 (.exit 0))
 (.seq (.block 1
 (.seq (.seq (.reg [Ro 12 (.idx true (Sv 8) (Sv 10) 6), Ro 13 (Lk 12 6), Ro 7 (.new [(.int .i64 0), (.int .i64 0), (.int .i64 0), (.int .u64 0), (.string ⟨#[]⟩), (.slice none 0 0)]), Rn (.ini 1 (Sv 7) (Sv 13) 6)])
 (.frz (sl 7)))
 (.reg [Ro 14 (Mv 5), Ro 15 (Lk 2 1), Ro 16 (Lk 7 6), Ro 17 (.call true (.f 141) [Sv 15, Sv 16]), Ro 18 (.mksl 6 1 [(.int .i64 0), (.int .i64 0), (.int .i64 0), (.int .u64 0), (.string ⟨#[]⟩), (.slice none 0 0)] [(0, 6, (Sv 17))]), Ro 19 (.app 53 6 72 (Sv 14) (Sv 18)), Ro 5 (Mv 19)])))
 (.reg [Ro 20 (.bin .add (Sv 10) (Ci 1)), Ro 10 (Mv 20)])))))))
 (.seq (.reg [Ro 21 (Mv 5), Ro 4 (Mv 21)])
 .ret))))
def q4s : List ARes := [(.tmp (sl 4))]
theorem qam : (Tryz.f126).body.bind (q9 Tryz.prog 8 (Tryz.f126).ntmps [4, 5, 14, 19, 21] [] (drOk 8)) = some q4n := by kernel_rfl
theorem qaq : qa Tryz.prog 8 (Tryz.f126).results.toList = some q4s := by kernel_rfl
def q5w : ACode :=
 (.seq (.reg [Ro 2 (.box true (Sv 0)), Ro 3 (.box false (Sv 1)), Ro 4 (.new [(.int .i64 0), (.int .i64 0), (.int .i64 0), (.slice none 0 0), (.int .i64 0), (.slice none 0 0)])])
 (.seq (.reg [Rl 5 (Lk 2 1) 0, Rl 6 (Fd 3 3) 1, Rl 7 (.ld false (Sv 6) none) 2, Rl 8 (.call false (.f 142) [Sv 5, Sv 7]) 3, Rl 9 (Lk 2 1) 4, Rl 10 (Fd 3 5) 5, Rl 11 (.ld false (Sv 10) none) 6, Rl 12 (.call false (.f 142) [Sv 9, Sv 11]) 7, Rl 13 (Fd 3 3) 8, ⟨none, none, (.st (Sv 13) (Sv 8) 1), (some (9, []))⟩, Rl 14 (Fd 3 5) 10, ⟨none, none, (.st (Sv 14) (Sv 12) 1), (some (11, []))⟩])
 (.seq (.seq (.reg [Ro 15 (Fd 3 0), Ro 16 (.ld false (Sv 15) none), Ro 17 (.bin .neq (Sv 16) (Ci 1))])
 (.cond (Sv 17)
 (.reg [Ro 18 (Fd 2 0), Ro 19 (Ld 18), Ro 20 (Fd 3 1), Ro 21 (.ld false (Sv 20) none), Ro 22 (.call false (Sv 19) [Sv 21]), Ro 23 (Fd 3 1), Rn (.st (Sv 23) (Sv 22) 1)])
 .skip))
 (.seq (.reg [Ro 24 (.ld false (Sv 3) (some 6)), Rn (.st (Sv 4) (Sv 24) 6)])
 .ret))))
def q62 : List ARes := [(.cell (sl 4) (some 6))]
theorem qbt : (Tryz.f127).body.bind (q9 Tryz.prog 8 (Tryz.f127).ntmps [3, 4, 6, 7, 10, 11, 13, 14, 15, 16, 20, 21, 23, 24] [] (drOk 8)) = some q5w := by kernel_rfl
theorem qby : qa Tryz.prog 8 (Tryz.f127).results.toList = some q62 := by kernel_rfl
def q1z : ACode :=
 (.seq (.reg [Ro 2 (.box true (Sv 0)), Ro 3 (.box false (Sv 1)), Ro 4 (.new [(.int .i64 0), (.int .i64 0), (.int .i64 0), (.int .u64 0), (.string ⟨#[]⟩), (.slice none 0 0)])])
 (.seq (.reg [Ro 6 (Fd 3 0), Ro 7 (.ld false (Sv 6) none), Ro 8 (.bin .geq (Sv 7) (Ci 2)), Ro 9 (Mv 8), Rg 10 9 true (Fd 3 0), Rg 11 9 true (.ld false (Sv 10) none), Rg 12 9 true (.bin .leq (Sv 11) (Ci 11)), Ro 13 (.pick (Sv 9) (Sv 12) (.c (.bool false))), Ro 5 (Mv 13)])
 (.seq (.seq (.reg [Ro 14 (Mv 5), Ro 15 (Mv 14), Rg 16 15 false (Fd 3 0), Rg 17 15 false (.ld false (Sv 16) none), Rg 18 15 false (.bin .eql (Sv 17) (Ci 13)), Ro 19 (.pick (Sv 15) (.c (.bool true)) (Sv 18)), Ro 20 (Mv 19), Rg 21 20 false (Fd 3 0), Rg 22 20 false (.ld false (Sv 21) none), Rg 23 20 false (.bin .eql (Sv 22) (Ci 16)), Ro 24 (.pick (Sv 20) (.c (.bool true)) (Sv 23))])
 (.cond (Sv 24)
 (.reg [Ro 25 (Fd 2 0), Ro 26 (Ld 25), Ro 27 (Fd 3 1), Ro 28 (.ld false (Sv 27) none), Ro 29 (.call false (Sv 26) [Sv 28]), Ro 30 (Fd 3 1), Rn (.st (Sv 30) (Sv 29) 1)])
 .skip))
 (.seq (.seq (.reg [Ro 31 (Mv 5)])
 (.cond (Sv 31)
 (.reg [Ro 32 (Fd 2 0), Ro 33 (Ld 32), Ro 34 (Fd 3 2), Ro 35 (.ld false (Sv 34) none), Ro 36 (.call false (Sv 33) [Sv 35]), Ro 37 (Fd 3 2), Rn (.st (Sv 37) (Sv 36) 1)])
 .skip))
 (.seq (.reg [Ro 38 (Lk 2 1), Ro 39 (Fd 3 5), Ro 40 (.ld false (Sv 39) none), Ro 41 (.call false (.f 142) [Sv 38, Sv 40]), Ro 42 (Fd 3 5), Rn (.st (Sv 42) (Sv 41) 1)])
 (.seq (.reg [Ro 43 (.ld false (Sv 3) (some 6)), Rn (.st (Sv 4) (Sv 43) 6)])
 .ret))))))
def q21 : List ARes := [(.cell (sl 4) (some 6))]
theorem qb5 : (Tryz.f141).body.bind (q9 Tryz.prog 8 (Tryz.f141).ntmps [3, 4, 6, 7, 10, 11, 16, 17, 21, 22, 27, 28, 30, 34, 35, 37, 39, 40, 42, 43] [] (drOk 8)) = some q1z := by kernel_rfl
theorem qbd : qa Tryz.prog 8 (Tryz.f141).results.toList = some q21 := by kernel_rfl
def q5v : ACode :=
 (.seq (.reg [Ro 2 (.box true (Sv 0)), Ro 4 (.mv (.c (.slice none 0 0)))])
 (.seq (.reg [Ro 5 (.mv (.c (.slice none 0 0)))])
 (.seq (.seq (.reg [Ro 8 (Mv 1), Ro 9 (.len false (Sv 8)), Ro 10 (.mv (Ci 0))])
 (.block 0
 (.loop (.seq (.reg [Ro 11 (.bin .lss (Sv 10) (Sv 9))])
 (.seq (.cond (Sv 11)
 .skip
 (.exit 0))
 (.seq (.block 1
 (.seq (.reg [Ro 12 (.idx true (Sv 8) (Sv 10) 1), Ro 13 (Ld 12), Ro 7 (Mv 13)])
 (.reg [Ro 14 (Mv 5), Ro 15 (Fd 2 0), Ro 16 (Ld 15), Ro 17 (Mv 7), Ro 18 (.call true (Sv 16) [Sv 17]), Ro 19 (.mksl 1 1 [(.int .i64 0)] [(0, 1, (Sv 18))]), Ro 20 (.app 3 1 8 (Sv 14) (Sv 19)), Ro 5 (Mv 20)])))
 (.reg [Ro 21 (.bin .add (Sv 10) (Ci 1)), Ro 10 (Mv 21)])))))))
 (.seq (.reg [Ro 22 (Mv 5), Ro 4 (Mv 22)])
 .ret))))
def q61 : List ARes := [(.tmp (sl 4))]
theorem qbs : (Tryz.f142).body.bind (q9 Tryz.prog 8 (Tryz.f142).ntmps [4, 5, 14, 20, 22] [] (drOk 8)) = some q5v := by kernel_rfl
theorem qbx : qa Tryz.prog 8 (Tryz.f142).results.toList = some q61 := by kernel_rfl
def q33 : ACode :=
 (.seq (.reg [Ro 2 (.box false (Sv 0)), Ro 4 (.new [(.int .i64 0), (.int .i64 0), (.int .i64 0), (.int .u64 0), (.string ⟨#[]⟩), (.slice none 0 0)])])
 (.seq (.seq (.reg [Ro 5 (Fd 2 0), Ro 6 (.ld false (Sv 5) none), Ro 7 (.bin .geq (Sv 6) (Ci 2)), Ro 8 (Mv 7), Rg 9 8 true (Fd 2 0), Rg 10 8 true (.ld false (Sv 9) none), Rg 11 8 true (.bin .leq (Sv 10) (Ci 11)), Ro 12 (.pick (Sv 8) (Sv 11) (.c (.bool false))), Ro 13 (Mv 12), Rg 14 13 false (Fd 2 0), Rg 15 13 false (.ld false (Sv 14) none), Rg 16 13 false (.bin .eql (Sv 15) (Ci 13)), Ro 17 (.pick (Sv 13) (.c (.bool true)) (Sv 16)), Ro 18 (Mv 17), Rg 19 18 false (Fd 2 0), Rg 20 18 false (.ld false (Sv 19) none), Rg 21 18 false (.bin .eql (Sv 20) (Ci 16)), Ro 22 (.pick (Sv 18) (.c (.bool true)) (Sv 21))])
 (.cond (Sv 22)
 (.reg [Ro 23 (Mv 1), Ro 24 (Fd 2 1), Ro 25 (.ld false (Sv 24) none), Ro 26 (.idx true (Sv 23) (Sv 25) 1), Ro 27 (.ld false (Sv 26) none), Ro 28 (Fd 2 1), Rn (.st (Sv 28) (Sv 27) 1)])
 .skip))
 (.seq (.seq (.reg [Ro 29 (Fd 2 0), Ro 30 (.ld false (Sv 29) none), Ro 31 (.bin .geq (Sv 30) (Ci 2)), Ro 32 (Mv 31), Rg 33 32 true (Fd 2 0), Rg 34 32 true (.ld false (Sv 33) none), Rg 35 32 true (.bin .leq (Sv 34) (Ci 11)), Ro 36 (.pick (Sv 32) (Sv 35) (.c (.bool false)))])
 (.cond (Sv 36)
 (.reg [Ro 37 (Mv 1), Ro 38 (Fd 2 2), Ro 39 (.ld false (Sv 38) none), Ro 40 (.idx true (Sv 37) (Sv 39) 1), Ro 41 (.ld false (Sv 40) none), Ro 42 (Fd 2 2), Rn (.st (Sv 42) (Sv 41) 1)])
 .skip))
 (.seq (.reg [Ro 43 (Fd 2 5), Ro 44 (.ld false (Sv 43) none), Ro 45 (Mv 1), Ro 46 (.call false (.f 107) [Sv 44, Sv 45]), Ro 47 (Fd 2 5), Rn (.st (Sv 47) (Sv 46) 1)])
 (.seq (.reg [Ro 48 (.ld false (Sv 2) (some 6)), Rn (.st (Sv 4) (Sv 48) 6)])
 .ret)))))
def q38 : List ARes := [(.cell (sl 4) (some 6))]
theorem qfu : (Tryz.f106).body.bind (q9 Tryz.prog 8 (Tryz.f106).ntmps [2, 4, 5, 6, 9, 10, 14, 15, 19, 20, 24, 25, 26, 27, 28, 29, 30, 33, 34, 38, 39, 40, 41, 42, 43, 44, 47, 48] [] (drOk 8)) = some q33 := by kernel_rfl
theorem qgc : qa Tryz.prog 8 (Tryz.f106).results.toList = some q38 := by kernel_rfl
def q7j : ACode :=
 (.seq (.reg [Ro 4 (.mv (.c (.slice none 0 0)))])
 (.seq (.reg [Ro 5 (.mv (.c (.slice none 0 0)))])
 (.seq (.seq (.reg [Ro 6 (.mv (Ci 0))])
 (.block 0
 (.loop (.seq (.seq (.reg [Ro 7 (Mv 6), Ro 8 (Mv 0), Ro 9 (.len false (Sv 8)), Ro 10 (.bin .lss (Sv 7) (Sv 9))])
 (.cond (Sv 10)
 .skip
 (.exit 0)))
 (.seq (.block 1
 (.reg [Ro 13 (Mv 5), Ro 14 (Mv 1), Ro 15 (Mv 0), Ro 16 (Mv 6), Ro 17 (.idx true (Sv 15) (Sv 16) 1), Ro 18 (Ld 17), Ro 19 (.idx true (Sv 14) (Sv 18) 1), Ro 20 (Ld 19), Ro 21 (.mksl 1 1 [(.int .i64 0)] [(0, 1, (Sv 20))]), Ro 22 (.app 3 1 8 (Sv 13) (Sv 21)), Ro 5 (Mv 22)]))
 (.reg [Ro 11 (Mv 6), Ro 12 (.bin .add (Sv 11) (Ci 1)), Ro 6 (Mv 12)]))))))
 (.seq (.reg [Ro 23 (Mv 5), Ro 4 (Mv 23)])
 .ret))))
def q7w : List ARes := [(.tmp (sl 4))]
theorem qe0 : (Tryz.f107).body.bind (q9 Tryz.prog 8 (Tryz.f107).ntmps [4, 5, 13, 22, 23] [] (drOk 8)) = some q7j := by kernel_rfl
theorem qed : qa Tryz.prog 8 (Tryz.f107).results.toList = some q7w := by kernel_rfl
def q9r : ACode :=
 (.seq (.reg [Ro 3 (.box true (Sv 0)), Ro 4 (.box true (Sv 1)), Ro 6 (.new [(.int .i64 0), (.slice none 0 0), (.int .i64 0), (.int .i64 0), (.int .i64 0), (.slice none 0 0), (.int .i64 0), (.slice none 0 0)]), Ro 7 (.mv (.c (.bool false)))])
 (.seq (.seq (.reg [Rl 14 (Mv 2) 0, Rl 15 (.bin .lss (Sv 14) (Ci 0)) 1, Rl 16 (Mv 15) 2, Rh 17 16 false (Mv 2) 3, Rh 18 16 false (Fd 3 1) 4, Rh 19 16 false (Ld 18) 5, Rh 20 16 false (.len false (Sv 19)) 6, Rh 21 16 false (.bin .geq (Sv 17) (Sv 20)) 7, Rl 22 (.pick (Sv 16) (.c (.bool true)) (Sv 21)) 8, Rl 23 (Mv 22) 9, Rh 24 23 false (Fd 3 1) 10, Rh 25 23 false (Ld 24) 11, Rh 26 23 false (Mv 2) 12, Rh 27 23 false (.idx true (Sv 25) (Sv 26) 6) 13, Rh 28 23 false (Fd 27 0) 14, Rh 29 23 false (Ld 28) 15, Rh 30 23 false (.bin .neq (Sv 29) (Ci 14)) 16, Rl 31 (.pick (Sv 23) (.c (.bool true)) (Sv 30)) 17, Rl 32 (Mv 31) 18, Rh 33 32 false (Fd 3 1) 19, Rh 34 32 false (Ld 33) 20, Rh 35 32 false (Mv 2) 21, Rh 36 32 false (.idx true (Sv 34) (Sv 35) 6) 22, Rh 37 32 false (Fd 36 5) 23, Rh 38 32 false (Ld 37) 24, Rh 39 32 false (.len false (Sv 38)) 25, Rh 40 32 false (Fd 4 0) 26, Rh 41 32 false (Ld 40) 27, Rh 42 32 false (.bin .neq (Sv 39) (Sv 41)) 28, Rl 43 (.pick (Sv 32) (.c (.bool true)) (Sv 42)) 29, Rl 44 (Mv 43) 30, Rh 45 44 false (Fd 4 2) 31, Rh 46 44 false (Fd 45 0) 32, Rh 47 44 false (Ld 46) 33, Rh 48 44 false (.bin .neq (Sv 47) (Ci 3)) 34, Rl 49 (.pick (Sv 44) (.c (.bool true)) (Sv 48)) 35, Rl 50 (Mv 49) 36, Rh 51 50 false (Fd 3 1) 37, Rh 52 50 false (Ld 51) 38, Rh 53 50 false (.len false (Sv 52)) 39, Rh 54 50 false (Fd 4 1) 40, Rh 55 50 false (Ld 54) 41, Rh 56 50 false (.len false (Sv 55)) 42, Rh 57 50 false (.bin .add (Sv 53) (Sv 56)) 43, Rh 58 50 false (.bin .gtr (Sv 57) (Ci 33)) 44, Rl 59 (.pick (Sv 50) (.c (.bool true)) (Sv 58)) 45])
 (.cond (Sv 59)
 (.seq (.reg [Ro 60 (Lk 3 8), Rn (.st (Sv 6) (Sv 60) 8), Ro 7 (.mv (.c (.bool false)))])
 .ret)
 .skip))
 (.seq (.reg [Ro 8 (.mv (.c (.slice none 0 0)))])
 (.seq (.seq (.reg [Ro 9 (.mv (Ci 0))])
 (.block 0
 (.loop (.seq (.seq (.reg [Ro 61 (Mv 9), Ro 62 (Fd 3 0), Ro 63 (Ld 62), Ro 64 (.bin .lss (Sv 61) (Sv 63))])
 (.cond (Sv 64)
 .skip
 (.exit 0)))
 (.seq (.block 1
 (.reg [Ro 67 (Mv 8), Ro 68 (Mv 9), Ro 69 (.mksl 1 1 [(.int .i64 0)] [(0, 1, (Sv 68))]), Ro 70 (.app 3 1 8 (Sv 67) (Sv 69)), Ro 8 (Mv 70)]))
 (.reg [Ro 65 (Mv 9), Ro 66 (.bin .add (Sv 65) (Ci 1)), Ro 9 (Mv 66)]))))))
 (.seq (.reg [Ro 71 (Fd 3 0), Ro 72 (Ld 71), Ro 73 (.bld [(.int .i64 0), (.slice none 0 0), (.int .i64 0), (.int .i64 0), (.int .i64 0), (.slice none 0 0), (.int .i64 0), (.slice none 0 0)] [(0, 1, (Sv 72))]), Ro 10 (.new [(.int .i64 0), (.slice none 0 0), (.int .i64 0), (.int .i64 0), (.int .i64 0), (.slice none 0 0), (.int .i64 0), (.slice none 0 0)]), Rn (.ini 1 (Sv 10) (Sv 73) 8)])
 (.seq (.seq (.reg [Ro 11 (.mv (Ci 0))])
 (.block 2
 (.loop (.seq (.seq (.reg [Ro 74 (Mv 11), Ro 75 (Fd 3 1), Ro 76 (Ld 75), Ro 77 (.len false (Sv 76)), Ro 78 (.bin .lss (Sv 74) (Sv 77))])
 (.cond (Sv 78)
 .skip
 (.exit 2)))
 (.seq (.block 3
 (.seq (.seq (.reg [Ro 81 (Mv 11), Ro 82 (Mv 2), Ro 83 (.bin .neq (Sv 81) (Sv 82))])
 (.cond (Sv 83)
 (.seq (.reg [Ro 84 (Mv 8), Ro 85 (Fd 3 0), Ro 86 (Ld 85), Ro 87 (Fd 10 1), Ro 88 (.ld false (Sv 87) none), Ro 89 (.len false (Sv 88)), Ro 90 (.bin .add (Sv 86) (Sv 89)), Ro 91 (.mksl 1 1 [(.int .i64 0)] [(0, 1, (Sv 90))]), Ro 92 (.app 3 1 8 (Sv 84) (Sv 91)), Ro 8 (Mv 92)])
 (.seq (.reg [Rl 93 (Fd 10 1) 0, Rl 94 (.ld false (Sv 93) none) 1, Rl 95 (Fd 3 1) 2, Rl 96 (Ld 95) 3, Rl 97 (Mv 11) 4, Rl 98 (.idx true (Sv 96) (Sv 97) 6) 5, Rl 99 (Lk 98 6) 6, Rl 100 (Mv 8) 7, Rl 101 (.call false (.f 106) [Sv 99, Sv 100]) 8, Rl 102 (.mksl 6 1 [(.int .i64 0), (.int .i64 0), (.int .i64 0), (.int .u64 0), (.string ⟨#[]⟩), (.slice none 0 0)] [(0, 6, (Sv 101))]) 9, Rl 103 (.app 53 6 72 (Sv 94) (Sv 102)) 10, Rl 104 (Fd 10 1) 11, ⟨none, none, (.st (Sv 104) (Sv 103) 1), (some (12, []))⟩])
 (.exit 3)))
 .skip))
 (.seq (.reg [Ro 105 (Fd 3 1), Ro 106 (Ld 105), Ro 107 (Mv 2), Ro 108 (.idx true (Sv 106) (Sv 107) 6), Ro 109 (Fd 108 5), Ro 110 (Ld 109), Ro 111 (Mv 8), Ro 112 (.callo 3 1 (.f 107) [Sv 110, Sv 111]), Ro 12 (Mv 112)])
 (.seq (.seq (.reg [Ro 13 (.mv (Ci 0))])
 (.block 4
 (.loop (.seq (.seq (.reg [Ro 113 (Mv 13), Ro 114 (Fd 4 1), Ro 115 (Ld 114), Ro 116 (.len false (Sv 115)), Ro 117 (.bin .lss (Sv 113) (Sv 116))])
 (.cond (Sv 117)
 .skip
 (.exit 4)))
 (.seq (.block 5
 (.seq (.reg [Ro 120 (Mv 12), Ro 121 (Fd 3 0), Ro 122 (Ld 121), Ro 123 (Fd 10 1), Ro 124 (.ld false (Sv 123) none), Ro 125 (.len false (Sv 124)), Ro 126 (.bin .add (Sv 122) (Sv 125)), Ro 127 (.mksl 1 1 [(.int .i64 0)] [(0, 1, (Sv 126))]), Ro 128 (.app 3 1 8 (Sv 120) (Sv 127)), Ro 12 (Mv 128)])
 (.reg [Rl 129 (Fd 10 1) 0, Rl 130 (.ld false (Sv 129) none) 1, Rl 131 (Fd 4 1) 2, Rl 132 (Ld 131) 3, Rl 133 (Mv 13) 4, Rl 134 (.idx true (Sv 132) (Sv 133) 6) 5, Rl 135 (Lk 134 6) 6, Rl 136 (Mv 12) 7, Rl 137 (.call false (.f 106) [Sv 135, Sv 136]) 8, Rl 138 (.mksl 6 1 [(.int .i64 0), (.int .i64 0), (.int .i64 0), (.int .u64 0), (.string ⟨#[]⟩), (.slice none 0 0)] [(0, 6, (Sv 137))]) 9, Rl 139 (.app 53 6 72 (Sv 130) (Sv 138)) 10, Rl 140 (Fd 10 1) 11, ⟨none, none, (.st (Sv 140) (Sv 139) 1), (some (12, []))⟩])))
 (.reg [Ro 118 (Mv 13), Ro 119 (.bin .add (Sv 118) (Ci 1)), Ro 13 (Mv 119)]))))))
 (.reg [Ro 141 (Mv 8), Ro 142 (Mv 12), Ro 143 (Fd 4 2), Ro 144 (Fd 143 1), Ro 145 (Ld 144), Ro 146 (.idx false (Sv 142) (Sv 145) 1), Ro 147 (.ld false (Sv 146) none), Ro 148 (.mksl 1 1 [(.int .i64 0)] [(0, 1, (Sv 147))]), Ro 149 (.app 3 1 8 (Sv 141) (Sv 148)), Ro 8 (Mv 149)])))))
 (.reg [Ro 79 (Mv 11), Ro 80 (.bin .add (Sv 79) (Ci 1)), Ro 11 (Mv 80)]))))))
 (.seq (.reg [Ro 150 (Fd 3 2), Ro 151 (Lk 150 6), Ro 152 (Fd 10 2), Rn (.st (Sv 152) (Sv 151) 6)])
 (.seq (.reg [Ro 153 (Fd 3 2), Ro 154 (Fd 153 3), Ro 155 (Ld 154), Ro 156 (Mv 8), Ro 157 (.callo 3 1 (.f 107) [Sv 155, Sv 156]), Ro 158 (Fd 10 2), Ro 159 (Fd 158 3), Rn (.st (Sv 159) (Sv 157) 1)])
 (.seq (.reg [Ro 160 (Fd 3 2), Ro 161 (Fd 160 5), Ro 162 (Ld 161), Ro 163 (Mv 8), Ro 164 (.callo 3 1 (.f 107) [Sv 162, Sv 163]), Ro 165 (Fd 10 2), Ro 166 (Fd 165 5), Rn (.st (Sv 166) (Sv 164) 1)])
 (.seq (.seq (.reg [Ro 167 (Fd 3 2), Ro 168 (Fd 167 0), Ro 169 (Ld 168), Ro 170 (.bin .neq (Sv 169) (Ci 1))])
 (.cond (Sv 170)
 (.reg [Ro 171 (Mv 8), Ro 172 (Fd 3 2), Ro 173 (Fd 172 1), Ro 174 (Ld 173), Ro 175 (.idx false (Sv 171) (Sv 174) 1), Ro 176 (.ld false (Sv 175) none), Ro 177 (Fd 10 2), Ro 178 (Fd 177 1), Rn (.st (Sv 178) (Sv 176) 1)])
 .skip))
 (.seq (.reg [Ro 179 (.ld false (Sv 10) (some 8)), Rn (.st (Sv 6) (Sv 179) 8), Ro 7 (.mv (.c (.bool true)))])
 .ret)))))))))))
def q9x : List ARes := [(.cell (sl 6) (some 8)), (.tmp (sl 7))]
theorem qie : (Tryz.f80).body.bind (q9 Tryz.prog 8 (Tryz.f80).ntmps [6, 8, 10, 12, 67, 70, 84, 87, 88, 92, 93, 94, 100, 103, 104, 111, 112, 120, 123, 124, 128, 129, 130, 136, 139, 140, 141, 142, 146, 147, 148, 149, 152, 156, 157, 158, 159, 163, 164, 165, 166, 171, 175, 176, 177, 178, 179] [(107, 3, 1)] (drOk 8)) = some q9r := by kernel_rfl
theorem qim : qa Tryz.prog 8 (Tryz.f80).results.toList = some q9x := by kernel_rfl
theorem qp3 {ys : List Int} {k : Nat} {y : Int} (h : ys[k]?.getD 0 = y) : ∀ i, i < k + 1 → q13 k (fun i => intC (ys[i]?.getD 0)) (fun i => List.take 1 (List.drop i [DV.int y])) i = intC (ys[i]?.getD 0) := by
 intro i hi
 unfold q13
 split
 ·rfl
 ·obtain rfl : i = k := by omega
  rw [h]
  simp [intC]
set_option maxRecDepth 10000 in
theorem qij (l nu : List Int) (hl : l.length ≤ 17592186044416) (hin : AllIn (inL nu) l) : AOwn Tryz.prog 107 [ql l, ql nu] 3 1 (q5n l nu).length (fun k => intC ((q5n l nu)[k]?.getD 0)) := by
 refine z4s _ [] Tryz.func107 (by kernel_rfl) qe0 qed rfl rfl (fun _ => ?_)
 simp [q7j, q7w]
 refine qe (κ := Nat) (fun k => k ≤ l.length) (fun k => l.length - k) (fun k => [(sl 6, .int k), (sl 5, .own 0 k)]) (fun k => [(0, .row 3 1 k (fun i => intC ((q5n l nu)[i]?.getD 0)))]) 1 0 (srcs [(0, .nil)]) (by simp) (by simp <;> (intros; omega)) ?_
 intro k hk
 simp
 refine ⟨fun hlt => ?_, fun hge => ?_⟩
 ·have hk' := hin k hlt
  rw [getD_some hlt]
  refine ⟨hlt, hk', by omega, k + 1, by omega, by omega, srcs [(0, .id 14)], ?_⟩
  simp [SLeK]
  exact ⟨q6 (q5 (by omega)), qp3 (z3s hlt)⟩
 ·obtain rfl : k = l.length := by omega
  rfl
set_option maxRecDepth 10000 in
theorem qq8 (g : Int → Int) (x : Inst) {a b : Int} (ha : a = if q69 x.op then g x.a else x.a) (hb : b = if q73 x.op then g x.b else x.b) : [DV.int x.op, DV.int a, DV.int b, DV.lit (Value.int IntKind.u64 x.k), DV.str x.name, ql (x.args.map g)] = qp (qi g x) := by
 subst ha; subst hb
 rfl
set_option maxRecDepth 10000 in
theorem qww (x : Inst) (nu : List Int) (hl : x.args.length ≤ 17592186044416) (hin : InstIn (inL nu) x) : APure Tryz.prog 106 [.agg (qp x), ql nu] (.agg (qp (qi (nuAt nu) x))) := by
 refine qb _ [] Tryz.func106 (by kernel_rfl) qfu qgc rfl rfl (fun _ => ?_)
 have hc : APure Tryz.prog 107 [ql x.args, ql nu] (ql (q5n x.args nu)) := (qij x.args nu hl hin.args).pure
 have fin : ∀ a b : Int, (a = if q69 x.op then nuAt nu x.a else x.a) → (b = if q73 x.op then nuAt nu x.b else x.b) → DLe (.agg [DV.int x.op, DV.int a, DV.int b, DV.lit (Value.int IntKind.u64 x.k), DV.str x.name, ql (q5n x.args nu)]) (.agg (qp (qi (nuAt nu) x))) := fun a b ha hb => by
  rw [← qq8 (nuAt nu) x ha hb]; exact DLe.refl _
 by_cases h2 : q73 x.op = true
 ·have h1 : q69 x.op = true := by simp [q69, h2]
  have ha := hin.a h1
  have hb := hin.b h2
  have fin := fin (nuAt nu x.a) (nuAt nu x.b) (by rw [if_pos h1]) (by rw [if_pos h2])
  simp [q73] at h2
  simp [q33, q38, h2]
  refine ⟨ha, hb, q4 _ (by simp) (by simp) (fun _ => rfl) (fun _ => hc) ?_⟩
  simp
  exact fin
 ·have fin := fun a ha => fin a x.b ha (by rw [if_neg h2])
  by_cases h1 : q69 x.op = true
  ·have ha := hin.a h1
   have fin := fin (nuAt nu x.a) (by rw [if_pos h1])
   have h1' := (q27 _).1 h1
   rw [q4b] at h2
   rcases (by omega : x.op = 13 ∨ x.op = 16) with h | h
   all_goals
    simp [h] at fin
    simp [q33, q38, h]
    refine ⟨ha, q4 _ (by simp) (by simp) (fun _ => rfl) (fun _ => hc) ?_⟩
    simp
    exact fin
  ·have fin := fin x.a (by rw [if_neg h1])
   rw [q27] at h1
   have h13 : ¬ x.op = 13 := by omega
   have h16 : ¬ x.op = 16 := by omega
   rcases (by omega : ¬ 2 ≤ x.op ∨ (2 ≤ x.op ∧ ¬ x.op ≤ 11)) with h | h
   all_goals
    simp [q33, q38, h13, h16, h]
    refine q4 _ (by simp) (by simp) (fun _ => rfl) (fun _ => hc) ?_
    simp
    exact fin
theorem qey {ys : List Inst} {k : Nat} {y : Inst} (h : ys[k]?.getD default = y) : ∀ i, i < k + 1 → q13 k (fun i => qp (ys[i]?.getD default)) (fun i => List.take 6 (List.drop (i * 6) [DV.int y.op, DV.int y.a, DV.int y.b, DV.lit (Value.int IntKind.u64 y.k), DV.str y.name, ql y.args])) i = qp (ys[i]?.getD default) := by
 intro i hi
 unfold q13
 split
 ·rfl
 ·obtain rfl : i = k := by omega
  rw [h]
  simp [qp]
def z1l (F : FuncId) (caps : List DV) (dom : Int → Prop) (g : Int → Int) : Prop := ∀ v, dom v → APure Tryz.prog F (.int v :: caps) (.int (g v))
set_option maxRecDepth 10000 in
theorem qfa {F : FuncId} {caps : List DV} {dom : Int → Prop} {g : Int → Int} (hF : z1l F caps dom g) (l : List Int) (hl : l.length ≤ 17592186044416) (hin : AllIn dom l) :
  APure Tryz.prog 142 [.agg [.fn F caps], ql l] (ql (l.map g)) := by
 refine qb _ [] Tryz.func142 (by kernel_rfl) qbs qbx rfl rfl (fun _ => ?_)
 obtain ⟨ys, hys⟩ : ∃ ys, ys = l.map g := ⟨_, rfl⟩
 rw [← hys]
 have hyl : ys.length = l.length := by rw [hys]; simp
 have hyk : ∀ k (h : k < l.length), ys[k]?.getD 0 = g l[k] := fun k h => by rw [hys]; simp [h]
 clear hys
 simp [q5v, q61]
 refine qel (κ := Nat) (fun k => k ≤ l.length) (fun k => l.length - k) (fun k => [(sl 10, .int k), (sl 5, .own 0 k)]) (fun k => [(0, .row 3 1 k (fun i => intC (ys[i]?.getD 0)))]) 1 0 (srcs [(0, .nil)]) (by simp) (by simp <;> (intros; omega)) ?_
 intro k hk
 simp
 refine ⟨fun hlt => ?_, fun hge => q36 (by omega) (fun i hi => by rw [getD_some hi])⟩
 have hc := hF _ (hin k hlt)
 rw [getD_some hlt]
 refine ⟨hlt, q4 _ (by simp) (by simp) (fun _ => by simp) (fun _ => hc) ?_⟩
 simp
 refine ⟨by omega, k + 1, by omega, by omega, srcs [(0, .id 11)], ?_⟩
 simp
 exact ⟨q6 (q5 (by omega)), qp3 (hyk k hlt)⟩
set_option maxRecDepth 10000 in
theorem qvh {F : FuncId} {caps : List DV} {dom : Int → Prop} {g : Int → Int} (hF : z1l F caps dom g) (x : Inst) (hl : x.args.length ≤ 17592186044416) (hin : InstIn dom x) :
  APure Tryz.prog 141 [.agg [.fn F caps], .agg (qp x)] (.agg (qp (qi g x))) := by
 refine qb _ [] Tryz.func141 (by kernel_rfl) qb5 qbd rfl rfl (fun _ => ?_)
 have hc := qfa hF x.args hl hin.args
 have fin : ∀ a b : Int, (a = if q69 x.op then g x.a else x.a) → (b = if q73 x.op then g x.b else x.b) → DLe (.agg [DV.int x.op, DV.int a, DV.int b, DV.lit (Value.int IntKind.u64 x.k), DV.str x.name, ql (x.args.map g)]) (.agg (qp (qi g x))) := fun a b ha hb => by
  rw [← qq8 g x ha hb]; exact DLe.refl _
 by_cases h2 : q73 x.op = true
 ·have h1 : q69 x.op = true := by simp [q69, h2]
  have ha := hF _ (hin.a h1)
  have hb := hF _ (hin.b h2)
  have fin := fin (g x.a) (g x.b) (by rw [if_pos h1]) (by rw [if_pos h2])
  simp [q73] at h2
  simp [q1z, q21, h2]
  refine q4 _ (by simp) (by simp) (fun _ => by simp) (fun _ => ha) ?_
  simp
  refine q4 _ (by simp) (by simp) (fun _ => by simp) (fun _ => hb) ?_
  simp
  refine q4 _ (by simp) (by simp) (fun _ => rfl) (fun _ => hc) ?_
  simp
  exact fin
 ·have fin := fun a ha => fin a x.b ha (by rw [if_neg h2])
  by_cases h1 : q69 x.op = true
  ·have ha := hF _ (hin.a h1)
   have fin := fin (g x.a) (by rw [if_pos h1])
   have h1' := (q27 _).1 h1
   rw [q4b] at h2
   rcases (by omega : x.op = 13 ∨ x.op = 16) with h | h
   all_goals
    simp [h] at fin
    simp [q1z, q21, h]
    refine q4 _ (by simp) (by simp) (fun _ => by simp) (fun _ => ha) ?_
    simp
    refine q4 _ (by simp) (by simp) (fun _ => rfl) (fun _ => hc) ?_
    simp
    exact fin
  ·have fin := fin x.a (by rw [if_neg h1])
   rw [q27] at h1
   have h13 : ¬ x.op = 13 := by omega
   have h16 : ¬ x.op = 16 := by omega
   rcases (by omega : ¬ 2 ≤ x.op ∨ (2 ≤ x.op ∧ ¬ x.op ≤ 11)) with h | h
   all_goals
    simp [q1z, q21, h13, h16, h]
    refine q4 _ (by simp) (by simp) (fun _ => rfl) (fun _ => hc) ?_
    simp
    exact fin
set_option maxRecDepth 10000 in
theorem qhr {F : FuncId} {caps : List DV} {dom : Int → Prop} {g : Int → Int} (hF : z1l F caps dom g) (l : List Inst) (hl : l.length ≤ 1000) (hx : ∀ k (h : k < l.length), l[k].args.length ≤ 17592186044416 ∧ InstIn dom l[k]) :
  APure Tryz.prog 126 [.agg [.fn F caps], insD l] (insD (l.map (qi g))) := by
 refine qb _ [] Tryz.func126 (by kernel_rfl) qam qaq rfl rfl (fun _ => ?_)
 obtain ⟨ys, hys⟩ : ∃ ys, ys = l.map (qi g) := ⟨_, rfl⟩
 rw [← hys]
 have hyl : ys.length = l.length := by rw [hys]; simp
 have hyk : ∀ k (h : k < l.length), ys[k]?.getD default = qi g l[k] := fun k h => by rw [hys]; simp [h]
 clear hys
 simp [q4n, q4s]
 refine qel (κ := Nat) (fun k => k ≤ l.length) (fun k => l.length - k) (fun k => [(sl 10, .int k), (sl 5, .own 0 k)]) (fun k => [(0, .row 53 6 k (fun i => qp (ys[i]?.getD default)))]) 1 0 (srcs [(0, .nil)]) (by simp) (by simp <;> (intros; omega)) ?_
 intro k hk
 simp
 refine ⟨fun hlt => ?_, fun hge => qmp (by omega) (fun i hi => by rw [getD_some hi])⟩
 have hc := qvh hF l[k] (hx k hlt).1 (hx k hlt).2
 rw [getD_some hlt]
 refine ⟨hlt, q4 _ (by simp) (by simp) (fun _ => rfl) (fun _ => hc) ?_⟩
 simp
 refine ⟨by omega, k + 1, by omega, by omega, srcs [(0, .id 11)], ?_⟩
 simp
 exact ⟨q6 (q5 (by omega)), qey (hyk k hlt)⟩
set_option maxRecDepth 10000 in
theorem qyb {F : FuncId} {caps : List DV} {dom : Int → Prop} {g : Int → Int} (hF : z1l F caps dom g) (b : Block) (hl : b.args.length ≤ 17592186044416) (hl' : b.elses.length ≤ 17592186044416) (hin : AllIn dom b.args) (hin' : AllIn dom b.elses) (ht : ¬ b.kind = 1 → dom b.ta) :
  APure Tryz.prog 127 [.agg [.fn F caps], .agg (qd1 b)] (.agg [.int b.kind, .int (if b.kind = 1 then b.ta else g b.ta), .int b.to, ql (b.args.map g), .int b.els, ql (b.elses.map g)]) := by
 refine qb _ [] Tryz.func127 (by kernel_rfl) qbt qby rfl rfl (fun _ => ?_)
 have hc := qfa hF b.args hl hin
 have hc' := qfa hF b.elses hl' hin'
 simp [q5w, q62]
 refine q4 _ (by simp) (by simp) (fun _ => rfl) (fun _ => hc) ?_
 simp
 refine q4 _ (by simp) (by simp) (fun _ => rfl) (fun _ => hc') ?_
 simp
 refine ⟨fun h => ?_, fun h => ?_⟩
 ·have hd := hF _ (ht h)
  refine q4 _ (by simp) (by simp) (fun _ => by simp) (fun _ => hd) ?_
  simp [h]
 ·simp [h]
def q23 : ACode :=
 (.seq (.reg [Ro 2 (.mv (.c (.slice none 0 0)))])
 (.seq (.reg [Ro 3 (.mv (Ci 0))])
 (.seq (.seq (.reg [Ro 9 (Mv 0), Ro 10 (.len false (Sv 9)), Ro 11 (.mv (Ci 0))])
 (.block 0
 (.loop (.seq (.reg [Ro 12 (.bin .lss (Sv 11) (Sv 10))])
 (.seq (.cond (Sv 12)
 .skip
 (.exit 0))
 (.seq (.block 1
 (.seq (.reg [Ro 13 (.idx true (Sv 9) (Sv 11) 1), Ro 14 (Ld 13), Ro 5 (Mv 14)])
 (.seq (.reg [Ro 15 (Mv 3), Ro 16 (Mv 5), Ro 17 (.len false (Sv 16)), Ro 18 (.bin .add (Sv 15) (Sv 17)), Ro 3 (Mv 18)])
 (.seq (.reg [Ro 19 (Mv 3), Ro 20 (.bin .lss (Sv 19) (Ci 0))])
 (.cond (Sv 20)
 (.reg [⟨(some (sl 21)), none, .bad, none⟩, ⟨none, none, .bad, none⟩])
 .skip)))))
 (.reg [Ro 22 (.bin .add (Sv 11) (Ci 1)), Ro 11 (Mv 22)])))))))
 (.seq (.reg [Ro 23 (Mv 3), Ro 24 (.callo 53 6 (.f 147) [(.c (.slice none 0 0)), Sv 23]), Ro 6 (Mv 24)])
 (.seq (.seq (.reg [Ro 25 (Mv 0), Ro 26 (.len false (Sv 25)), Ro 27 (.mv (Ci 0))])
 (.block 2
 (.loop (.seq (.reg [Ro 28 (.bin .lss (Sv 27) (Sv 26))])
 (.seq (.cond (Sv 28)
 .skip
 (.exit 2))
 (.seq (.block 3
 (.seq (.reg [Ro 29 (.idx true (Sv 25) (Sv 27) 1), Ro 30 (Ld 29), Ro 8 (Mv 30)])
 (.reg [Ro 31 (Mv 6), Ro 32 (Mv 8), Ro 33 (.app 53 6 72 (Sv 31) (Sv 32)), Ro 6 (Mv 33)])))
 (.reg [Ro 34 (.bin .add (Sv 27) (Ci 1)), Ro 27 (Mv 34)])))))))
 (.seq (.reg [Ro 35 (Mv 6), Ro 2 (Mv 35)])
 .ret))))))
def q25 : List ARes := [(.tmp (sl 2))]
theorem q4f : (Tryz.f140).body.bind (q9 Tryz.prog 8 (Tryz.f140).ntmps [2, 6, 24, 31, 33, 35] [(147, 53, 6)] (drOk 8)) = some q23 := by kernel_rfl
theorem q4g : qa Tryz.prog 8 (Tryz.f140).results.toList = some q25 := by kernel_rfl
theorem z67 : (Tryz.prog.info? 53).map (fun i => (i.zero, i.size, i.bytes)) = some (some (.agg #[.int .i64 0, .int .i64 0, .int .i64 0, .int .u64 0, .string ⟨#[]⟩, .slice none 0 0]), 6, 72) := by kernel_rfl
theorem z50 : HasBody Tryz.prog 147 := by
 cases hb : (Tryz.f147).body with
 | none => cases hb
 | some c => exact ⟨_, c, Tryz.func147, by kernel_rfl, hb⟩
set_option maxHeartbeats 1000000 in
set_option maxRecDepth 100000 in
theorem grow_own (n : Nat) (hn : n ≤ 1000) :
  AOwn Tryz.prog 147 [.lit (.slice none 0 0), .int n] 53 6 0 (fun _ => []) := by
 refine ⟨z50, fun X w vs _ hvs => ?_⟩
 obtain ⟨l⟩ := vs
 have hvs' : DReps X w l [.lit (.slice none 0 0), .int n] := hvs
 obtain ⟨v1, l1, rfl, h1, h2⟩ := hvs'.uncons
 obtain ⟨v2, l2, rfl, h3, h4⟩ := h2.uncons
 obtain rfl := h4.unnil
 cases h1
 cases h3
 clear h2 h4 hvs hvs'
 by_cases h0 : n = 0
 ·subst h0
  go_enter Tryz.func147, Tryz.ntmps147
  go_wp2_with fail
  go_ret
  exact ⟨Ext.refl _, _, rfl, fun _ => [], by simpa using World.ownsRow_nil _ _ _ _, fun i hi => by omega⟩
 ·obtain ⟨i0, hi, hz0, hz1, hz2⟩ := info_parts z67
  have hpos : 0 < n := by omega
  have hzr := Lib.run_append_nil_zeros (P := Tryz.prog) w 54 3 54 53 i0 _ .i64 .i64 Tryz.underlying54 Tryz.underlying3 hi hz0 n hpos (by omega) (by omega) (by rw [hz2]; omega)
  go_enter Tryz.func147, Tryz.ntmps147
  go_wp2_with (at_builtin; refine Lib.wpList_append_run _ rfl _ _ _ _ rfl _ _ rfl rfl _ _ hzr ?_)
  go_ret
  have hge := grownCap_ge w n 0 53
  have hle := grownCap_le_maxLen w n 0 53 (by unfold maxLen; omega)
  refine ⟨(Ext.drew w).trans (Ext.alloc _ _), _, rfl, fun _ => [], ?_, fun i hi => by omega⟩
  refine ⟨by simp, .inr ⟨w.heap.size, _, _, rfl, Nat.le_refl _, heap_alloc_new w.drew _, Nat.zero_le _, hle, ?_, by simp⟩⟩
  rw [Array.size_append, size_zeroCells, size_zeroCells]
  show n * 6 + (_ - n) * 6 = _ * 6
  omega
structure LeafOk (leaf : Block) (args : List Int) (first : Int) : Prop where
 p : (args.length : Int) = leaf.params
 p0 : 0 ≤ leaf.params
 p6 : leaf.params ≤ 6
 n : leaf.ins.length ≤ 32
 f0 : 0 ≤ first
 f1 : first ≤ 100
 t : upTo (leaf.params + leaf.ins.length) leaf.ta
def caps1 (leaf : Block) (args : List Int) (first : Int) : List DV := [.cref (qd leaf) 0, .cref [ql args] 0, .cref [.int first] 0]
def caps2 (leaf : Block) (args : List Int) (first : Int) : List DV := [.cref [.int first] 0, .cref [.fn 123 (caps1 leaf args first)] 0, .cref (qd leaf) 0]
set_option maxRecDepth 10000 in
theorem qvn {leaf : Block} {args : List Int} {first : Int} (h : LeafOk leaf args first) : z1l 123 (caps1 leaf args first) (upTo 1000) (qs7 leaf.params args first) := by
 intro v hv
 obtain ⟨hp, p0, p6, n, f0, f1, t⟩ := h
 refine qb _ [] Tryz.func123 (by kernel_rfl) qon qot rfl rfl (fun _ => ?_)
 have hw : IntKind.i64.wrap (first + v) = first + v := qq (by have := hv.1; have := hv.2; omega)
 have hw' : IntKind.i64.wrap (first + v - leaf.params) = first + v - leaf.params := qq (by have := hv.1; have := hv.2; omega)
 simp [qeg, qen, caps1, hw, hw']
 refine ⟨fun hlt => ⟨⟨hv.1, by omega⟩, q6 ?_⟩, fun hge => q6 ?_⟩
 ·unfold qs7; rw [if_pos hlt]
 ·unfold qs7; rw [if_neg (by omega)]
set_option maxRecDepth 10000 in
theorem z6w {leaf : Block} {args : List Int} {first : Int} (h : LeafOk leaf args first) : z1l 124 (caps2 leaf args first) (upTo 1000) (q6e leaf.params args first leaf.ta leaf.ins.length) := by
 intro v hv
 have h1 := qvn h leaf.ta ⟨h.t.1, by have := h.t.2; have := h.p6; have := h.n; omega⟩
 obtain ⟨hp, p0, p6, n, f0, f1, t⟩ := h
 refine qb _ [] Tryz.func124 (by kernel_rfl) qoo qou rfl rfl (fun _ => ?_)
 have hw : IntKind.i64.wrap (v - 1) = v - 1 := qq (by have := hv.1; have := hv.2; omega)
 have hw' : IntKind.i64.wrap (v - 1 + leaf.ins.length) = v - 1 + leaf.ins.length := qq (by have := hv.1; have := hv.2; omega)
 simp [qeh, qeo, caps2, hw, hw']
 refine ⟨fun hlt => q6 ?_, fun hge => ⟨fun he => ?_, fun hne => q6 ?_⟩⟩
 ·unfold q6e; rw [if_pos hlt]
 ·refine q4 _ (by simp) (by simp) (fun _ => by simp) (fun _ => h1) ?_
  simp
  refine q6 ?_
  unfold q6e; rw [if_neg (by omega), if_pos he]
 ·unfold q6e; rw [if_neg (by omega), if_neg hne]
theorem z2b {α : Type} (ls : List (List α)) (htot : ls.flatten.length ≤ 1000) : ∃ (fl : List α) (sz : Nat → Nat), sz 0 = 0 ∧ (∀ k (h : k < ls.length), sz (k + 1) = sz k + ls[k].length) ∧ (∀ k, k ≤ ls.length → sz k ≤ 1000) ∧ (sz ls.length = fl.length ∧ fl = ls.flatten) ∧
  ∀ k (h : k < ls.length) j, j < ls[k].length → fl[sz k + j]? = ls[k][j]? := by
 refine ⟨ls.flatten, fun k => (ls.take k).flatten.length, by simp, fun k h => ?_, fun k h => ?_, ⟨by simp, rfl⟩, fun k h j hj => ?_⟩
 ·simp only []
  rw [List.take_succ_eq_append_getElem h, List.flatten_append, List.length_append]
  simp
 ·have e : ls.flatten = (ls.take k).flatten ++ (ls.drop k).flatten := by rw [← List.flatten_append, List.take_append_drop]
  rw [e, List.length_append] at htot
  simp only []
  omega
 ·have e : ls.flatten = (ls.take k).flatten ++ (ls[k] ++ (ls.drop (k + 1)).flatten) := by
   conv => lhs; rw [← List.take_append_drop k ls]
   rw [List.flatten_append, List.drop_eq_getElem_cons h, List.flatten_cons]
  rw [e, List.getElem?_append_right (by simp only []; omega)]
  simp only [Nat.add_sub_cancel_left]
  rw [List.getElem?_append_left hj]
theorem DLe_refl (x : DV) : DLe x x := DLe.refl x
set_option maxRecDepth 10000 in
theorem qxf (ls : List (List Inst)) (hn : ls.length ≤ 10) (htot : ls.flatten.length ≤ 1000) :
  APure Tryz.prog 140 [.sl 1 ls.length (fun k => [insD (ls[k]?.getD [])])] (insD ls.flatten) := by
 refine qb _ _ Tryz.func140 (by kernel_rfl) q4f q4g rfl rfl (fun _ => ?_)
 obtain ⟨fl, sz, hs0, hsz, hs1, hsn, hfl⟩ := z2b ls htot
 simp [q23, q25]
 refine qel (κ := Nat) (fun k => k ≤ ls.length) (fun k => ls.length - k) (fun k => [(sl 11, .int k), (sl 3, .int (sz k))]) (fun k => []) 0 0 (srcs []) (by simp) (by simp [hs0]) ?_
 intro k hk
 simp
 refine ⟨fun hlt => ?_, fun hge => ?_⟩
 ·have hle := hsz k hlt
  rw [getD_some hlt]
  have hw : IntKind.i64.wrap ((sz k : Int) + (ls[k].length : Int)) = sz (k + 1) := by rw [qq (by have := hs1 (k + 1) hlt; omega)]; omega
  rw [hw]
  exact ⟨hlt, by omega, fun _ => ⟨k + 1, by omega, by omega, ⟨DLe_refl _, q6 (q5 (by omega))⟩, srcs [], by simp⟩⟩
 obtain rfl : k = ls.length := by omega
 refine qro 0 (fun _ => []) (by simp) (by simp) rfl (grow_own (sz ls.length) (hs1 _ (Nat.le_refl _))) ?_
 simp
 refine qel (κ := Nat) (fun k => k ≤ ls.length) (fun k => ls.length - k) (fun k => [(sl 27, .int k), (sl 6, .own 0 (sz k))]) (fun k => [(0, .row 53 6 (sz k) (fun i => qp (fl[i]?.getD default)))]) 1 0 (srcs [(0, .id 2)]) (by simp) (by simp [hs0] <;> (intros; omega)) ?_
 intro k hk
 simp
 refine ⟨fun hlt => ?_, fun hge => by
  obtain ⟨h1, rfl⟩ := hsn
  exact qmp (by rw [← h1]; congr 1; omega) (fun i hi => by rw [getD_some hi])⟩
 have hle := hsz k hlt
 have h2 := hs1 (k + 1) hlt
 rw [getD_some hlt]
 refine ⟨hlt, by omega, k + 1, by omega, by omega, srcs [(0, .id 7)], ?_⟩
 simp
 refine ⟨⟨by omega, q6 (q5 (by omega))⟩, ⟨by omega, fun i hi => ?_⟩⟩
 unfold q13
 split
 ·rfl
 ·rename_i hni
  have := hfl k hlt (i - sz k) (by omega)
  rw [show sz k + (i - sz k) = i by omega] at this
  rw [this]
set_option maxRecDepth 10000 in
theorem qy1 (ls : List (List Inst)) (hn : ls.length ≤ 10) (htot : ls.flatten.length ≤ 1000) :
  APure Tryz.prog 125 [.sl 1 ls.length (fun k => [insD (ls[k]?.getD [])])] (insD ls.flatten) := by
 refine qb _ [] Tryz.func125 (by kernel_rfl) qaa qab rfl rfl (fun _ => ?_)
 simp [q48, q4c]
 refine q4 _ (by simp) (by simp) (fun _ => rfl) (fun _ => qxf ls hn htot) ?_
 simp
set_option maxHeartbeats 2000000 in
set_option maxRecDepth 10000 in
theorem z6z (b leaf : Block) (at_ : Int) (hb : NumsOk b) (hl : NumsOk leaf) :
  APure Tryz.prog 102 [.agg (qd b), .agg (qd leaf), .int at_] (.tup [.agg (qd (if q60 b leaf at_ then putB b leaf at_ else b)), .bool (q60 b leaf at_)]) := by
 refine qb _ [] Tryz.func102 (by kernel_rfl) qwk qwz rfl rfl (fun _ => ?_)
 have hw : IntKind.i64.wrap ((b.ins.length : Int) - 1) = b.ins.length - 1 := qq (by have := hb.n32; omega)
 have hw' : IntKind.i64.wrap ((b.ins.length : Int) - 1 + leaf.ins.length) = b.ins.length - 1 + leaf.ins.length := qq (by have := hb.n32; have := hl.n32; omega)
 simp [qjj, qk0, hw, hw']
 refine ⟨fun h1 h2 h3 => ⟨⟨⟨h1, h2⟩, h3⟩, h1, h2⟩, fun h => ?_, fun h0 h1 h2 h3 h4 h5 => ⟨⟨h0, h1⟩, ⟨h0, by omega⟩, ?_⟩⟩
 ·have e : q60 b leaf at_ = false := by
   rw [← Bool.not_eq_true]
   intro hy
   simp [q60, qce] at hy
   obtain ⟨⟨⟨⟨⟨a1, a2⟩, a3⟩, a4⟩, a5⟩, a6⟩ := hy
   rcases h with (((((h | h) | h) | h) | h) | h)
   ·omega
   ·omega
   ·exact h (of_decide_eq_true a3)
   ·exact h (of_decide_eq_true a4)
   ·exact h a5
   ·omega
  rw [e]
  exact DLe.refl _
 have e : q60 b leaf at_ = true := by
  unfold q60 qce
  rw [decide_eq_true h0, decide_eq_true h1, decide_eq_true h2, decide_eq_true h3, decide_eq_true h4, decide_eq_true h5]; rfl
 rw [e]
 obtain ⟨k, rfl⟩ := Int.eq_ofNat_of_zero_le h0
 have hk : k < b.ins.length := by omega
 have hn := hb.n32
 have hp := hb.p6
 have hp0 := hb.p0
 have hL : LeafOk leaf (b.ins[k]?.getD default).args (b.params + (k : Int)) := ⟨h3, hl.p0, hl.p6, hl.n32, by omega, by omega, hl.ta (by omega)⟩
 have hw3 : IntKind.i64.wrap (b.params + (k : Int)) = b.params + k := qq (by omega)
 have hw4 : IntKind.i64.wrap ((k : Int) + 1) = (k : Int) + 1 := qq (by omega)
 have T1 := qvn hL
 have T2 := z6w hL
 have hdom : ∀ v, upTo (leaf.params + leaf.ins.length) v → upTo 1000 v := fun v hv => ⟨hv.1, by have := hv.2; have := hl.p6; have := hl.n32; omega⟩
 have hdom' : ∀ v, upTo (b.params + b.ins.length) v → upTo 1000 v := fun v hv => ⟨hv.1, by have := hv.2; omega⟩
 have c1 := qhr T1 leaf.ins (by have := hl.n32; omega) (fun j hj => ⟨by have := hl.args6 j hj; omega, (hl.ins j hj).mono (fun v hv => hdom v ⟨hv.1, by have := hv.2; omega⟩)⟩)
 have c2 := qhr T2 (b.ins.drop (k + 1)) (by simp; omega) (fun j hj => by
  simp at hj ⊢
  exact ⟨by have := hb.args6 (k + 1 + j) (by omega); omega, (hb.ins (k + 1 + j) (by omega)).mono (fun v hv => hdom' v ⟨hv.1, by have := hv.2; omega⟩)⟩)
 have c3 := qyb T2 b (by have := hb.args17; omega) (by have := hb.elses17; omega) (hb.args.mono hdom') (hb.elses.mono hdom') (fun h => hdom' _ (hb.ta h))
 rw [hw3]
 refine q4 _ (by simp) (by simp) (fun _ => rfl) (fun _ => c1) ?_
 simp [hw4]
 refine ⟨⟨by omega, by omega⟩, q81 c2 (by simp) (by simp) (fun _ => rfl) (fun _ => ?_) ?_⟩
 ·exact ⟨DLe.refl _, qmp (by simp) (fun j hj => by simp at hj; simp; rw [getD_some (by omega)]), trivial⟩
 simp
 have c4 := qy1 [b.ins.take k, leaf.ins.map (qi (qs7 leaf.params (b.ins[k]?.getD default).args (b.params + (k : Int)))), (b.ins.drop (k + 1)).map (qi (q6e leaf.params (b.ins[k]?.getD default).args (b.params + (k : Int)) leaf.ta leaf.ins.length))] (by simp) (by simp; have := hl.n32; omega)
 refine q81 c4 (by simp) (by simp) (fun _ => rfl) (fun _ => ⟨qc1 fun i hi => ?_, trivial⟩) ?_
 ·rcases (by omega : i = 0 ∨ i = 1 ∨ i = 2) with rfl | rfl | rfl
  ·exact ⟨qmp (by simp; omega) (fun j hj => by simp at hj; simp; rw [getD_some (by omega)]), trivial⟩
  ·exact ⟨DLe.refl _, trivial⟩
  ·exact ⟨DLe.of_eq (by simp [List.map_drop]), trivial⟩
 simp
 refine q4 _ (by simp) (by simp) (fun _ => rfl) (fun _ => c3) ?_
 simp
 exact DLe.of_eq (by simp [qd, putB, inG, q3n, qce, List.map_drop])
theorem qgm {g : Int → Int} {k : Nat} {y : Int} (h : y = g k) : ∀ i, i < k + 1 → q13 k (fun i => intC (g i)) (fun i => List.take 1 (List.drop i [DV.int y])) i = intC (g i) := by
 intro i hi
 unfold q13
 split
 ·rfl
 ·obtain rfl : i = k := by omega
  rw [h]
  simp [intC]
theorem z2t {b leaf : Block} {at_ : Int} (h : (((((at_ < 0 ∨ (b.ins.length : Int) ≤ at_) ∨ ¬(b.ins[at_.toNat]?.getD default).op = 14) ∨ ¬((b.ins[at_.toNat]?.getD default).args.length : Int) = leaf.params) ∨ ¬leaf.kind = 3) ∨ 33 < (b.ins.length : Int) + leaf.ins.length)) : q60 b leaf at_ = false := by
 rw [← Bool.not_eq_true]
 intro hy
 simp [q60, qce] at hy
 obtain ⟨⟨⟨⟨⟨a1, a2⟩, a3⟩, a4⟩, a5⟩, a6⟩ := hy
 rcases h with (((((h | h) | h) | h) | h) | h)
 ·omega
 ·omega
 ·exact h (of_decide_eq_true a3)
 ·exact h (of_decide_eq_true a4)
 ·exact h a5
 ·omega
@[simp] def zB : List AV := [.d (.int 0), .d (.lit (.slice none 0 0)), .d (.int 0), .d (.int 0), .d (.int 0), .d (.lit (.slice none 0 0)), .d (.int 0), .d (.lit (.slice none 0 0))]
set_option maxHeartbeats 2000000 in
set_option maxRecDepth 10000 in
theorem z70 (b leaf : Block) (at_ : Int) (hb : NumsOk b) (hl : NumsOk leaf) :
  APure Tryz.prog 80 [.agg (qd b), .agg (qd leaf), .int at_] (.tup [.agg (qd (if q60 b leaf at_ then putB b leaf at_ else b)), .bool (q60 b leaf at_)]) := by
 refine qb _ [(107, 3, 1)] Tryz.func80 (by kernel_rfl) qie qim rfl rfl (fun _ => ?_)
 have hw : IntKind.i64.wrap ((b.ins.length : Int) + leaf.ins.length) = b.ins.length + leaf.ins.length := qq (by have := hb.n32; have := hl.n32; omega)
 simp [q9r, q9x, hw]
 refine ⟨fun h1 h2 h3 => ⟨⟨⟨h1, h2⟩, h3⟩, h1, h2⟩, fun h => ?_, fun h0 h1 h2 h3 h4 h5 => ?_⟩
 ·rw [z2t h]
  exact DLe.refl _
 have e : q60 b leaf at_ = true := by
  unfold q60 qce
  rw [decide_eq_true h0, decide_eq_true h1, decide_eq_true h2, decide_eq_true h3, decide_eq_true h4, decide_eq_true (by omega : (b.ins.length : Int) - 1 + leaf.ins.length ≤ 32)]; rfl
 rw [e, if_pos rfl]
 obtain ⟨ak, rfl⟩ := Int.eq_ofNat_of_zero_le h0
 have hk : ak < b.ins.length := by omega
 have hn := hb.n32
 have hp := hb.p6
 have hp0 := hb.p0
 have hln := hl.n32
 have hlp := hl.p6
 have hlt4 := hl.ta (by omega)
 obtain ⟨P, hP⟩ := Int.eq_ofNat_of_zero_le hp0
 obtain ⟨g, hg⟩ : ∃ g, g = q3n b leaf (ak : Int) := ⟨_, rfl⟩
 have g1 : ∀ k : Nat, k < P + ak → g k = k := fun k hk => by rw [hg]; exact qrh hP (by omega)
 obtain ⟨F, hF⟩ : ∃ F, F = (putB b leaf (ak : Int)).ins := ⟨_, rfl⟩
 obtain ⟨cnt, hcnt⟩ : ∃ cnt, cnt = cntF ak leaf.ins.length := ⟨_, rfl⟩
 have cnt0 : cnt 0 = 0 := by rw [hcnt]; exact qzx (by omega)
 have cntS : ∀ i, ¬ i = ak → cnt (i + 1) = cnt i + 1 := fun i h => by rw [hcnt]; exact z56 h
 have cntA : cnt (ak + 1) = ak + leaf.ins.length := by rw [hcnt]; exact cnt_at
 have cntA' : cnt ak = ak := by rw [hcnt]; exact qzx (by omega)
 have cntN : ∀ i, i ≤ b.ins.length → cnt i ≤ 100 := fun i h => by rw [hcnt]; unfold cntF; split <;> omega
 have gnum : ∀ i, ¬ i = ak → (P : Int) + cnt i = g ((P + i : Nat) : Int) := fun i h => by rw [hg, hcnt]; exact z4o hP h
 have gat : g ((P + ak : Nat) : Int) = inG b leaf ak leaf.ta := by rw [hg]; exact after_at hP
 have Fturn : ∀ i (hi : i < b.ins.length), ¬ i = ak → F[cnt i]?.getD default = qi (nuAt (nuL g (P + i + 1))) b.ins[i] := fun i hi h => by rw [hF, hg, hcnt]; exact put_turn hb hP hk h hi
 obtain ⟨Q, hQ⟩ := Int.eq_ofNat_of_zero_le hl.p0
 obtain ⟨gi, hgi⟩ : ∃ gi, gi = inG b leaf (ak : Int) := ⟨_, rfl⟩
 have Fleaf : ∀ j (hj : j < leaf.ins.length), F[ak + j]?.getD default = qi (nuAt (nuL gi (Q + j + 1))) leaf.ins[j] := fun j hj => by rw [hF, hgi]; exact qsi hl hQ hk hj
 have gilo : ∀ v : Nat, (v : Int) < leaf.params → gi v = (qce b ak).args[v]?.getD 0 := fun v hv => by rw [hgi]; exact in_lo hv
 have gihi : ∀ j : Nat, gi ((Q + j : Nat) : Int) = ((P + (ak + j) : Nat) : Int) := fun j => by rw [hgi]; exact in_hi hP hQ
 rw [← hgi] at gat
 have hFl : F.length = cnt b.ins.length := by rw [hF, hcnt]; exact qj5 hk
 have hend : ∀ l, AllIn (upTo (b.params + b.ins.length)) l → q5n l (nuL g (P + b.ins.length)) = l.map g := fun l hl => by rw [hg]; exact put_end hP hl
 have hargs : q5n (qce b ak).args (nuL g (P + ak)) = (qce b ak).args := by
  rw [hg]
  refine put_args hP ?_
  have := (hb.ins ak hk).args
  unfold qce
  rw [show (ak : Int).toNat = ak from rfl, getD_some hk]
  exact this
 refine qel (κ := Nat) (fun k => k ≤ P) (fun k => P - k) (fun k => [(sl 9, .int k), (sl 8, .own 0 k)]) (fun k => [(0, .row 3 1 k (fun i => intC (g i))), (2, .box zB)]) 3 0 (srcs [(0, .nil), (2, .id 2)]) (by simp) (by simp) ?_
 intro k hk1
 simp
 refine ⟨fun hlt => ?_, fun hge => ?_⟩
 ·refine ⟨by omega, k + 1, by omega, by omega, srcs [(0, .id 10), (2, .id 2)], ?_⟩
  simp
  exact ⟨q6 (q5 (by omega)), qgm (g1 k (by omega)).symm⟩
 obtain rfl : k = P := by omega
 clear hk1
 refine qe (κ := Nat) (fun i => i ≤ b.ins.length) (fun i => b.ins.length - i) (fun i => [(sl 11, .int i), (sl 8, .own 0 (k + i))]) (fun i => [(0, .row 3 1 (k + i) (fun i => intC (g i))), (1, .row 53 6 (cnt i) (fun j => qp (F[j]?.getD default))), (10, .box ([.d (.int b.params), .own 1 (cnt i)] ++ zB.drop 2)), (2, .box zB)]) 11 0 (srcs [(0, .id 0), (1, .nil), (10, .id 10), (2, .id 2)]) (by simp) (by simp [cnt0]) ?_
 intro i hi
 simp
 refine ⟨fun hlt => ⟨fun hne => ⟨by omega, hlt, ?_⟩, fun he => ⟨hk, ?_⟩⟩, fun hge => ?_⟩
 ·have hne : ¬ i = ak := by omega
  have hwc : IntKind.i64.wrap (b.params + (cnt i : Int)) = g ((k + i : Nat) : Int) := by
   have h1 := cntN i hi
   rw [← gnum i hne, hP, qq (by omega)]
  have hrow := qgm (g := g) (k := k + i) hwc
  have hin : InstIn (inL (nuL g (k + i + 1))) (b.ins[i]?.getD default) := by
   rw [getD_some hlt]
   exact (hb.ins i hlt).mono (fun v hv => qs6 ⟨hv.1, by have := hv.2; omega⟩)
  refine q81 (ds := ?ds) (qww (b.ins[i]?.getD default) (nuL g (k + i + 1)) (by rw [getD_some hlt]; have := hb.args6 i hlt; omega) hin) (by simp) (by simp) (fun _ => ?_) (fun _ => ?_) ?_
  rotate_left
  ·simp; rfl
  ·refine ⟨DLe.refl _, q36 (by simp) (fun j hj => ?_), trivial⟩
   simp at hj
   rw [← getD_some (d := 0) (by simpa using hj), qn2 hj]
   exact hrow j hj
  simp
  have hcn := cntN i hi
  refine ⟨by omega, i + 1, by omega, by omega, srcs [(0, .id 27), (1, .id 39), (10, .id 10), (2, .id 2)], ?_⟩
  simp [SLeK, cntS i hne]
  exact ⟨⟨by omega, q6 (qq (by omega))⟩, ⟨by omega, hrow⟩, qey (by rw [getD_some hlt]; exact Fturn i hlt hne)⟩
 ·obtain rfl : i = ak := by omega
  have hin : AllIn (inL (nuL g (k + i))) (b.ins[i]?.getD default).args := by
   rw [getD_some hlt]
   exact ((hb.ins i hlt).args).mono (fun v hv => qs6 ⟨hv.1, by have := hv.2; omega⟩)
  have h6 : (b.ins[i]?.getD default).args.length ≤ 6 := by rw [getD_some hlt]; exact hb.args6 i hlt
  refine qm1 (ds := ?ds2) (qij (b.ins[i]?.getD default).args (nuL g (k + i)) (by omega) hin) (by simp) (by simp) ?_ ?_ ?_
  rotate_left
  ·simp; rfl
  ·refine ⟨DLe.refl _, q36 (by simp) (fun j hj => ?_), trivial⟩
   simp at hj
   rw [← getD_some (d := 0) (by simpa using hj), qn2 hj]
  simp
  refine qe (κ := Nat) (fun j => j ≤ leaf.ins.length) (fun j => leaf.ins.length - j) (fun j => [(sl 13, .int j), (sl 12, .own 3 (Q + j)), (sl 8, .own 0 (k + i))]) (fun j => [(0, .row 3 1 (k + i) (fun i => intC (g i))), (3, .row 3 1 (Q + j) (fun i => intC (gi i))), (1, .row 53 6 (i + j) (fun j => qp (F[j]?.getD default))), (10, .box ([.d (.int b.params), .own 1 (i + j)] ++ zB.drop 2)), (2, .box zB)]) 11 0 (srcs [(0, .id 0), (3, .id 26), (1, .id 1), (10, .id 10), (2, .id 2)]) (by simp) ?_ ?_
  ·simp [cntA']
   have hlen : (b.ins[i]?.getD default).args.length = Q := by
    have h3' : ((b.ins[i]?.getD default).args.length : Int) = leaf.params := h3
    omega
   refine ⟨hlen, fun v hv => ?_⟩
   have hargs' : q5n (b.ins[i]?.getD default).args (nuL g (k + i)) = (b.ins[i]?.getD default).args := hargs
   rw [hargs', gilo v (by omega)]
   rfl
  intro j hj
  simp
  refine ⟨fun hlt' => ⟨by omega, hlt', ?_⟩, fun hge' => ?_⟩
  ·have hwc : IntKind.i64.wrap (b.params + ((i : Int) + (j : Int))) = gi ((Q + j : Nat) : Int) := by
    rw [gihi j, hP, qq (by omega)]; omega
   have hrow := qgm (g := gi) (k := Q + j) hwc
   have hin : InstIn (inL (nuL gi (Q + j + 1))) (leaf.ins[j]?.getD default) := by
    rw [getD_some hlt']
    exact (hl.ins j hlt').mono (fun v hv => qs6 ⟨hv.1, by have := hv.2; omega⟩)
   refine q81 (ds := ?ds3) (qww (leaf.ins[j]?.getD default) (nuL gi (Q + j + 1)) (by rw [getD_some hlt']; have := hl.args6 j hlt'; omega) hin) (by simp) (by simp) (fun _ => ?_) (fun _ => ?_) ?_
   rotate_left
   ·simp; rfl
   ·refine ⟨DLe.refl _, q36 (by simp) (fun j' hj' => ?_), trivial⟩
    simp at hj'
    rw [← getD_some (d := 0) (by simpa using hj'), qn2 hj']
    exact hrow j' hj'
   simp
   refine ⟨by omega, j + 1, by omega, by omega, srcs [(0, .id 0), (3, .id 24), (1, .id 36), (10, .id 10), (2, .id 2)], ?_⟩
   simp [SLeK]
   exact ⟨⟨by omega, q6 (qq (by omega))⟩, ⟨by omega, hrow⟩, ⟨by omega, qey (by rw [getD_some hlt']; exact Fleaf j hlt')⟩, by omega⟩
  ·obtain rfl : j = leaf.ins.length := by omega
   have hta : 0 ≤ leaf.ta ∧ leaf.ta < (Q : Int) + leaf.ins.length := ⟨hlt4.1, by have := hlt4.2; omega⟩
   rw [show max leaf.ta 0 = leaf.ta by omega]
   refine ⟨hta, by omega, i + 1, by omega, by omega, srcs [(0, .id 24), (1, .id 1), (10, .id 10), (2, .id 2)], ?_⟩
   simp [SLeK, cntA]
   exact ⟨⟨by omega, q6 (qq (by omega))⟩, by omega, qgm gat.symm⟩
 ·obtain rfl : i = b.ins.length := by omega
  have hrowC : ∀ j (hj : j < (nuL g (k + b.ins.length)).length), intC (g j) = intC (nuL g (k + b.ins.length))[j] := fun j hj => by
   simp at hj
   rw [← getD_some (d := 0) (by simpa using hj), qn2 hj]
  have hinC : ∀ l, AllIn (upTo (b.params + b.ins.length)) l → AllIn (inL (nuL g (k + b.ins.length))) l := fun l h => h.mono (fun v hv => qs6 ⟨hv.1, by have := hv.2; omega⟩)
  refine qm1 (ds := ?ds4) (qij b.args (nuL g (k + b.ins.length)) (by have := hb.args17; omega) (hinC _ hb.args)) (by simp) (by simp) ?_ ?_ ?_
  rotate_left
  ·simp; rfl
  ·exact ⟨DLe.refl _, q36 (by simp) hrowC, trivial⟩
  simp
  refine qm1 (ds := ?ds5) (qij b.elses (nuL g (k + b.ins.length)) (by have := hb.elses17; omega) (hinC _ hb.elses)) (by simp) (by simp) ?_ ?_ ?_
  rotate_left
  ·simp; rfl
  ·exact ⟨DLe.refl _, q36 (by simp) hrowC, trivial⟩
  simp
  have eF : (putB b leaf (ak : Int)).ins = F := hF.symm
  have eA : (putB b leaf (ak : Int)).args = q5n b.args (nuL g (k + b.ins.length)) := by rw [hend _ hb.args, hg]; rfl
  have eE : (putB b leaf (ak : Int)).elses = q5n b.elses (nuL g (k + b.ins.length)) := by rw [hend _ hb.elses, hg]; rfl
  have dF : DLe (DV.sl 6 (cnt b.ins.length) fun j => qp (F[j]?.getD default)) (insD (putB b leaf (ak : Int)).ins) := by
   rw [eF]; exact qmp hFl.symm (fun i hi => by rw [getD_some hi])
  have dA : DLe (DV.sl 1 b.args.length fun k_1 => intC ((q5n b.args (nuL g (k + b.ins.length)))[k_1]?.getD 0)) (ql (putB b leaf (ak : Int)).args) := by
   rw [eA]; exact q36 (by simp) (fun i hi => by rw [getD_some hi])
  have dE : DLe (DV.sl 1 b.elses.length fun k_1 => intC ((q5n b.elses (nuL g (k + b.ins.length)))[k_1]?.getD 0)) (ql (putB b leaf (ak : Int)).elses) := by
   rw [eE]; exact q36 (by simp) (fun i hi => by rw [getD_some hi])
  refine ⟨fun hk1 => ?_, fun hk1 => ?_⟩
  ·have ht := hb.ta hk1
   have et : (putB b leaf (ak : Int)).ta = g b.ta := by simp [putB, hk1, hg]
   rw [show max b.ta 0 = b.ta by have := ht.1; omega]
   refine ⟨⟨ht.1, by have := ht.2; omega⟩, qx4 ⟨qle ⟨DLe.refl _, dF, DLe.refl _, q6 et.symm, DLe.refl _, dA, DLe.refl _, dE, trivial⟩, DLe.refl _, trivial⟩⟩
  ·have et : (putB b leaf (ak : Int)).ta = b.ta := by simp [putB, hk1]
   exact qx4 ⟨qle ⟨DLe.refl _, dF, DLe.refl _, q6 et.symm, DLe.refl _, dA, DLe.refl _, dE, trivial⟩, DLe.refl _, trivial⟩
def b0 : Block := ⟨0, [⟨1, 0, 0, 2, ⟨#[]⟩, []⟩, ⟨14, 0, 0, 0, ⟨#[102]⟩, [0]⟩], 3, 1, 0, [], 0, []⟩
def l0 : Block := ⟨1, [], 3, 0, 0, [], 0, []⟩
def r0 : Block := ⟨0, [⟨1, 0, 0, 2, ⟨#[]⟩, []⟩], 3, 0, 0, [], 0, []⟩
def qgt : ACode :=
 (.seq (.reg [Ro 2 (.box true (Sv 0)), Ro 4 (.mv (.c (.bool false)))])
 (.seq (.seq (.reg [Ro 7 (Fd 2 3), Ro 8 (Ld 7), Ro 9 (.len false (Sv 8)), Ro 10 (.bin .neq (Sv 9) (Ci 1))])
 (.cond (Sv 10)
 (.seq (.reg [Ro 4 (.mv (.c (.bool false)))])
 .ret)
 .skip))
 (.seq (.seq (.reg [Ro 11 (Fd 2 3), Ro 12 (Ld 11), Ro 13 (.idx true (Sv 12) (Ci 0) 8), Ro 14 (Lk 13 8), Ro 5 (.new [(.int .i64 0), (.slice none 0 0), (.int .i64 0), (.int .i64 0), (.int .i64 0), (.slice none 0 0), (.int .i64 0), (.slice none 0 0)]), Rn (.ini 1 (Sv 5) (Sv 14) 8)])
 (.frz (sl 5)))
 (.seq (.reg [Ro 6 (.mv (.f 138))])
 (.seq (.reg [Ro 15 (Fd 5 2), Ro 16 (Fd 15 0), Ro 17 (Ld 16), Ro 18 (.bin .eql (Sv 17) (Ci 3)), Ro 19 (Mv 18), Rg 20 19 true (Fd 5 1), Rg 21 19 true (Ld 20), Rg 22 19 true (.len false (Sv 21)), Rg 23 19 true (Mv 1), Rg 24 19 true (.bin .leq (Sv 22) (Sv 23)), Ro 25 (.pick (Sv 19) (Sv 24) (.c (.bool false))), Ro 26 (Mv 25), Rg 27 26 true (Fd 5 1), Rg 28 26 true (Ld 27), Rg 29 26 true (Mv 6), Rg 30 26 true (.call true (.f 139) [Sv 28, Sv 29]), Rg 31 26 true (.not (Sv 30)), Ro 32 (.pick (Sv 26) (Sv 31) (.c (.bool false))), Ro 4 (Mv 32)])
 .ret)))))
def qhy : List ARes := [(.tmp (sl 4))]
theorem qt1 : (Tryz.f122).body.bind (q9 Tryz.prog 8 (Tryz.f122).ntmps [] [] (drOk 8)) = some qgt := by kernel_rfl
theorem qtd : qa Tryz.prog 8 (Tryz.f122).results.toList = some qhy := by kernel_rfl
def qc6 : ACode :=
 (.seq (.reg [Ro 1 (.box true (Sv 0)), Ro 2 (.mv (.c (.bool false)))])
 (.seq (.reg [Ro 3 (Fd 1 0), Ro 4 (Ld 3), Ro 5 (.bin .eql (Sv 4) (Ci 14)), Ro 2 (Mv 5)])
 .ret))
def qci : List ARes := [(.tmp (sl 2))]
theorem qns : (Tryz.f138).body.bind (q9 Tryz.prog 8 (Tryz.f138).ntmps [] [] (drOk 8)) = some qc6 := by kernel_rfl
theorem qo2 : qa Tryz.prog 8 (Tryz.f138).results.toList = some qci := by kernel_rfl
def q18 : ACode :=
 (.seq (.reg [Ro 4 (.mv (.c (.bool false)))])
 (.seq (.reg [Ro 5 (Mv 0), Ro 6 (Mv 1), Ro 7 (.call true (.f 146) [Sv 5, Sv 6]), Ro 8 (.bin .geq (Sv 7) (Ci 0)), Ro 4 (Mv 8)])
 .ret))
def q1a : List ARes := [(.tmp (sl 4))]
theorem q3g : (Tryz.f139).body.bind (q9 Tryz.prog 8 (Tryz.f139).ntmps [] [] (drOk 8)) = some q18 := by kernel_rfl
theorem q3h : qa Tryz.prog 8 (Tryz.f139).results.toList = some q1a := by kernel_rfl
def q1m : ACode :=
 (.seq (.reg [Ro 4 (.mv (Ci 0))])
 (.seq (.seq (.reg [Ro 6 (Mv 0), Ro 7 (.len false (Sv 6)), Ro 8 (.mv (Ci 0))])
 (.block 0
 (.loop (.seq (.reg [Ro 9 (.bin .lss (Sv 8) (Sv 7))])
 (.seq (.cond (Sv 9)
 .skip
 (.exit 0))
 (.seq (.block 1
 (.seq (.reg [Ro 10 (Mv 8), Ro 5 (Mv 10)])
 (.seq (.reg [Ro 11 (Mv 1), Ro 12 (Mv 0), Ro 13 (Mv 5), Ro 14 (.idx true (Sv 12) (Sv 13) 6), Ro 15 (Lk 14 6), Ro 16 (.call true (Sv 11) [Sv 15])])
 (.cond (Sv 16)
 (.seq (.reg [Ro 17 (Mv 5), Ro 4 (Mv 17)])
 .ret)
 .skip))))
 (.reg [Ro 18 (.bin .add (Sv 8) (Ci 1)), Ro 8 (Mv 18)])))))))
 (.seq (.reg [Ro 4 (.mv (Ci (-1)))])
 .ret)))
def q1q : List ARes := [(.tmp (sl 4))]
theorem q3w : (Tryz.f146).body.bind (q9 Tryz.prog 8 (Tryz.f146).ntmps [] [] (drOk 8)) = some q1m := by kernel_rfl
theorem q3y : qa Tryz.prog 8 (Tryz.f146).results.toList = some q1q := by kernel_rfl
def qgu : ACode :=
 (.seq (.reg [Ro 3 (.box true (Sv 0)), Ro 4 (.box true (Sv 1)), Ro 6 (.new [(.int .i64 0), (.slice none 0 0), (.int .i64 0), (.int .i64 0), (.int .i64 0), (.slice none 0 0), (.int .i64 0), (.slice none 0 0)]), Ro 7 (.mv (.c (.bool false)))])
 (.seq (.reg [Ro 9 (Fd 3 0), Ro 10 (Ld 9), Ro 11 (.mkfn 121 [Sv 4]), Ro 12 (.call true (.f 60) [Sv 10, Sv 11]), Ro 8 (Mv 12)])
 (.seq (.seq (.reg [Ro 13 (Mv 8), Ro 14 (.bin .lss (Sv 13) (Ci 0)), Ro 15 (Mv 14), Rg 16 15 false (Fd 3 0), Rg 17 15 false (Ld 16), Rg 18 15 false (Mv 8), Rg 19 15 false (.idx true (Sv 17) (Sv 18) 4), Rg 20 15 false (Lk 19 4), Rg 21 15 false (Mv 2), Rg 22 15 false (.call true (.f 122) [Sv 20, Sv 21]), Rg 23 15 false (.not (Sv 22)), Ro 24 (.pick (Sv 15) (.c (.bool true)) (Sv 23))])
 (.cond (Sv 24)
 (.seq (.reg [Ro 25 (.bld [(.int .i64 0), (.slice none 0 0), (.int .i64 0), (.int .i64 0), (.int .i64 0), (.slice none 0 0), (.int .i64 0), (.slice none 0 0)] []), Rn (.st (Sv 6) (Sv 25) 8), Ro 7 (.mv (.c (.bool false)))])
 .ret)
 .skip))
 (.seq (.reg [Ro 26 (Fd 3 0), Ro 27 (Ld 26), Ro 28 (Mv 8), Ro 29 (.idx true (Sv 27) (Sv 28) 4), Ro 30 (Fd 29 3), Ro 31 (Ld 30), Ro 32 (.idx true (Sv 31) (Ci 0) 8), Ro 33 (Lk 32 8), Rn (.st (Sv 6) (Sv 33) 8), Ro 7 (.mv (.c (.bool true)))])
 .ret))))
def qhz : List ARes := [(.cell (sl 6) (some 8)), (.tmp (sl 7))]
theorem qt2 : (Tryz.f101).body.bind (q9 Tryz.prog 8 (Tryz.f101).ntmps [6] [] (drOk 8)) = some qgu := by kernel_rfl
theorem qte : qa Tryz.prog 8 (Tryz.f101).results.toList = some qhz := by kernel_rfl
def qc8 : ACode :=
 (.seq (.reg [Ro 2 (.box true (Sv 0)), Ro 3 (.mv (.c (.bool false)))])
 (.seq (.reg [Ro 4 (Fd 2 0), Ro 5 (Ld 4), Ro 6 (Ld 1), Ro 7 (.bin .eql (Sv 5) (Sv 6)), Ro 3 (Mv 7)])
 .ret))
def qck : List ARes := [(.tmp (sl 3))]
theorem qnu : (Tryz.f121).body.bind (q9 Tryz.prog 8 (Tryz.f121).ntmps [] [] (drOk 8)) = some qc8 := by kernel_rfl
theorem qo4 : qa Tryz.prog 8 (Tryz.f121).results.toList = some qck := by kernel_rfl
def qef : ACode :=
 (.seq (.reg [Ro 3 (.box false (Sv 0)), Ro 4 (.box true (Sv 1)), Ro 6 (.new [(.int .i64 0), (.slice none 0 0), (.int .i64 0), (.int .i64 0), (.int .i64 0), (.slice none 0 0), (.int .i64 0), (.slice none 0 0)])])
 (.seq (.reg [Ro 7 (.mv (Ci 0))])
 (.seq .skip
 (.seq (.block 0
 (.loop (.seq (.seq (.reg [Ro 13 (Mv 7), Ro 14 (Fd 3 1), Ro 15 (.ld false (Sv 14) none), Ro 16 (.len false (Sv 15)), Ro 17 (.bin .lss (Sv 13) (Sv 16))])
 (.cond (Sv 17)
 .skip
 (.exit 0)))
 (.block 1
 (.seq (.seq (.reg [Ro 18 (Fd 3 1), Ro 19 (.ld false (Sv 18) none), Ro 20 (Mv 7), Ro 21 (.idx false (Sv 19) (Sv 20) 6), Ro 22 (.ld false (Sv 21) (some 6)), Ro 8 (.new [(.int .i64 0), (.int .i64 0), (.int .i64 0), (.int .u64 0), (.string ⟨#[]⟩), (.slice none 0 0)]), Rn (.ini 1 (Sv 8) (Sv 22) 6)])
 (.frz (sl 8)))
 (.seq (.seq (.reg [Ro 23 (Fd 8 0), Ro 24 (Ld 23), Ro 25 (.bin .neq (Sv 24) (Ci 14))])
 (.cond (Sv 25)
 (.seq (.reg [Ro 26 (Mv 7), Ro 27 (.bin .add (Sv 26) (Ci 1)), Ro 7 (Mv 27)])
 (.exit 1))
 .skip))
 (.seq (.seq (.reg [Ro 29 (Lk 4 2), Ro 30 (Fd 8 4), Ro 31 (Ld 30), Ro 32 (Mv 2), Ro 33 (.call true (.f 101) [Sv 29, Sv 31, Sv 32]), Ro 28 (Mv 33), Ro 34 (.ext (Sv 28) 0), Ro 35 (.ext (Sv 28) 1), Ro 9 (.new [(.int .i64 0), (.slice none 0 0), (.int .i64 0), (.int .i64 0), (.int .i64 0), (.slice none 0 0), (.int .i64 0), (.slice none 0 0)]), Rn (.ini 1 (Sv 9) (Sv 34) 8), Ro 10 (Mv 35)])
 (.frz (sl 9)))
 (.seq (.seq (.reg [Ro 36 (Mv 10), Ro 37 (.not (Sv 36))])
 (.cond (Sv 37)
 (.seq (.reg [Ro 38 (Mv 7), Ro 39 (.bin .add (Sv 38) (Ci 1)), Ro 7 (Mv 39)])
 (.exit 1))
 .skip))
 (.seq (.seq (.reg [Ro 41 (.ld false (Sv 3) (some 8)), Ro 42 (Lk 9 8), Ro 43 (Mv 7), Ro 44 (.call false (.f 102) [Sv 41, Sv 42, Sv 43]), Ro 40 (Mv 44), Ro 45 (.ext (Sv 40) 0), Ro 46 (.ext (Sv 40) 1), Ro 11 (.new [(.int .i64 0), (.slice none 0 0), (.int .i64 0), (.int .i64 0), (.int .i64 0), (.slice none 0 0), (.int .i64 0), (.slice none 0 0)]), Rn (.ini 1 (Sv 11) (Sv 45) 8), Ro 12 (Mv 46)])
 (.frz (sl 11)))
 (.seq (.seq (.reg [Ro 47 (Mv 12), Ro 48 (.not (Sv 47))])
 (.cond (Sv 48)
 (.seq (.reg [Ro 49 (Mv 7), Ro 50 (.bin .add (Sv 49) (Ci 1)), Ro 7 (Mv 50)])
 (.exit 1))
 .skip))
 (.seq (.reg [Ro 51 (Lk 11 8), Rn (.st (Sv 3) (Sv 51) 8)])
 (.reg [Ro 52 (Mv 7), Ro 53 (Fd 9 1), Ro 54 (Ld 53), Ro 55 (.len false (Sv 54)), Ro 56 (.bin .add (Sv 52) (Sv 55)), Ro 7 (Mv 56)]))))))))))))
 (.seq (.reg [Ro 57 (.ld false (Sv 3) (some 8)), Rn (.st (Sv 6) (Sv 57) 8)])
 .ret)))))
def qem : List ARes := [(.cell (sl 6) (some 8))]
theorem qom : (Tryz.f72).body.bind (q9 Tryz.prog 8 (Tryz.f72).ntmps [3, 6, 14, 15, 18, 19, 21, 22, 41, 57] [] (drOk 8)) = some qef := by kernel_rfl
theorem qos : qa Tryz.prog 8 (Tryz.f72).results.toList = some qem := by kernel_rfl
def q8p : ACode :=
 (.seq (.reg [Ro 2 (.box true (Sv 0)), Ro 4 (.mv (.c (.bool false)))])
 (.seq (.seq (.reg [Ro 6 (Fd 2 3), Ro 7 (Ld 6), Ro 8 (.len false (Sv 7)), Ro 9 (.bin .neq (Sv 8) (Ci 1)), Ro 10 (Mv 9), Rg 11 10 false (Fd 2 3), Rg 12 10 false (Ld 11), Rg 13 10 false (.idx true (Sv 12) (Ci 0) 8), Rg 14 10 false (Fd 13 2), Rg 15 10 false (Fd 14 0), Rg 16 10 false (Ld 15), Rg 17 10 false (.bin .neq (Sv 16) (Ci 3)), Ro 18 (.pick (Sv 10) (.c (.bool true)) (Sv 17)), Ro 19 (Mv 18), Rg 20 19 false (Fd 2 3), Rg 21 19 false (Ld 20), Rg 22 19 false (.idx true (Sv 21) (Ci 0) 8), Rg 23 19 false (Fd 22 1), Rg 24 19 false (Ld 23), Rg 25 19 false (.len false (Sv 24)), Rg 26 19 false (Mv 1), Rg 27 19 false (.bin .gtr (Sv 25) (Sv 26)), Ro 28 (.pick (Sv 19) (.c (.bool true)) (Sv 27))])
 (.cond (Sv 28)
 (.seq (.reg [Ro 4 (.mv (.c (.bool false)))])
 .ret)
 .skip))
 (.seq (.seq (.reg [Ro 5 (.mv (Ci 0))])
 (.block 0
 (.loop (.seq (.seq (.reg [Ro 29 (Mv 5), Ro 30 (Fd 2 3), Ro 31 (Ld 30), Ro 32 (.idx true (Sv 31) (Ci 0) 8), Ro 33 (Fd 32 1), Ro 34 (Ld 33), Ro 35 (.len false (Sv 34)), Ro 36 (.bin .lss (Sv 29) (Sv 35))])
 (.cond (Sv 36)
 .skip
 (.exit 0)))
 (.seq (.block 1
 (.seq (.reg [Ro 39 (Fd 2 3), Ro 40 (Ld 39), Ro 41 (.idx true (Sv 40) (Ci 0) 8), Ro 42 (Fd 41 1), Ro 43 (Ld 42), Ro 44 (Mv 5), Ro 45 (.idx true (Sv 43) (Sv 44) 6), Ro 46 (Fd 45 0), Ro 47 (Ld 46), Ro 48 (.bin .eql (Sv 47) (Ci 14))])
 (.cond (Sv 48)
 (.seq (.reg [Ro 4 (.mv (.c (.bool false)))])
 .ret)
 .skip)))
 (.reg [Ro 37 (Mv 5), Ro 38 (.bin .add (Sv 37) (Ci 1)), Ro 5 (Mv 38)]))))))
 (.seq (.reg [Ro 4 (.mv (.c (.bool true)))])
 .ret))))
def q9f : List ARes := [(.tmp (sl 4))]
theorem qft : (Tryz.f79).body.bind (q9 Tryz.prog 8 (Tryz.f79).ntmps [] [] (drOk 8)) = some q8p := by kernel_rfl
theorem qgb : qa Tryz.prog 8 (Tryz.f79).results.toList = some q9f := by kernel_rfl
def q7i : ACode :=
 (.seq (.reg [Ro 3 (.box false (Sv 0)), Ro 4 (.box true (Sv 1)), Ro 6 (.new [(.int .i64 0), (.slice none 0 0), (.int .i64 0), (.int .i64 0), (.int .i64 0), (.slice none 0 0), (.int .i64 0), (.slice none 0 0)])])
 (.seq (.reg [Ro 7 (.mv (Ci 0))])
 (.seq (.block 0
 (.loop (.seq (.seq (.reg [Ro 13 (Mv 7), Ro 14 (Fd 3 1), Ro 15 (.ld false (Sv 14) none), Ro 16 (.len false (Sv 15)), Ro 17 (.bin .lss (Sv 13) (Sv 16))])
 (.cond (Sv 17)
 .skip
 (.exit 0)))
 (.block 1
 (.seq (.reg [Ro 18 (Mv 7), Ro 19 (.bin .add (Sv 18) (Ci 1)), Ro 8 (Mv 19)])
 (.seq (.reg [Rl 20 (Lk 4 2) 0, Rl 21 (Fd 3 1) 1, Rl 22 (.ld false (Sv 21) none) 2, Rl 23 (Mv 7) 3, Rl 24 (.idx false (Sv 22) (Sv 23) 6) 4, Rl 25 (Fd 24 4) 5, Rl 26 (.ld false (Sv 25) none) 6, Rl 27 (.call false (.f 21) [Sv 20, Sv 26]) 7, Rl 9 (Mv 27) 8])
 (.seq (.seq (.reg [Ro 28 (Fd 3 1), Ro 29 (.ld false (Sv 28) none), Ro 30 (Mv 7), Ro 31 (.idx false (Sv 29) (Sv 30) 6), Ro 32 (Fd 31 0), Ro 33 (.ld false (Sv 32) none), Ro 34 (.bin .eql (Sv 33) (Ci 14)), Ro 35 (Mv 34), Rg 36 35 true (Mv 9), Rg 37 35 true (.bin .geq (Sv 36) (Ci 0)), Ro 38 (.pick (Sv 35) (Sv 37) (.c (.bool false)))])
 (.cond (Sv 38)
 (.seq (.reg [Ro 39 (Fd 4 0), Ro 40 (Ld 39), Ro 41 (Mv 9), Ro 42 (.idx true (Sv 40) (Sv 41) 4), Ro 43 (Lk 42 4), Ro 44 (Mv 2), Ro 45 (.call true (.f 79) [Sv 43, Sv 44]), Ro 10 (Mv 45)])
 (.seq (.reg [Ro 46 (Mv 10)])
 (.cond (Sv 46)
 (.seq (.seq (.reg [Rl 48 (.ld false (Sv 3) (some 8)) 0, Rl 49 (Fd 4 0) 1, Rl 50 (Ld 49) 2, Rl 51 (Mv 9) 3, Rl 52 (.idx true (Sv 50) (Sv 51) 4) 4, Rl 53 (Fd 52 3) 5, Rl 54 (Ld 53) 6, Rl 55 (.idx true (Sv 54) (Ci 0) 8) 7, Rl 56 (Lk 55 8) 8, Rl 57 (Mv 7) 9, Rl 58 (.call false (.f 80) [Sv 48, Sv 56, Sv 57]) 10, Rl 47 (Mv 58) 11, Rl 59 (.ext (Sv 47) 0) 12, Rl 60 (.ext (Sv 47) 1) 13, Rl 11 (.new [(.int .i64 0), (.slice none 0 0), (.int .i64 0), (.int .i64 0), (.int .i64 0), (.slice none 0 0), (.int .i64 0), (.slice none 0 0)]) 14, Rn (.ini 1 (Sv 11) (Sv 59) 8), Rl 12 (Mv 60) 16])
 (.frz (sl 11)))
 (.seq (.reg [Ro 61 (Mv 12)])
 (.cond (Sv 61)
 (.seq (.reg [Ro 62 (Lk 11 8), Rn (.st (Sv 3) (Sv 62) 8)])
 (.reg [Ro 63 (Mv 7), Ro 64 (Fd 4 0), Ro 65 (Ld 64), Ro 66 (Mv 9), Ro 67 (.idx true (Sv 65) (Sv 66) 4), Ro 68 (Fd 67 3), Ro 69 (Ld 68), Ro 70 (.idx true (Sv 69) (Ci 0) 8), Ro 71 (Fd 70 1), Ro 72 (Ld 71), Ro 73 (.len false (Sv 72)), Ro 74 (.bin .add (Sv 63) (Sv 73)), Ro 8 (Mv 74)]))
 .skip)))
 .skip)))
 .skip))
 (.reg [Ro 75 (Mv 8), Ro 7 (Mv 75)]))))))))
 (.seq (.reg [Ro 76 (.ld false (Sv 3) (some 8)), Rn (.st (Sv 6) (Sv 76) 8)])
 .ret))))
def q7v : List ARes := [(.cell (sl 6) (some 8))]
theorem qdz : (Tryz.f49).body.bind (q9 Tryz.prog 8 (Tryz.f49).ntmps [3, 6, 14, 15, 21, 22, 24, 25, 26, 28, 29, 31, 32, 33, 48, 76] [] (drOk 8)) = some q7i := by kernel_rfl
theorem qec : qa Tryz.prog 8 (Tryz.f49).results.toList = some q7v := by kernel_rfl
set_option maxRecDepth 10000 in
theorem z2i (x : Inst) : APure Tryz.prog 138 [.agg (qp x)] (.bool (decide (x.op = 14))) := by
 refine qb _ _ Tryz.func138 (by kernel_rfl) qns qo2 rfl rfl (fun _ => ?_)
 simp [qc6, qci]
set_option maxRecDepth 10000 in
theorem qy6 (s : ByteArray) (f : Func) : APure Tryz.prog 121 [.agg (qm f), .cref [.str s] 0] (.bool (decide (f.name = s))) := by
 refine qb _ _ Tryz.func121 (by kernel_rfl) qnu qo4 rfl rfl (fun _ => ?_)
 simp [qc8, qck]
theorem qv4 (xs : List Inst) (F : FuncId) (caps : List DV) (p : Inst → Bool) (hF : ∀ v ∈ xs, APure Tryz.prog F (.agg (qp v) :: caps) (.bool (p v))) : APure Tryz.prog 146 [insD xs, .fn F caps] (.int (q44 p xs)) := by
 refine qb _ _ Tryz.func146 (by kernel_rfl) q3w q3y rfl rfl (fun hx => len1 hx fun hl => ?_)
 clear hx
 simp [q1m, q1q]
 refine qe (κ := Nat) (fun k => k ≤ xs.length ∧ ∀ i (h : i < xs.length), i < k → p xs[i] = false) (fun k => xs.length - k) (fun k => [(sl 8, .int k)]) (fun _ => []) 0 0 (srcs []) (by simp) (by simp) ?_
 rintro k ⟨hk, hb⟩
 simp
 refine ⟨fun hlt => ⟨hlt, ?_⟩, fun hge => ?_⟩
 ·rw [getD_some hlt]
  refine q4 _ (by simp) (by simp) (fun _ => by simp) (fun _ => hF _ (List.getElem_mem hlt)) ?_
  simp
  refine ⟨fun h => q6 (q49 hlt hb h).symm, fun h => ?_⟩
  refine ⟨k + 1, ⟨by omega, fun i hi h1 => ?_⟩, by omega, srcs [], ?_⟩
  ·rcases Nat.lt_or_ge i k with h2 | h2
   ·exact hb i hi h2
   ·obtain rfl : i = k := by omega
    exact h
  ·simp [SLeK]
   exact q6 (q5 (by omega))
 ·exact q6 (q4q fun i hi => hb i hi (by omega)).symm
theorem qm3 (xs : List Inst) (F : FuncId) (caps : List DV) (p : Inst → Bool) (hF : ∀ v ∈ xs, APure Tryz.prog F (.agg (qp v) :: caps) (.bool (p v))) : APure Tryz.prog 139 [insD xs, .fn F caps] (.bool (xs.any p)) := by
 refine qb _ _ Tryz.func139 (by kernel_rfl) q3g q3h rfl rfl (fun _ => ?_)
 simp [q18, q1a]
 refine q4 _ (by simp) (by simp) (fun _ => rfl) (fun _ => qv4 xs F caps p hF) ?_
 simp
 exact qc (qdb p xs)
set_option maxRecDepth 10000 in
theorem qvy (f : Func) (budget : Int) (h32 : ∀ b ∈ f.blocks, b.ins.length ≤ 1000000) : APure Tryz.prog 79 [.agg (qm f), .int budget] (.bool (qsa f budget)) := by
  refine qb _ _ Tryz.func79 (by kernel_rfl) qft qgb rfl rfl (fun _ => ?_)
  simp [q8p, q9f]
  obtain ⟨b, hb⟩ : ∃ b, f.blocks[0]?.getD default = b := ⟨_, rfl⟩
  simp only [hb]
  have hone : (f.blocks.length : Int) = 1 → f.blocks = [b] := fun h => by
    cases hf : f.blocks with
    | nil => rw [hf] at h; simp at h
    | cons c r =>
      rw [hf] at h hb
      cases r with
      | nil => simp at hb; rw [hb]
      | cons d r => simp at h; omega
  have hbl : (f.blocks.length : Int) = 1 → b.ins.length ≤ 1000000 := fun h => h32 b (by rw [hone h]; simp)
  refine ⟨fun h => ⟨h, by omega⟩, fun h h3 => ⟨⟨h, h3⟩, by omega⟩, fun h => qc ?_, fun h1 h3 hle => ?_⟩
  · symm
    rw [← Bool.not_eq_true, q8y]
    rintro ⟨c, k1, k2, k3, _⟩
    rw [k1] at hb h
    simp at hb h
    subst hb
    rcases h with h | h
    · exact h k2
    · omega
  refine qe (κ := Nat) (fun k => k ≤ b.ins.length ∧ ∀ i ∈ b.ins.take k, ¬ i.op = 14) (fun k => b.ins.length - k) (fun k => [(sl 5, .int k)]) (fun _ => []) 0 0 (srcs []) (by simp) (by simp) ?_
  rintro k ⟨hk, hb2⟩
  simp
  simp only [hb]
  refine ⟨by omega, fun hlt => ⟨by omega, hlt, ?_⟩, fun hge => ?_⟩
  · rw [getD_some hlt]
    refine ⟨fun h => qc ?_, fun h => ⟨k + 1, ⟨by omega, fun i hi => ?_⟩, by omega, srcs [], ?_⟩⟩
    · symm
      rw [← Bool.not_eq_true, q8y]
      rintro ⟨c, k1, _, _, k4⟩
      have := hone h1
      rw [this] at k1
      injection k1 with k1
      subst k1
      exact k4 _ (List.getElem_mem hlt) h
    · rw [List.take_succ_eq_append_getElem hlt] at hi
      rcases List.mem_append.1 hi with hi | hi
      · exact hb2 i hi
      · rw [List.mem_singleton.1 hi]; exact h
    · simp [SLeK]
      exact q6 (q5 (by have := hbl h1; omega))
  · rw [List.take_of_length_le hge] at hb2
    exact qc (q8y.2 ⟨b, hone h1, h3, hle, hb2⟩).symm
set_option maxRecDepth 10000 in
theorem z6g (f : Func) (budget : Int) : APure Tryz.prog 122 [.agg (qm f), .int budget] (.bool (qsa f budget)) := by
  refine qb _ _ Tryz.func122 (by kernel_rfl) qt1 qtd rfl rfl (fun _ => ?_)
  simp [qgt, qhy]
  obtain ⟨b, hb⟩ : ∃ b, f.blocks[0]?.getD default = b := ⟨_, rfl⟩
  simp only [hb]
  have hone : (f.blocks.length : Int) = 1 → f.blocks = [b] := fun h => by
    cases hf : f.blocks with
    | nil => rw [hf] at h; simp at h
    | cons c r =>
      rw [hf] at h hb
      cases r with
      | nil => simp at hb; rw [hb]
      | cons d r => simp at h; omega
  refine ⟨fun h => qc ?_, fun h1 => ⟨by omega, ?_⟩⟩
  · symm
    rw [← Bool.not_eq_true, q8y]
    rintro ⟨c, k1, _⟩
    rw [k1] at h
    simp at h
  refine q4 (ds := [insD b.ins, .fn 138 []]) _ (by simp) (by simp) (fun _ => rfl) (fun _ => qm3 b.ins _ [] (fun x => decide (x.op = 14)) (fun x _ => z2i x)) ?_
  simp
  refine qc ?_
  unfold qsa
  rw [hone h1]
theorem noBlock : DLe (.agg [.int 0, .lit (.slice none 0 0), .int 0, .int 0, .int 0, .lit (.slice none 0 0), .int 0, .lit (.slice none 0 0)]) (.agg (qd default)) :=
 qle ⟨DLe.refl _, qrf, DLe.refl _, DLe.refl _, DLe.refl _, qrf, DLe.refl _, qrf, trivial⟩
theorem noLeaf : DLe (.tup [.agg [.int 0, .lit (.slice none 0 0), .int 0, .int 0, .int 0, .lit (.slice none 0 0), .int 0, .lit (.slice none 0 0)], .bool false]) (.tup [.agg (qd default), .bool false]) :=
 qx4 ⟨noBlock, DLe.refl _, trivial⟩
set_option maxRecDepth 10000 in
theorem z2j (m : Module) (s : ByteArray) (budget : Int) : APure Tryz.prog 101 [.agg (q8 m), .str s, .int budget] (.tup [.agg (qd ((qag m budget s).getD default)), .bool (qag m budget s).isSome]) := by
 refine qb _ _ Tryz.func101 (by kernel_rfl) qt2 qte rfl rfl (fun _ => ?_)
 simp [qgu, qhz]
 refine q4 (ds := [q24 m.funcs, .fn 121 [.cref [.str s] 0]]) _ (by simp) (by simp) (fun _ => rfl) (fun _ => qf5 m.funcs _ _ (fun f => decide (f.name = s)) (fun f _ => qy6 s f)) ?_
 simp
 obtain ⟨k, hk, h1, h2⟩ | ⟨h1, h2⟩ := qhk m s
 ·rw [h1]
  refine ⟨fun _ => by omega, ?_⟩
  simp only [Int.toNat_natCast, getD_some hk]
  obtain ⟨f, hf⟩ : ∃ f, m.funcs[k] = f := ⟨_, rfl⟩
  have hL : qag m budget s = if qsa f budget = true then f.blocks[0]? else none := by unfold qag; rw [h2, hf]
  simp only [hf]
  refine q4 (ds := [.agg (qm f), .int budget]) _ (by simp) (by simp) (fun _ => by simp) (fun _ => z6g f budget) ?_
  simp
  simp only [getD_some hk, hf]
  refine ⟨fun h => ?_, fun h => ?_⟩
  ·have hz : qsa f budget = false := by
    rcases h with h | h
    ·omega
    ·exact h
   rw [hL, hz]
   exact noLeaf
  ·obtain ⟨b, hb, _⟩ := q8y.1 h
   rw [hL, if_pos h, hb]
   exact ⟨hk, by simp, DLe.refl _⟩
 ·rw [h1]
  have hL : qag m budget s = none := by unfold qag; rw [h2]
  refine ⟨fun h => by omega, ?_⟩
  refine q4 (F := 0) (ds := []) (.bool false) (by simp) (by simp) (fun h => by simp at h) (fun h => by simp at h) ?_
  simp
  rw [hL]
  trace_state
  exact noLeaf
theorem SameParams.rfl' (f : Func) : SameParams f f := ⟨rfl, fun k b h => ⟨b, h, rfl⟩⟩
theorem qln {m : Module} {budget : Int} {b : Block} {at' : Nat} (h : at' < b.ins.length) : q77 m budget (b.ins.length - at') b at' =
  if (b.ins[at']'h).op = 14 then (match qag m budget (b.ins[at']'h).name with
    | some l => if q60 b l at' = true then q77 m budget (b.ins.length - at' - 1) (putB b l at') (at' + l.ins.length) else q77 m budget (b.ins.length - (at' + 1)) b (at' + 1)
    | none => q77 m budget (b.ins.length - (at' + 1)) b (at' + 1)) else q77 m budget (b.ins.length - (at' + 1)) b (at' + 1) := by
 obtain ⟨n, hn⟩ : ∃ n, b.ins.length - at' = n + 1 := ⟨b.ins.length - at' - 1, by omega⟩
 rw [hn, show b.ins.length - (at' + 1) = n by omega]
 rw [q77, List.getElem?_eq_getElem h]
 simp only [Nat.add_sub_cancel]
 cases qag m budget (b.ins[at']'h).name <;> rfl
theorem qp7 {m : Module} {budget : Int} {b : Block} {at' : Nat} (h : b.ins.length ≤ at') : q77 m budget (b.ins.length - at') b at' = b := by
 rw [show b.ins.length - at' = 0 by omega]
 rfl
theorem qlp {m : Module} (hok : ModOk m) {budget : Int} {f : Func} {b l : Block} {at' : Nat} (hb : qj f b = true) (h : at' < b.ins.length) (h14 : (b.ins[at']'h).op = 14) (hl : qag m budget (b.ins[at']'h).name = some l) (hy : q60 b l at' = true) :
  qj f (putB b l at') = true ∧ (putB b l at').ins.length = b.ins.length - 1 + l.ins.length := by
 obtain ⟨y1, y2, y3, y4, y5⟩ := qql.1 hy
 rw [List.getElem?_eq_getElem h] at y3
 obtain ⟨g, hg, hgl, hk, hno⟩ := qj0 hl
 have hgo : qj g l = true := List.all_eq_true.1 (q2g (hok.funcs g (List.mem_of_find?_eq_some hg))) l (by rw [hgl]; simp)
 obtain ⟨P, hP⟩ := Int.eq_ofNat_of_zero_le (qh.1 hb).1
 obtain ⟨Q, hQ⟩ := Int.eq_ofNat_of_zero_le (qh.1 hgo).1
 exact ⟨z6x (.rfl' f) hb hgo hk hP hQ (List.getElem?_eq_getElem h) h14 (by simp at y3; omega) (by omega), by rw [qj5 h, qm2 h]⟩
theorem qyc {f : Func} {b : Block} (hf : qr f = true) (hb : qj f b = true) : NumsOk b := (qtz (f := f) (fun c hc => (qh.1 (List.all_eq_true.1 (q2g hf) c hc)).2.1) hb).1
theorem qvi {m : Module} (hok : ModOk m) {budget : Int} {s : ByteArray} {l : Block} (h : qag m budget s = some l) : NumsOk l := by
 obtain ⟨g, hg, hgl, hk, hno⟩ := qj0 h
 have hgm := hok.funcs g (List.mem_of_find?_eq_some hg)
 exact qyc hgm (List.all_eq_true.1 (q2g hgm) l (by rw [hgl]; simp))
set_option maxRecDepth 10000 in
set_option maxHeartbeats 1000000 in
theorem qxd (m : Module) (hok : ModOk m) (budget : Int) (f : Func) (hf : qr f = true) (b : Block) (hb : qj f b = true) : APure Tryz.prog 72 [.agg (qd b), .agg (q8 m), .int budget] (.agg (qd (inlB m budget b))) := by
  refine qb _ _ Tryz.func72 (by kernel_rfl) qom qos rfl rfl (fun _ => ?_)
  simp [qef, qem]
  obtain ⟨R, hR⟩ : ∃ R, inlB m budget b = R := ⟨_, rfl⟩
  rw [hR]
  refine qe (κ := Nat × Block) (fun q => q.1 ≤ q.2.ins.length ∧ qj f q.2 = true ∧ q77 m budget (q.2.ins.length - q.1) q.2 q.1 = R) (fun q => q.2.ins.length - q.1) (fun q => [(sl 7, .int q.1)])
    (fun q => [(0, .box ((qd q.2).map .d)), (2, .box [.d (.int 0), .d (.lit (.slice none 0 0)), .d (.int 0), .d (.int 0), .d (.int 0), .d (.lit (.slice none 0 0)), .d (.int 0), .d (.lit (.slice none 0 0))])]) 3 (0, b) (srcs [(0, .id 0), (2, .id 2)])
    ⟨Nat.zero_le _, hb, hR⟩ (by simp) ?_
  rintro ⟨at1, b1⟩ ⟨hat, hb1, hR1⟩
  simp
  simp only at hat hb1 hR1
  have hb32 := (qh.1 hb1).2.2.1
  refine ⟨fun hlt => ?_, fun hge => ?_⟩
  rotate_left
  · rw [qp7 hge] at hR1
    rw [hR1]
    exact DLe.refl _
  rw [qln hlt] at hR1
  simp only [getD_some hlt]
  refine ⟨hlt, fun h14 => ?_, fun h14 => ?_⟩
  · rw [if_neg h14] at hR1
    refine ⟨at1 + 1, b1, ⟨hlt, hb1, hR1⟩, by omega, srcs [(0, .id 0), (2, .id 2)], ?_⟩
    simp [SLeK]
    exact q6 (q5 (by omega))
  · rw [if_pos h14] at hR1
    refine q4 (ds := [.agg (q8 m), .str b1.ins[at1].name, .int budget]) _ (by simp) (by simp) (fun _ => by simp; rfl) (fun _ => z2j m _ budget) ?_
    simp
    cases hl : qag m budget b1.ins[at1].name with
    | none =>
      rw [hl] at hR1
      simp
      refine ⟨at1 + 1, b1, ⟨hlt, hb1, hR1⟩, by omega, srcs [(0, .id 0), (2, .id 2)], ?_⟩
      simp [SLeK]
      exact q6 (q5 (by omega))
    | some l =>
      rw [hl] at hR1
      simp only at hR1
      simp
      have hn1 := qyc hf hb1
      have hn2 := qvi hok hl
      refine q4 (ds := [.agg (qd b1), .agg (qd l), .int at1]) _ (by simp) (by simp) (fun _ => by simp; exact ⟨rfl, rfl⟩) (fun _ => z6z b1 l at1 hn1 hn2) ?_
      simp
      refine ⟨fun hy => ?_, fun hy => ?_⟩
      · rw [if_neg (by simp [hy])] at hR1
        refine ⟨at1 + 1, b1, ⟨hlt, hb1, hR1⟩, by omega, srcs [(0, .id 0), (2, .id 2)], ?_⟩
        simp [SLeK]
        exact q6 (q5 (by omega))
      · rw [if_pos hy] at hR1
        obtain ⟨k1, k2⟩ := qlp hok hb1 hlt h14 hl hy
        have hl32 := hn2.n32
        refine ⟨at1 + l.ins.length, putB b1 l at1, ⟨by omega, k1, by rw [← hR1, k2]; congr 1; omega⟩, by omega, srcs [(0, .id 0), (2, .id 2)], ?_⟩
        simp [SLeK, hy]
        exact q6 (qq (by omega))
set_option maxRecDepth 10000 in
set_option maxHeartbeats 1000000 in
theorem qog (m : Module) (hok : ModOk m) (budget : Int) (f : Func) (hf : qr f = true) (b : Block) (hb : qj f b = true) : APure Tryz.prog 49 [.agg (qd b), .agg (q8 m), .int budget] (.agg (qd (inlB m budget b))) := by
 refine qb _ _ Tryz.func49 (by kernel_rfl) qdz qec rfl rfl (fun _ => ?_)
 simp [q7i, q7v]
 obtain ⟨R, hR⟩ : ∃ R, inlB m budget b = R := ⟨_, rfl⟩
 rw [hR]
 refine qe (κ := Nat × Block) (fun q => q.1 ≤ q.2.ins.length ∧ qj f q.2 = true ∧ q77 m budget (q.2.ins.length - q.1) q.2 q.1 = R) (fun q => q.2.ins.length - q.1) (fun q => [(sl 7, .int q.1)])
  (fun q => [(0, .box ((qd q.2).map .d)), (2, .box [.d (.int 0), .d (.lit (.slice none 0 0)), .d (.int 0), .d (.int 0), .d (.int 0), .d (.lit (.slice none 0 0)), .d (.int 0), .d (.lit (.slice none 0 0))])]) 3 (0, b) (srcs [(0, .id 0), (2, .id 2)])
  ⟨Nat.zero_le _, hb, hR⟩ (by simp) ?_
 rintro ⟨at1, b1⟩ ⟨hat, hb1, hR1⟩
 simp
 simp only at hat hb1 hR1
 have hb32 := (qh.1 hb1).2.2.1
 refine ⟨fun hlt => ?_, fun hge => ?_⟩
 rotate_left
 ·rw [qp7 hge] at hR1
  rw [hR1]
  exact DLe.refl _
 rw [qln hlt] at hR1
 simp only [getD_some hlt]
 refine ⟨hlt, ?_⟩
 refine q4 (ds := [.agg (q8 m), .str b1.ins[at1].name]) _ (by simp) (by simp) (fun _ => by simp; rfl) (fun _ => q56 m _) ?_
 simp
 simp only [getD_some hlt]
 obtain ⟨k, hk, h1, h2⟩ | ⟨h1, h2⟩ := qhk m b1.ins[at1].name
 rotate_left
 ·have hl : qag m budget b1.ins[at1].name = none := by unfold qag; rw [h2]
  rw [hl] at hR1
  rw [h1]
  refine ⟨hlt, fun _ h => by omega, fun _ => ⟨at1 + 1, b1, ⟨hlt, hb1, by simpa using hR1⟩, by omega, srcs [(0, .id 0), (2, .id 2)], ?_⟩⟩
  simp [SLeK]
  exact q6 (q5 (by omega))
 rw [h1]
 obtain ⟨g, hg⟩ : ∃ g, m.funcs[k] = g := ⟨_, rfl⟩
 have hgm : g ∈ m.funcs := by rw [← hg]; exact List.getElem_mem hk
 have hgk : m.funcs[k]?.getD default = g := by rw [getD_some hk, hg]
 have hL : qag m budget b1.ins[at1].name = if qsa g budget = true then g.blocks[0]? else none := by unfold qag; rw [h2, hg]
 simp only [Int.toNat_natCast, hgk]
 refine ⟨hlt, fun h14 h0 => ⟨⟨by omega, by omega⟩, ?_⟩, fun h => ?_⟩
 rotate_left
 ·rw [if_neg (fun h14 => by have := h h14; omega)] at hR1
  refine ⟨at1 + 1, b1, ⟨hlt, hb1, hR1⟩, by omega, srcs [(0, .id 0), (2, .id 2)], ?_⟩
  simp [SLeK]
  exact q6 (q5 (by omega))
 rw [if_pos h14] at hR1
 refine q4 (ds := [.agg (qm g), .int budget]) _ (by simp) (by simp) (fun _ => by simp) (fun _ => qvy g budget (fun c hc => by have := (qh.1 (List.all_eq_true.1 (q2g (hok.funcs g hgm)) c hc)).2.2.1; omega)) ?_
 simp
 simp only [hgk]
 refine ⟨fun hlf => ?_, fun hlf => ?_⟩
 ·obtain ⟨l, hgl, _⟩ := q8y.1 hlf
  have hl : qag m budget b1.ins[at1].name = some l := by rw [hL, if_pos hlf, hgl]; rfl
  rw [hl] at hR1
  simp only at hR1
  have hg0 : g.blocks[0]?.getD default = l := by rw [hgl]; rfl
  have hn1 := qyc hf hb1
  have hn2 := qvi hok hl
  refine ⟨hk, by rw [hgl]; simp, ?_⟩
  simp only [hg0]
  refine q4 (ds := [.agg (qd b1), .agg (qd l), .int at1]) _ (by simp) (by simp) (fun _ => by simp; rfl) (fun _ => z70 b1 l at1 hn1 hn2) ?_
  simp
  simp only [hgk, hg0]
  refine ⟨fun hy => ?_, fun hy => ?_⟩
  ·rw [if_pos hy] at hR1
   obtain ⟨k1, k2⟩ := qlp hok hb1 hlt h14 hl hy
   have hl32 := hn2.n32
   refine ⟨hk, by rw [hgl]; simp, at1 + l.ins.length, putB b1 l at1, ⟨by omega, k1, by rw [← hR1, k2]; congr 1; omega⟩, by omega, srcs [(0, .id 0), (2, .id 2)], ?_⟩
   simp [SLeK, hy]
   exact q6 (qq (by omega))
  ·rw [if_neg (by simp [hy])] at hR1
   refine ⟨at1 + 1, b1, ⟨hlt, hb1, hR1⟩, by omega, srcs [(0, .id 0), (2, .id 2)], ?_⟩
   simp [SLeK]
   exact q6 (q5 (by omega))
 ·rw [hlf] at hL
  rw [hL] at hR1
  refine ⟨at1 + 1, b1, ⟨hlt, hb1, by simpa using hR1⟩, by omega, srcs [(0, .id 0), (2, .id 2)], ?_⟩
  simp [SLeK]
  exact q6 (q5 (by omega))
def qc7 : ACode :=
 (.seq (.reg [Ro 2 (.box true (Sv 0)), Ro 4 (.new [(.slice none 0 0), (.slice none 0 0)])])
 (.seq (.seq (.reg [Ro 10 (Lk 2 2), Ro 11 (.call true (.f 34) [Sv 10]), Ro 12 (.bin .neq (Sv 11) (Ci 0))])
 (.cond (Sv 12)
 (.seq (.reg [Ro 13 (Lk 2 2), Rn (.st (Sv 4) (Sv 13) 2)])
 .ret)
 .skip))
 (.seq (.reg [Ro 14 (Lk 2 2), Ro 5 (.new [(.slice none 0 0), (.slice none 0 0)]), Rn (.ini 1 (Sv 5) (Sv 14) 2)])
 (.seq (.reg [Ro 15 (Fd 2 0), Ro 16 (Ld 15), Ro 17 (.callv 61 4 (.f 67) [Sv 16]), Ro 18 (Fd 5 0), Rn (.st (Sv 18) (Sv 17) 1)])
 (.seq (.seq (.reg [Ro 19 (Fd 2 0), Ro 20 (Ld 19), Ro 21 (.len false (Sv 20)), Ro 22 (.mv (Ci 0))])
 (.block 0
 (.loop (.seq (.reg [Ro 23 (.bin .lss (Sv 22) (Sv 21))])
 (.seq (.cond (Sv 23)
 .skip
 (.exit 0))
 (.seq (.block 1
 (.seq (.seq (.reg [Ro 24 (Mv 22), Ro 25 (.idx true (Sv 20) (Sv 22) 4), Ro 26 (Lk 25 4), Ro 7 (.new [(.string ⟨#[]⟩), (.int .i64 0), (.int .i64 0), (.slice none 0 0)]), Ro 6 (Mv 24), Rn (.ini 2 (Sv 7) (Sv 26) 4)])
 (.frz (sl 7)))
 (.seq (.reg [Ro 27 (Fd 5 0), Ro 28 (.ld false (Sv 27) none), Ro 29 (Mv 6), Ro 30 (.idx false (Sv 28) (Sv 29) 4), Ro 31 (Fd 30 3), Rn (.st (Sv 31) (.c (.slice none 0 0)) 1)])
 (.seq (.reg [Ro 32 (Fd 7 3), Ro 33 (Ld 32), Ro 34 (.len false (Sv 33)), Ro 35 (.mv (Ci 0))])
 (.block 2
 (.loop (.seq (.reg [Ro 36 (.bin .lss (Sv 35) (Sv 34))])
 (.seq (.cond (Sv 36)
 .skip
 (.exit 2))
 (.seq (.block 3
 (.seq (.seq (.reg [Ro 37 (.idx true (Sv 33) (Sv 35) 8), Ro 38 (Lk 37 8), Ro 9 (.new [(.int .i64 0), (.slice none 0 0), (.int .i64 0), (.int .i64 0), (.int .i64 0), (.slice none 0 0), (.int .i64 0), (.slice none 0 0)]), Rn (.ini 1 (Sv 9) (Sv 38) 8)])
 (.frz (sl 9)))
 (.reg [⟨(some (sl 39)), none, (Fd 5 0), (some (0, [[]]))⟩, ⟨(some (sl 40)), none, (.ld false (Sv 39) none), (some (1, [[]]))⟩, ⟨(some (sl 41)), none, (Mv 6), (some (2, [[]]))⟩, ⟨(some (sl 42)), none, (Fd 5 0), (some (3, [[]]))⟩, ⟨(some (sl 43)), none, (.ld false (Sv 42) none), (some (4, [[]]))⟩, ⟨(some (sl 44)), none, (Mv 6), (some (5, [[]]))⟩, ⟨(some (sl 45)), none, (.idx false (Sv 43) (Sv 44) 4), (some (6, [[]]))⟩, ⟨(some (sl 46)), none, (Fd 45 3), (some (7, [[]]))⟩, ⟨(some (sl 47)), none, (.ld false (Sv 46) none), (some (8, [[]]))⟩, ⟨(some (sl 48)), none, (Lk 9 8), (some (9, [[]]))⟩, ⟨(some (sl 49)), none, (Lk 2 2), (some (10, [[]]))⟩, ⟨(some (sl 50)), none, (Mv 1), (some (11, [[]]))⟩, ⟨(some (sl 51)), none, (.call true (.f 72) [Sv 48, Sv 49, Sv 50]), (some (12, [[]]))⟩, ⟨(some (sl 52)), none, (.mksl 8 1 [(.int .i64 0), (.slice none 0 0), (.int .i64 0), (.int .i64 0), (.int .i64 0), (.slice none 0 0), (.int .i64 0), (.slice none 0 0)] [(0, 8, (Sv 51))]), (some (13, [[]]))⟩, ⟨(some (sl 53)), none, (.app 58 8 112 (Sv 47) (Sv 52)), (some (14, [[]]))⟩, ⟨(some (sl 54)), none, (.idx false (Sv 40) (Sv 41) 4), (some (15, [[]]))⟩, ⟨(some (sl 55)), none, (Fd 54 3), (some (16, [[]]))⟩, ⟨none, none, (.st (Sv 55) (Sv 53) 1), (some (17, [[]]))⟩])))
 (.reg [Ro 56 (.bin .add (Sv 35) (Ci 1)), Ro 35 (Mv 56)]))))))))))
 (.reg [Ro 57 (.bin .add (Sv 22) (Ci 1)), Ro 22 (Mv 57)])))))))
 (.seq (.reg [Ro 58 (.ld false (Sv 5) (some 2)), Rn (.st (Sv 4) (Sv 58) 2)])
 .ret))))))
def qcj : List ARes := [(.cell (sl 4) (some 2))]
theorem qnt : (Tryz.f43).body.bind (q9 Tryz.prog 8 (Tryz.f43).ntmps [4, 5, 17, 18, 27, 28, 30, 31, 39, 40, 42, 43, 45, 46, 47, 53, 54, 55, 58] [(67, 61, 1004), (4000008, 0, 1)] (drOk 8)) = some qc7 := by kernel_rfl
theorem qo3 : qa Tryz.prog 8 (Tryz.f43).results.toList = some qcj := by kernel_rfl
def q6l : ACode :=
 (.seq (.reg [Ro 2 (.box true (Sv 0)), Ro 4 (.new [(.slice none 0 0), (.slice none 0 0)])])
 (.seq (.seq (.reg [Ro 10 (Lk 2 2), Ro 11 (.call true (.f 8) [Sv 10]), Ro 12 (.bin .neq (Sv 11) (Ci 0))])
 (.cond (Sv 12)
 (.seq (.reg [Ro 13 (Lk 2 2), Rn (.st (Sv 4) (Sv 13) 2)])
 .ret)
 .skip))
 (.seq (.reg [Ro 14 (Fd 2 1), Ro 15 (Ld 14), Ro 16 (.bld [(.slice none 0 0), (.slice none 0 0)] [(1, 1, (Sv 15))]), Ro 5 (.new [(.slice none 0 0), (.slice none 0 0)]), Rn (.ini 1 (Sv 5) (Sv 16) 2)])
 (.seq (.seq (.reg [Ro 6 (.mv (Ci 0))])
 (.block 0
 (.loop (.seq (.seq (.reg [Ro 17 (Mv 6), Ro 18 (Fd 2 0), Ro 19 (Ld 18), Ro 20 (.len false (Sv 19)), Ro 21 (.bin .lss (Sv 17) (Sv 20))])
 (.cond (Sv 21)
 .skip
 (.exit 0)))
 (.seq (.block 1
 (.seq (.seq (.reg [Ro 24 (Fd 2 0), Ro 25 (Ld 24), Ro 26 (Mv 6), Ro 27 (.idx true (Sv 25) (Sv 26) 4), Ro 28 (Lk 27 4), Ro 7 (.new [(.string ⟨#[]⟩), (.int .i64 0), (.int .i64 0), (.slice none 0 0)]), Rn (.ini 1 (Sv 7) (Sv 28) 4)])
 (.frz (sl 7)))
 (.seq (.reg [Ro 29 (Fd 7 0), Ro 30 (Ld 29), Ro 31 (Fd 7 1), Ro 32 (Ld 31), Ro 33 (Fd 7 2), Ro 34 (Ld 33), Ro 35 (.bld [(.string ⟨#[]⟩), (.int .i64 0), (.int .i64 0), (.slice none 0 0)] [(0, 1, (Sv 30)), (1, 1, (Sv 32)), (2, 1, (Sv 34))]), Ro 8 (.new [(.string ⟨#[]⟩), (.int .i64 0), (.int .i64 0), (.slice none 0 0)]), Rn (.ini 1 (Sv 8) (Sv 35) 4)])
 (.seq (.seq (.reg [Ro 9 (.mv (Ci 0))])
 (.block 2
 (.loop (.seq (.seq (.reg [Ro 36 (Mv 9), Ro 37 (Fd 7 3), Ro 38 (Ld 37), Ro 39 (.len false (Sv 38)), Ro 40 (.bin .lss (Sv 36) (Sv 39))])
 (.cond (Sv 40)
 .skip
 (.exit 2)))
 (.seq (.block 3
 (.reg [Rl 43 (Fd 8 3) 0, Rl 44 (.ld false (Sv 43) none) 1, Rl 45 (Fd 7 3) 2, Rl 46 (Ld 45) 3, Rl 47 (Mv 9) 4, Rl 48 (.idx true (Sv 46) (Sv 47) 8) 5, Rl 49 (Lk 48 8) 6, Rl 50 (Lk 2 2) 7, Rl 51 (Mv 1) 8, Rl 52 (.call true (.f 49) [Sv 49, Sv 50, Sv 51]) 9, Rl 53 (.mksl 8 1 [(.int .i64 0), (.slice none 0 0), (.int .i64 0), (.int .i64 0), (.int .i64 0), (.slice none 0 0), (.int .i64 0), (.slice none 0 0)] [(0, 8, (Sv 52))]) 10, Rl 54 (.app 58 8 112 (Sv 44) (Sv 53)) 11, Rl 55 (Fd 8 3) 12, ⟨none, none, (.st (Sv 55) (Sv 54) 1), (some (13, []))⟩]))
 (.reg [Ro 41 (Mv 9), Ro 42 (.bin .add (Sv 41) (Ci 1)), Ro 9 (Mv 42)]))))))
 (.seq (.frz (sl 8))
 (.reg [Ro 56 (Fd 5 0), Ro 57 (.ld false (Sv 56) none), Ro 58 (.ld false (Sv 8) (some 4)), Ro 59 (.mksl 4 1 [(.string ⟨#[]⟩), (.int .i64 0), (.int .i64 0), (.slice none 0 0)] [(0, 4, (Sv 58))]), Ro 60 (.app 61 4 56 (Sv 57) (Sv 59)), Ro 61 (Fd 5 0), Rn (.st (Sv 61) (Sv 60) 1)]))))))
 (.reg [Ro 22 (Mv 6), Ro 23 (.bin .add (Sv 22) (Ci 1)), Ro 6 (Mv 23)]))))))
 (.seq (.reg [Ro 62 (.ld false (Sv 5) (some 2)), Rn (.st (Sv 4) (Sv 62) 2)])
 .ret)))))
def q6w : List ARes := [(.cell (sl 4) (some 2))]
theorem qcz : (Tryz.f29).body.bind (q9 Tryz.prog 8 (Tryz.f29).ntmps [4, 5, 8, 43, 44, 54, 55, 56, 57, 58, 59, 60, 61, 62] [(67, 61, 1004), (4000008, 0, 1)] (drOk 8)) = some q6l := by kernel_rfl
theorem qd8 : qa Tryz.prog 8 (Tryz.f29).results.toList = some q6w := by kernel_rfl
def qz : ACode :=
 (.seq (.reg [Ro 2 (.mv (.c (.slice none 0 0)))])
 (.seq (.seq (.reg [Ro 3 (Mv 0), Ro 4 (.isnil false (Sv 3))])
 (.cond (Sv 4)
 (.seq (.reg [Ro 2 (.mv (.c (.slice none 0 0)))])
 .ret)
 .skip))
 (.seq (.reg [Ro 5 (.nrow 61 4), Ro 6 (Mv 0), Ro 7 (.vapp 61 4 56 (Sv 5) (Sv 6)), Ro 2 (Mv 7)])
 .ret)))
def q11 : List ARes := [(.tmp (sl 2))]
theorem q28 : (Tryz.f67).body.bind (q9 Tryz.prog 8 (Tryz.f67).ntmps [2, 7] [(2000007, 61, 4)] (drOk 8)) = some qz := by kernel_rfl
theorem q2a : qa Tryz.prog 8 (Tryz.f67).results.toList = some q11 := by kernel_rfl
theorem AOwnV.nilSplit {P : Program} {F : FuncId} {n len : Nat} {row : Nat → List DV} {as' : List DV} {te : TypeId} {m l : Nat} {r : Nat → List DV} (h0 : len = 0 → AOwnV P F (.lit (.slice none 0 0) :: as') te m l r) (h1 : AOwnV P F (.sn n len row :: as') te m l r) : AOwnV P F (.sl n len row :: as') te m l r := by
 refine ⟨h1.1, fun X w vs hX hvs => ?_⟩
 obtain ⟨v, vs', he, hv, hr⟩ := hvs.uncons
 by_cases hn : v = .slice none 0 0
 ·have hl : len = 0 := by
   subst hn
   cases hv
   rfl
  subst hn
  exact (h0 hl).2 X w vs hX (by rw [he]; exact DReps.cons (.lit _) hr)
 ·exact h1.2 X w vs hX (by rw [he]; exact DReps.cons (.sn v _ _ _ hv hn) hr)
set_option maxRecDepth 10000 in
theorem qpl (fs : List Func) (hl : fs.length ≤ 1000000) : AOwnV Tryz.prog 67 [q24 fs] 61 4 fs.length (fun i => qm (fs[i]?.getD default)) := by
 refine AOwnV.nilSplit (fun h0 => ?_) ?_
 ·refine qts _ _ Tryz.func67 (by kernel_rfl) q28 q2a rfl rfl (fun _ => ?_)
  simp [qz, q11]
  exact List.length_eq_zero_iff.1 h0
 ·refine qts _ _ Tryz.func67 (by kernel_rfl) q28 q2a rfl rfl (fun _ => ?_)
  simp [qz, q11]
  omega
def qnp (m : Module) (budget : Int) (i : Nat) : List Func := (m.funcs.take i).map (inlF m budget) ++ m.funcs.drop i
theorem stepF_at {m : Module} {budget : Int} {i : Nat} (hi : i < m.funcs.length) : (qnp m budget i)[i]? = some m.funcs[i] := by
 unfold qnp
 rw [List.getElem?_append_right (by simp; omega)]
 simp only [List.length_map, List.length_take, List.getElem?_drop]
 rw [show i + (i - min i m.funcs.length) = i by omega, List.getElem?_eq_getElem hi]
theorem z35 {m : Module} {budget : Int} {i : Nat} (hi : i < m.funcs.length) (j : Nat) : (qnp m budget (i + 1))[j]? = if j = i then some (inlF m budget m.funcs[i]) else (qnp m budget i)[j]? := by
 unfold qnp
 by_cases h : j = i
 ·subst h
  rw [if_pos rfl, List.getElem?_append_left (by simp; omega)]
  simp [hi]
 ·rw [if_neg h]
  by_cases h1 : j < i
  ·rw [List.getElem?_append_left (by simp; omega), List.getElem?_append_left (by simp; omega)]
   simp [h1, show j < i + 1 by omega]
  ·rw [List.getElem?_append_right (by simp; omega), List.getElem?_append_right (by simp; omega)]
   simp only [List.length_map, List.length_take, List.getElem?_drop]
   congr 1
   omega
theorem z7l {m : Module} {budget : Int} {i : Nat} (hi : m.funcs.length ≤ i) : qnp m budget i = m.funcs.map (inlF m budget) := by
 unfold qnp
 rw [List.take_of_length_le hi, List.drop_eq_nil_of_le hi, List.append_nil]
set_option maxRecDepth 10000 in
set_option maxHeartbeats 1000000 in
theorem qvg (m : Module) (hm : ∀ f ∈ m.funcs, ∀ b ∈ f.blocks, ∀ i ∈ b.ins, i.args.length ≤ 17592186044416) (budget : Int) : APure Tryz.prog 43 [.agg (q8 m), .int budget] (.agg (q8 (inlM m budget))) := by
 refine qb _ _ Tryz.func43 (by kernel_rfl) qnt qo3 rfl rfl (fun _ => ?_)
 simp [qc7, qcj]
 refine q4 (ds := [.agg (q8 m)]) _ (by simp) (by simp) (fun _ => by simp; rfl) (fun _ => qpk m hm) ?_
 simp
 refine ⟨fun hz => ?_, fun hz => ?_⟩
 ·have e : inlM m budget = m := by unfold inlM; rw [if_neg hz]
  rw [e]
  exact DLe.refl _
 have hok := q34.1 hz
 have hnf := hok.nf
 refine qh1 m.funcs.length _ (by simp) (by simp) (by simp) (qpl m.funcs (by omega)) ?_
 simp
 refine qe (κ := Nat) (fun i => i ≤ m.funcs.length) (fun i => m.funcs.length - i) (fun i => [(sl 22, .int i)])
  (fun i => [(10, .vec 61 4 m.funcs.length fun j => (qm ((qnp m budget i)[j]?.getD default)).map .d), (6, .box [.own 10 m.funcs.length, .d (q2u m.globs)]), (1, .box [.d (.lit (.slice none 0 0)), .d (.lit (.slice none 0 0))])]) 11 0 (srcs [(10, .id 10), (6, .id 6), (1, .id 1)]) (by simp) (by simp [qnp]) ?_
 intro i hi
 simp
 refine ⟨fun hlt => ?_, fun hge => ?_⟩
 ·refine ⟨hlt, ?_⟩
  rw [getD_some hlt]
  obtain ⟨f, hf⟩ : ∃ f, m.funcs[i] = f := ⟨_, rfl⟩
  have hsi : (qnp m budget i)[i]?.getD default = f := by rw [stepF_at hlt, hf]; rfl
  have hfm : f ∈ m.funcs := by rw [← hf]; exact List.getElem_mem hlt
  have hfo := hok.funcs f hfm
  have hbl := q1v hfo
  simp only [hf, hsi]
  obtain ⟨bs, hbs⟩ : ∃ bs, f.blocks.map (inlB m budget) = bs := ⟨_, rfl⟩
  have hbsl : bs.length = f.blocks.length := by rw [← hbs]; simp
  refine qe (κ := Nat) (fun k => k ≤ f.blocks.length) (fun k => f.blocks.length - k) (fun k => [(sl 35, .int k)])
   (fun k => [(0, .row 58 8 k fun j => qd (bs[j]?.getD default)), (10, .vec 61 4 m.funcs.length (updR (fun j => (qm ((qnp m budget i)[j]?.getD default)).map .d) i [.d (.str f.name), .d (.int f.bind), .d (.int f.params), .own 0 k])), (6, .box [.own 10 m.funcs.length, .d (q2u m.globs)]), (1, .box [.d (.lit (.slice none 0 0)), .d (.lit (.slice none 0 0))])]) 11 0 (srcs [(0, .nil), (10, .id 10), (6, .id 6), (1, .id 1)]) (by simp) ?_ ?_
  ·simp
   intro j hj
   split <;> simp
  intro k hk
  simp
  refine ⟨fun hkl => ?_, fun hge => ?_⟩
  ·refine ⟨hkl, ?_⟩
   rw [getD_some hkl]
   have hbo : qj f f.blocks[k] = true := q31 hfo hkl
   refine ⟨hlt, ?_⟩
   refine q4 (ds := [.agg (qd f.blocks[k]), .agg (q8 m), .int budget]) _ (by simp) (by simp) (fun _ => by simp; exact ⟨rfl, rfl⟩) (fun _ => qxd m hok budget f hfo _ hbo) ?_
   simp
   refine ⟨by omega, hlt, k + 1, by omega, by omega, srcs [(0, .id 30), (10, .id 10), (6, .id 6), (1, .id 1)], ?_⟩
   simp [SLeK]
   refine ⟨q6 (q5 (by omega)), fun j hj => ?_, fun j hj => ?_⟩
   ·unfold q13
    split
    ·rfl
    ·obtain rfl : j = k := by omega
     rw [← hbs]
     simp [hkl, qd]
   ·split <;> simp
  ·obtain rfl : k = f.blocks.length := by omega
   refine ⟨i + 1, by omega, by omega, srcs [(10, .id 10), (6, .id 6), (1, .id 1)], ?_⟩
   simp [SLeK]
   refine ⟨q6 (q5 (by omega)), fun j hj => ?_⟩
   rw [z35 hlt]
   by_cases hji : j = i
   ·rw [if_pos hji, if_pos hji]
    simp [inlF, hf]
    rw [hbs, ← hbsl]
    exact DLe.refl _
   ·rw [if_neg hji, if_neg hji]
    simp
 ·rw [z7l hge]
  have e : inlM m budget = { m with funcs := m.funcs.map (inlF m budget) } := by unfold inlM; rw [if_pos hz]
  rw [e]
  refine DLe.of_eq ?_
  simp [q8, q24]
  rfl
set_option maxRecDepth 10000 in
set_option maxHeartbeats 1000000 in
theorem qnh (m : Module) (hm : ∀ f ∈ m.funcs, ∀ b ∈ f.blocks, ∀ i ∈ b.ins, i.args.length ≤ 17592186044416) (budget : Int) : APure Tryz.prog 29 [.agg (q8 m), .int budget] (.agg (q8 (inlM m budget))) := by
 refine qb _ _ Tryz.func29 (by kernel_rfl) qcz qd8 rfl rfl (fun _ => ?_)
 simp [q6l, q6w]
 refine q4 (ds := [.agg (q8 m)]) _ (by simp) (by simp) (fun _ => by simp; rfl) (fun _ => q84 m hm) ?_
 simp
 refine ⟨fun hz => ?_, fun hz => ?_⟩
 ·have e : inlM m budget = m := by unfold inlM; rw [if_neg hz]
  rw [e]
  exact DLe.refl _
 have hok := q34.1 hz
 have hnf := hok.nf
 obtain ⟨fs, hfs⟩ : ∃ fs, m.funcs.map (inlF m budget) = fs := ⟨_, rfl⟩
 have hfl : fs.length = m.funcs.length := by rw [← hfs]; simp
 refine qe (κ := Nat) (fun i => i ≤ m.funcs.length) (fun i => m.funcs.length - i) (fun i => [(sl 6, .int i)])
  (fun i => [(0, .row 61 4 i fun j => qm (fs[j]?.getD default)), (8, .box [.own 0 i, .d (q2u m.globs)]), (1, .box [.d (.lit (.slice none 0 0)), .d (.lit (.slice none 0 0))])]) 11 0 (srcs [(0, .nil), (8, .id 8), (1, .id 1)]) (by simp) (by simp) ?_
 intro i hi
 simp
 refine ⟨fun hlt => ?_, fun hge => ?_⟩
 rotate_left
 ·obtain rfl : i = m.funcs.length := by omega
  have e : inlM m budget = { m with funcs := fs } := by unfold inlM; rw [if_pos hz, hfs]
  rw [e]
  refine DLe.of_eq ?_
  simp [q8, q24, hfl]
 refine ⟨hlt, ?_⟩
 rw [getD_some hlt]
 obtain ⟨f, hf⟩ : ∃ f, m.funcs[i] = f := ⟨_, rfl⟩
 have hfm : f ∈ m.funcs := by rw [← hf]; exact List.getElem_mem hlt
 have hfo := hok.funcs f hfm
 have hbl := q1v hfo
 simp only [hf]
 obtain ⟨bs, hbs⟩ : ∃ bs, f.blocks.map (inlB m budget) = bs := ⟨_, rfl⟩
 have hbsl : bs.length = f.blocks.length := by rw [← hbs]; simp
 have hfi : fs[i]?.getD default = { f with blocks := bs } := by rw [← hfs, ← hbs]; simp [hlt, hf, inlF]
 refine qe (κ := Nat) (fun k => k ≤ f.blocks.length) (fun k => f.blocks.length - k) (fun k => [(sl 9, .int k)])
  (fun k => [(2, .row 58 8 k fun j => qd (bs[j]?.getD default)), (30, .box [.d (.str f.name), .d (.int f.bind), .d (.int f.params), .own 2 k]), (0, .row 61 4 i fun j => qm (fs[j]?.getD default)), (8, .box [.own 0 i, .d (q2u m.globs)]), (1, .box [.d (.lit (.slice none 0 0)), .d (.lit (.slice none 0 0))])])
  31 0 (srcs [(2, .nil), (30, .id 30), (0, .id 0), (8, .id 8), (1, .id 1)]) (by simp) (by simp) ?_
 intro k hk
 simp
 refine ⟨fun hkl => ?_, fun hge => ?_⟩
 ·refine ⟨hkl, ?_⟩
  rw [getD_some hkl]
  have hbo : qj f f.blocks[k] = true := q31 hfo hkl
  refine q4 (ds := [.agg (qd f.blocks[k]), .agg (q8 m), .int budget]) _ (by simp) (by simp) (fun _ => by simp; rfl) (fun _ => qog m hok budget f hfo _ hbo) ?_
  simp
  refine ⟨by omega, k + 1, by omega, by omega, srcs [(2, .id 47), (30, .id 30), (0, .id 0), (8, .id 8), (1, .id 1)], ?_⟩
  simp [SLeK]
  refine ⟨q6 (q5 (by omega)), fun j hj => ?_⟩
  unfold q13
  split
  ·rfl
  ·obtain rfl : j = k := by omega
   rw [← hbs]
   simp [hkl, qd]
 ·obtain rfl : k = f.blocks.length := by omega
  refine ⟨by omega, i + 1, by omega, by omega, srcs [(0, .id 40), (8, .id 8), (1, .id 1)], ?_⟩
  simp [SLeK]
  refine ⟨q6 (q5 (by omega)), fun j hj => ?_⟩
  unfold q13
  split
  ·rfl
  ·obtain rfl : j = i := by omega
   rw [hfi]
   simp [qm, q1k, hbsl]
end Go.Proofs.YtgadlpdbkohlbaaGreat
