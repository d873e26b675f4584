/- Texts of one kind, one behind the other (merged by program; the bodies of functions are printed by program). -/
import Derived.Test.YtgadlpdbkohlbaaGreatPMH
import Derived.Test.YtgadlpdbkohlbaaGreatRows
import Derived.ProofKit
import Derived.Deep.Slices
import Derived.SizedLaws
import Derived.Carry
namespace Go.Proofs.YtgadlpdbkohlbaaGreat
open Go.RowKit
structure BInvR (m : Module) (R : List ByteArray) (i : Nat) (l : List ByteArray) : Prop where
 le : i ≤ l.length
 root : ∀ x ∈ R, x ∈ l
 nodup : l.Nodup
 sub : ∀ x ∈ l, x ∈ qn m
 rch : ∀ x ∈ l, Rch m R x
 out : ∀ j (h : j < l.length), j < i → ∀ y ∈ q9n m l[j], y ∈ l
theorem BInvR.len {m : Module} {R : List ByteArray} {i : Nat} {l : List ByteArray} (h : BInvR m R i l) : l.length ≤ m.funcs.length + m.globs.length := by
 have h1 := z0n (l' := qn m) h.nodup h.sub
 rw [q5e] at h1
 exact h1
theorem BInvR.start {m : Module} {R : List ByteArray} (h1 : R.Nodup) (h2 : ∀ x ∈ R, x ∈ qn m) : BInvR m R 0 R := ⟨by simp, fun _ h => h, h1, h2, fun x hx => .root hx, fun j h hj => by omega⟩
theorem BInvR.add {m : Module} {R : List ByteArray} {i : Nat} {l : List ByteArray} (h : BInvR m R i l) {x : ByteArray} (hx : hasN l x = false) (hn : x ∈ qn m) (hr : Rch m R x) : BInvR m R i (l ++ [x]) := by
 have hxl : x ∉ l := fun h' => by rw [q2j.2 h'] at hx; cases hx
 refine ⟨by simp; have := h.le; omega, fun y hy => List.mem_append_left _ (h.root y hy), List.nodup_append.2 ⟨h.nodup, by simp, fun a ha b hb e => ?_⟩, fun y hy => ?_, fun y hy => ?_, fun j hj hji y hy => ?_⟩
 ·rw [List.mem_singleton.1 hb] at e
  exact hxl (e ▸ ha)
 ·rcases List.mem_append.1 hy with hy | hy
  ·exact h.sub y hy
  ·rw [List.mem_singleton.1 hy]; exact hn
 ·rcases List.mem_append.1 hy with hy | hy
  ·exact h.rch y hy
  ·rw [List.mem_singleton.1 hy]; exact hr
 ·have hjl : j < l.length := by have := h.le; omega
  rw [List.getElem_append_left hjl] at hy
  exact List.mem_append_left _ (h.out j hjl hji y hy)
theorem BInvR.next {m : Module} {R : List ByteArray} {i : Nat} {l : List ByteArray} (h : BInvR m R i l) (hi : i < l.length) (ho : ∀ y ∈ q9n m l[i], y ∈ l) : BInvR m R (i + 1) l :=
 ⟨hi, h.root, h.nodup, h.sub, h.rch, fun j hj hji y hy => by
  by_cases e : j = i
  ·subst e; exact ho y hy
  ·exact h.out j hj (by omega) y hy⟩
theorem BInvR.done {m : Module} {R : List ByteArray} {l : List ByteArray} (h : BInvR m R l.length l) (s : ByteArray) : s ∈ l ↔ Rch m R s := by
  refine ⟨h.rch s, fun hs => ?_⟩
  induction hs with
  | root hx => exact h.root _ hx
  | step _ ht ih =>
    obtain ⟨j, hj, rfl⟩ := List.getElem_of_mem ih
    exact h.out j hj hj _ ht
theorem qw1 {m : Module} {s : ByteArray} (h : s ∈ q3t m) : s ∈ qn m := by
 rcases z30.1 h with ⟨f, hf, _, rfl⟩ | ⟨g, hg, _, rfl⟩
 ·exact qhb hf
 ·exact qcc hg
theorem qw2 {m : Module} (h : (qn m).Nodup) : (q3t m).Nodup := by
 have hs : List.Sublist (q3t m) (qn m) := List.Sublist.append (List.filter_sublist.map _) (List.filter_sublist.map _)
 exact hs.nodup h
set_option maxRecDepth 10000 in
theorem qum (m : Module) (hm : Small m) (hok : ModOk m) (R : List ByteArray) (hRd : R.Nodup) (hRn : ∀ x ∈ R, x ∈ qn m) : APure Tryz.prog 46 [.agg (q8 m), q2k R] (q2k (q90 ((qn m).filter fun s => hasN (qk5 m R) s))) := by
 refine qb _ _ Tryz.func46 (by kernel_rfl) qfo qg6 rfl rfl (fun _ => ?_)
 have hlm := hm.len
 have hRl := (BInvR.start hRd hRn).len
 simp [q8k, q9a]
 refine ⟨by omega, ?_⟩
 refine qe (κ := Nat × List ByteArray) (fun q => BInvR m R q.1 q.2) (fun q => m.funcs.length + m.globs.length - q.1) (fun q => [(sl 6, .int q.1), (sl 5, .own 0 q.2.length)])
  (fun q => [(0, .row 9 1 q.2.length fun j => strC (q.2[j]?.getD ⟨#[]⟩))]) 1 (0, R) (srcs [(0, .id 4)]) (BInvR.start hRd hRn) (by simp) ?_
 rintro ⟨i, l⟩ hI
 have hll := hI.len
 simp at hI hll ⊢
 refine ⟨fun hlt => ⟨hlt, ?_⟩, fun hge => ?_⟩
 ·rw [getD_some hlt]
  refine q4 (ds := [.agg (q8 m), .str l[i]]) _ (by simp) (by simp) (fun _ => rfl) (fun _ => qyk m hm l[i]) ?_
  simp
  obtain ⟨N, hN⟩ : ∃ N, q9n m l[i] = N := ⟨_, rfl⟩
  have hNl : N.length ≤ 1048576 := by rw [← hN]; exact z6f hm _
  simp only [hN]
  refine qe (κ := Nat × List ByteArray) (fun q => q.1 ≤ N.length ∧ BInvR m R i q.2 ∧ q.2[i]? = some l[i] ∧ ∀ y ∈ N.take q.1, y ∈ q.2) (fun q => N.length - q.1) (fun q => [(sl 8, .int q.1), (sl 5, .own 0 q.2.length)])
   (fun q => [(0, .row 9 1 q.2.length fun j => strC (q.2[j]?.getD ⟨#[]⟩))]) 1 (0, l) (srcs [(0, .id 0)]) ⟨by simp, hI, by simp [hlt], by simp⟩ (by simp) ?_
  rintro ⟨k, l'⟩ ⟨h1, hI', h3, h4⟩
  have hll' := hI'.len
  simp at h1 h3 h4 hI' hll' ⊢
  refine ⟨fun hkl => ⟨hkl, ?_⟩, fun hge => ?_⟩
  ·rw [getD_some hkl]
   refine q4 (ds := [q2k l', .str N[k]]) _ (by simp) (by simp) (fun _ => by simp; rfl) (fun _ => qb0 l' N[k]) ?_
   simp
   have hxm : N[k] ∈ q9n m l[i] := by rw [hN]; exact List.getElem_mem _
   have htk : N.take (k + 1) = N.take k ++ [N[k]] := List.take_succ_eq_append_getElem hkl
   refine ⟨fun hno => ?_, fun hyes => ?_⟩
   ·refine ⟨hkl, by omega, k + 1, l' ++ [N[k]], ⟨by omega, hI'.add hno (qy5 hok hxm) (.step (hI.rch _ (List.getElem_mem hlt)) hxm), ?_, fun y hy => ?_⟩, by omega, srcs [(0, .id 20)], ?_⟩
    ·rw [List.getElem?_append_left (by have := (List.getElem?_eq_some_iff.1 h3).1; omega)]
     exact h3
    ·rw [htk] at hy
     rcases List.mem_append.1 hy with hy | hy
     ·exact List.mem_append_left _ (h4 y hy)
     ·exact List.mem_append_right _ hy
    ·rw [getD_some hkl]
     simp [SLeK]
     exact ⟨q6 (q5 (by omega)), fun i hi => q1t hi⟩
   ·refine ⟨k + 1, l', ⟨by omega, hI', h3, fun y hy => ?_⟩, by omega, srcs [(0, .id 0)], ?_⟩
    ·rw [htk] at hy
     rcases List.mem_append.1 hy with hy | hy
     ·exact h4 y hy
     ·rw [List.mem_singleton.1 hy]; exact q2j.1 hyes
    ·simp [SLeK]
     exact q6 (q5 (by omega))
  ·obtain ⟨hi', he'⟩ := List.getElem?_eq_some_iff.1 h3
   rw [List.take_of_length_le hge] at h4
   refine ⟨i + 1, l', hI'.next hi' (fun y hy => h4 y (by rw [he', hN] at hy; exact hy)), by omega, srcs [(0, .id 0)], ?_⟩
   simp [SLeK]
   exact q6 (q5 (by omega))
 have hil : i = l.length := by have := hI.le; omega
 subst hil
 have hp : ∀ s, hasN l s = hasN (qk5 m R) s := fun s => by
  rw [Bool.eq_iff_iff, q2j, q2j, hI.done]; exact (qqw m R s).symm
 have hnl := q5e m
 refine qe (κ := Nat) (fun k => k ≤ (qn m).length) (fun k => (qn m).length - k) (fun k => [(sl 11, .int k), (sl 5, .own 0 l.length), (sl 10, .own 1 (flO l m k).length)])
  (fun k => [(0, .row 9 1 l.length fun j => strC (l[j]?.getD ⟨#[]⟩)), (1, .row 9 1 (flO l m k).length fun j => strC ((flO l m k)[j]?.getD ⟨#[]⟩))]) 2 0 (srcs [(0, .id 0), (1, .nil)]) (by simp) (by simp) ?_
 rintro k hk
 simp
 rw [show IntKind.i64.wrap ((m.funcs.length : Int) + (m.globs.length : Int)) = (m.funcs.length : Int) + (m.globs.length : Int) from qq (by omega)]
 refine ⟨fun hlt => ⟨fun hf => ⟨hf, ?_⟩, fun hf => ?_⟩, fun hge => ?_⟩
 ·have hkn : k < (qn m).length := by omega
  rw [getD_some hf]
  obtain ⟨x, hx⟩ : ∃ x, m.funcs[k].name = x := ⟨_, rfl⟩
  simp only [hx]
  have hxe : (qn m)[k] = x := by rw [← hx]; simp [qn, q3c, hf]
  refine q4 (ds := [q2k l, .str x]) _ (by simp) (by simp) (fun _ => by simp) (fun _ => qb0 l x) ?_
  simp
  have hol := qpp l m k
  have hsucc := z04 (l := l) hkn
  rw [hxe] at hsucc
  obtain ⟨o, ho⟩ : ∃ o, flO l m k = o := ⟨_, rfl⟩
  rw [ho] at hsucc hol
  simp only [ho]
  refine q4 (ds := [q2k o, .str x]) _ (by simp) (by simp) (fun _ => by simp) (fun _ => qb0 o x) ?_
  simp
  refine ⟨fun h1 h2 => ?_, fun h => ?_⟩
  ·rw [if_pos ⟨h1, h2⟩] at hsucc
   refine ⟨by omega, k + 1, by omega, by omega, srcs [(0, .id 0), (1, .id 40)], ?_⟩
   simp [SLeK, hsucc]
   exact ⟨q6 (q5 (by omega)), fun i hi => q1t hi⟩
  ·rw [if_neg (by rintro ⟨h1, h2⟩; rw [h h1] at h2; cases h2)] at hsucc
   refine ⟨k + 1, by omega, by omega, srcs [(0, .id 0), (1, .id 1)], ?_⟩
   simp [SLeK, hsucc]
   exact q6 (q5 (by omega))
 ·have hkn : k < (qn m).length := by omega
  have hkg : k - m.funcs.length < m.globs.length := by omega
  rw [show IntKind.i64.wrap ((k : Int) - (m.funcs.length : Int)) = ((k - m.funcs.length : Nat) : Int) from by rw [qq (by omega)]; omega]
  refine ⟨⟨by omega, by omega⟩, ?_⟩
  simp only [Int.toNat_natCast]
  rw [getD_some hkg]
  obtain ⟨x, hx⟩ : ∃ x, m.globs[k - m.funcs.length].name = x := ⟨_, rfl⟩
  simp only [hx]
  have hxe : (qn m)[k] = x := by rw [← hx]; simp [qn, q3c, q59, List.getElem_append_right, hf]
  refine q4 (ds := [q2k l, .str x]) _ (by simp) (by simp) (fun _ => by simp) (fun _ => qb0 l x) ?_
  simp
  have hol := qpp l m k
  have hsucc := z04 (l := l) hkn
  rw [hxe] at hsucc
  obtain ⟨o, ho⟩ : ∃ o, flO l m k = o := ⟨_, rfl⟩
  rw [ho] at hsucc hol
  simp only [ho]
  refine q4 (ds := [q2k o, .str x]) _ (by simp) (by simp) (fun _ => by simp) (fun _ => qb0 o x) ?_
  simp
  refine ⟨fun h1 h2 => ?_, fun h => ?_⟩
  ·rw [if_pos ⟨h1, h2⟩] at hsucc
   refine ⟨by omega, k + 1, by omega, by omega, srcs [(0, .id 0), (1, .id 44)], ?_⟩
   simp [SLeK, hsucc]
   exact ⟨q6 (q5 (by omega)), fun i hi => q1t hi⟩
  ·rw [if_neg (by rintro ⟨h1, h2⟩; rw [h h1] at h2; cases h2)] at hsucc
   refine ⟨k + 1, by omega, by omega, srcs [(0, .id 0), (1, .id 1)], ?_⟩
   simp [SLeK, hsucc]
   exact q6 (q5 (by omega))
 ·have e : flO l m k = q90 ((qn m).filter fun s => hasN (qk5 m R) s) := by
   unfold flO
   rw [List.take_of_length_le (by omega)]
   congr 1
   exact List.filter_congr fun s _ => hp s
  rw [e]
  exact DLe.refl _
set_option maxRecDepth 10000 in
theorem qw0 (m : Module) (hl : m.funcs.length + m.globs.length ≤ 1048576) : APure Tryz.prog 47 [.agg (q8 m)] (q2k (q3t m)) := by
 refine qb _ _ Tryz.func47 (by kernel_rfl) qdw qe9 rfl rfl (fun _ => ?_)
 simp [q7f, q7s]
 refine qe (κ := Nat) (fun k => k ≤ m.funcs.length) (fun k => m.funcs.length - k) (fun k => [(sl 4, .int k), (sl 3, .own 0 (rfT m k).length)]) (fun k => [(0, .row 9 1 (rfT m k).length fun i => strC ((rfT m k)[i]?.getD ⟨#[]⟩))]) 1 0 (srcs [(0, .nil)]) (by simp) (by simp) ?_
 rintro k hk
 simp
 refine ⟨fun hlt => ⟨hlt, ?_⟩, fun hge => ?_⟩
 ·have hlm := qqx m k
  have hs := z0x hlt
  rw [getD_some hlt]
  refine ⟨fun h => ⟨h, hlt⟩, fun h => ?_, fun h1 h2 => ?_⟩
  ·have hr : qdo m.funcs[k] = true := by simpa [qdo] using h
   rw [if_pos hr] at hs
   refine ⟨hlt, by omega, k + 1, by omega, by omega, srcs [(0, .id 30)], ?_⟩
   simp [SLeK, hs]
   exact ⟨q6 (q5 (by omega)), fun i hi => q1t hi⟩
  ·have hr : ¬ qdo m.funcs[k] = true := by simp [qdo, h1, h2]
   rw [if_neg hr] at hs
   refine ⟨k + 1, by omega, by omega, srcs [(0, .id 0)], ?_⟩
   simp [SLeK, hs]
   exact q6 (q5 (by omega))
 rw [z76 hge]
 refine qe (κ := Nat) (fun k => k ≤ m.globs.length) (fun k => m.globs.length - k) (fun k => [(sl 5, .int k), (sl 3, .own 0 (rgT m k).length)]) (fun k => [(0, .row 9 1 (rgT m k).length fun i => strC ((rgT m k)[i]?.getD ⟨#[]⟩))]) 1 0 (srcs [(0, .id 0)]) (by simp) (by simp) ?_
 rintro j hj
 simp
 refine ⟨fun hlt => ⟨hlt, ?_⟩, fun hge => ?_⟩
 ·have hlm := qj6 m j
  have hs := z0y hlt
  rw [getD_some hlt]
  refine ⟨fun h => ?_, fun h1 => ?_⟩
  ·have hr : qi7 m.globs[j] = true := by simp [qi7, h]
   rw [if_pos hr] at hs
   refine ⟨hlt, by omega, j + 1, by omega, by omega, srcs [(0, .id 21)], ?_⟩
   simp [SLeK, hs]
   exact ⟨q6 (q5 (by omega)), fun i hi => q1t hi⟩
  ·have hr : ¬ qi7 m.globs[j] = true := by simp [qi7, h1]
   rw [if_neg hr] at hs
   refine ⟨j + 1, by omega, by omega, srcs [(0, .id 0)], ?_⟩
   simp [SLeK, hs]
   exact q6 (q5 (by omega))
 ·rw [qyl hge]
  exact DLe.refl _
set_option maxRecDepth 10000 in
theorem qxg (m : Module) (hm : Small m) (hok : ModOk m) : APure Tryz.prog 28 [.agg (q8 m)] (.agg (q8 (qax m))) := by
 refine qb _ _ Tryz.func28 (by kernel_rfl) qfn qg5 rfl rfl (fun _ => ?_)
 have hl := hm.len
 simp [q8j, q99]
 refine q4 (ds := [.agg (q8 m)]) _ (by simp) (by simp) (fun _ => rfl) (fun _ => qw0 m hl) ?_
 simp
 refine q4 (ds := [.agg (q8 m), q2k (q3t m)]) _ (by simp) (by simp) (fun _ => rfl) (fun _ => qum m hm hok (q3t m) (qw2 hok.names) (fun _ h => qw1 h)) ?_
 simp
 obtain ⟨R, hR⟩ : ∃ R, q90 ((qn m).filter fun s => hasN (qk5 m (q3t m)) s) = R := ⟨_, rfl⟩
 rw [hR]
 refine qe (κ := Nat) (fun k => k ≤ m.funcs.length) (fun k => m.funcs.length - k) (fun k => [(sl 5, .int k), (sl 4, .ptr 1 0), (sl 2, .ptr 2 0)])
  (fun k => [(0, .row 61 4 (flT (fun f => hasN R f.name) m.funcs k).length fun i => qm ((flT (fun f => hasN R f.name) m.funcs k)[i]?.getD default)), (1, .box [.own 0 (flT (fun f => hasN R f.name) m.funcs k).length, .d (.lit (.slice none 0 0))]), (2, .box [.d (.lit (.slice none 0 0)), .d (.lit (.slice none 0 0))])]) 3 0 (srcs [(0, .nil), (1, .id 8), (2, .id 1)]) (by simp) ?_ ?_
 ·simp
 rintro k hk
 simp
 refine ⟨fun hlt => ⟨hlt, ?_⟩, fun hge => ?_⟩
 ·have hlm := qdc (fun f : Func => hasN R f.name) m.funcs k
  have hs := ql0 (fun f : Func => hasN R f.name) hlt
  rw [getD_some hlt]
  refine q4 (ds := [q2k R, .str m.funcs[k].name]) _ (by simp) (by simp) (fun _ => rfl) (fun _ => qb0 R m.funcs[k].name) ?_
  simp
  refine ⟨fun h => ?_, fun h => ?_⟩
  ·rw [if_pos h] at hs
   refine ⟨hlt, by omega, k + 1, by omega, by omega, srcs [(0, .id 26), (1, .id 1), (2, .id 2)], ?_⟩
   simp [SLeK, hs]
   exact ⟨q6 (q5 (by omega)), fun i hi => by rw [getD_some hlt]; exact qli hi⟩
  ·rw [if_neg (by simp [h])] at hs
   refine ⟨k + 1, by omega, by omega, srcs [(0, .id 0), (1, .id 1), (2, .id 2)], ?_⟩
   simp [SLeK, hs]
   exact q6 (q5 (by omega))
 rw [qry _ hge]
 refine qe (κ := Nat) (fun k => k ≤ m.globs.length) (fun k => m.globs.length - k) (fun k => [(sl 7, .int k), (sl 4, .ptr 1 0), (sl 2, .ptr 2 0)])
  (fun k => [(0, .row 61 4 (m.funcs.filter fun f => hasN R f.name).length fun i => qm ((m.funcs.filter fun f => hasN R f.name)[i]?.getD default)), (1, .box [.own 0 (m.funcs.filter fun f => hasN R f.name).length, .own 3 (flT (fun g => hasN R g.name) m.globs k).length]), (2, .box [.d (.lit (.slice none 0 0)), .d (.lit (.slice none 0 0))]),
   (3, .row 64 4 (flT (fun g => hasN R g.name) m.globs k).length fun i => q67 ((flT (fun g => hasN R g.name) m.globs k)[i]?.getD default))]) 4 0 (srcs [(0, .id 0), (1, .id 1), (2, .id 2), (3, .nil)]) (by simp) ?_ ?_
 ·simp
 rintro j hj
 simp
 refine ⟨fun hlt => ⟨hlt, ?_⟩, fun hge => ?_⟩
 ·have hlm := qdc (fun g : Glob => hasN R g.name) m.globs j
  have hs := ql0 (fun g : Glob => hasN R g.name) hlt
  rw [getD_some hlt]
  refine q4 (ds := [q2k R, .str m.globs[j].name]) _ (by simp) (by simp) (fun _ => rfl) (fun _ => qb0 R m.globs[j].name) ?_
  simp
  refine ⟨fun h => ?_, fun h => ?_⟩
  ·rw [if_pos h] at hs
   refine ⟨hlt, by omega, j + 1, by omega, by omega, srcs [(0, .id 0), (1, .id 1), (2, .id 2), (3, .id 27)], ?_⟩
   simp [SLeK, hs]
   exact ⟨q6 (q5 (by omega)), fun i hi => by rw [getD_some hlt]; exact qlj hi⟩
  ·rw [if_neg (by simp [h])] at hs
   refine ⟨j + 1, by omega, by omega, srcs [(0, .id 0), (1, .id 1), (2, .id 2), (3, .id 3)], ?_⟩
   simp [SLeK, hs]
   exact q6 (q5 (by omega))
 ·rw [qry _ hge]
  have hp : ∀ s, s ∈ qn m → hasN R s = hasN (qun m (q3t m)) s := fun s hs => by
   rw [← hR, Bool.eq_iff_iff, q2j, q2j, qn3, qun, List.mem_filter, List.mem_filter, qn3]
  have e : qax m = ⟨m.funcs.filter fun f => hasN R f.name, m.globs.filter fun g => hasN R g.name⟩ := by
   unfold qax
   congr 1
   ·exact List.filter_congr fun f hf => (hp _ (qhb hf)).symm
   ·exact List.filter_congr fun g hg => (hp _ (qcc hg)).symm
  rw [e]
  exact DLe.refl _
set_option maxRecDepth 10000 in
theorem qqf (m : Module) (hok : ModOk m) (hk : KOk' m) (tag budget : Int) : APure Tryz.prog 12 [.agg (q8 m), .int tag, .int budget] (oneR m tag budget) := by
  refine qb _ _ Tryz.func12 (by kernel_rfl) qif qin rfl rfl (fun _ => ?_)
  have hno : ∀ (h : ¬ tag = 1 ∧ ¬ tag = 2 ∧ ¬ tag = 3 ∧ ¬ tag = 4), DLe (.tup [.agg [.lit (.slice none 0 0), .lit (.slice none 0 0)], .lit (.int .i64 1)]) (oneR m tag budget) := fun h => by
    have hq : qd0 tag = false := by rw [← Bool.not_eq_true, qih]; omega
    unfold oneR
    rw [if_neg (by rw [hq]; simp)]
    refine DLe.tup rfl fun i h1 h2 => ?_
    match i, h1 with
    | 0, _ => exact DLe.agg rfl fun i h1 h2 => (match i, h1 with
      | 0, _ => q88
      | 1, _ => q4r)
    | 1, _ => exact DLe.refl _
  by_cases h1 : tag = 1
  · subst h1
    simp [q1u, q1w]
    refine q4 (ds := [.agg (q8 m)]) _ (by simp) (by simp) (fun _ => by simp; rfl) (fun _ => qse m hok hk) ?_
    simp
    exact DLe.refl _
  by_cases h2 : tag = 2
  · subst h2
    simp [q1u, q1w]
    refine q4 (ds := [.agg (q8 m)]) _ (by simp) (by simp) (fun _ => by simp; rfl) (fun _ => qsf m hok) ?_
    simp
    exact DLe.refl _
  by_cases h3 : tag = 3
  · subst h3
    simp [q1u, q1w]
    refine q4 (ds := [.agg (q8 m)]) _ (by simp) (by simp) (fun _ => by simp; rfl) (fun _ => qxg m (qdk hok) hok) ?_
    simp
    exact DLe.refl _
  by_cases h4 : tag = 4
  · subst h4
    simp [q1u, q1w]
    refine q4 (ds := [.agg (q8 m), .int budget]) _ (by simp) (by simp) (fun _ => by simp; rfl) (fun _ => qnh m (qdk hok).args budget) ?_
    simp
    exact DLe.refl _
  simp [q1u, q1w, h1, h2, h3, h4]
  exact hno ⟨h1, h2, h3, h4⟩
theorem bad15 {m : Module} {tags : List Int} {budget : Int} (h : qbr m tags = 1) : DLe (.tup [.agg [.lit (.slice none 0 0), .lit (.slice none 0 0)], .lit (.int .i64 1)]) (q9h m tags budget) := by
  unfold q9h
  rw [if_neg (by omega), h]
  refine DLe.tup rfl fun i h1 h2 => ?_
  match i, h1 with
  | 0, _ => exact DLe.agg rfl fun i h1 h2 => (match i, h1 with
    | 0, _ => q88
    | 1, _ => q4r)
  | 1, _ => exact DLe.refl _
set_option maxRecDepth 10000 in
theorem z32 (m : Module) (hm : qoy m) (hk : KOk' m) (tags : List Int) (ht : tags.length ≤ 1000) (budget : Int) : APure Tryz.prog 10 [.agg (q8 m), ql tags, .int budget] (q9h m tags budget) := by
  refine qb _ _ Tryz.func10 (by kernel_rfl) qig qio rfl rfl (fun _ => ?_)
  simp [q9s, q9y]
  refine ⟨fun hl => bad15 ?_, fun hl => ?_⟩
  · unfold qbr
    rw [if_neg (by omega)]
  refine qe (κ := Nat) (fun k => k ≤ tags.length ∧ ∀ i (h : i < tags.length), i < k → qd0 tags[i] = true) (fun k => tags.length - k) (fun k => [(sl 8, .int k)]) (fun _ => [(0, .box [.d (q24 m.funcs), .d (q2u m.globs)]), (1, .box [.d (.lit (.slice none 0 0)), .d (.lit (.slice none 0 0))])]) 4 0 (srcs [(0, .id 0), (1, .id 1)]) (by simp) (by simp) ?_
  rintro k ⟨hk1, hb⟩
  simp
  refine ⟨fun hlt => ⟨hlt, ?_⟩, fun hge => ?_⟩
  · rw [getD_some hlt]
    refine ⟨fun h => ⟨h, hlt⟩, fun h => bad15 ?_, fun h1 h2 => ⟨k + 1, ⟨by omega, fun i hi hik => ?_⟩, by omega, srcs [(0, .id 0), (1, .id 1)], ?_⟩⟩
    · unfold qbr
      rw [if_neg]
      rintro ⟨_, h2⟩
      have := List.all_eq_true.1 h2 _ (List.getElem_mem hlt)
      rw [qih] at this
      omega
    · rcases Nat.lt_or_ge i k with h | h
      · exact hb i hi h
      · obtain rfl : i = k := by omega
        rw [qih]
        omega
    · simp [SLeK]
      exact q6 (q5 (by omega))
  have hall : tags.all qd0 = true := (qba fun i hi => hb i hi (by omega)).2
  have hp : qbr m tags = q65 m := by unfold qbr; rw [if_pos ⟨by omega, hall⟩]
  refine q4 (ds := [.agg (q8 m)]) _ (by simp) (by simp) (fun _ => by simp; rfl) (fun _ => z8d m hm) ?_
  simp
  refine ⟨fun hw => ?_, fun hw => ?_⟩
  · rw [qw9 (by rw [hp]; exact hw), hp]
    refine DLe.tup rfl fun i h1 h2 => ?_
    match i, h1 with
    | 0, _ => exact DLe.agg rfl fun i h1 h2 => (match i, h1 with
      | 0, _ => q88
      | 1, _ => q4r)
    | 1, _ => exact DLe.refl _
  have hok := (qgf.1 hw).1
  rw [qqy (by rw [hp]; exact hw)]
  refine qe (κ := Nat) (fun k => k ≤ tags.length) (fun k => tags.length - k) (fun k => [(sl 10, .int k)]) (fun k => [(0, .box [.d (q24 (runP m (tags.take k) budget).funcs), .d (q2u (runP m (tags.take k) budget).globs)]), (1, .box [.d (.lit (.slice none 0 0)), .d (.lit (.slice none 0 0))])]) 4 0 (srcs [(0, .id 0), (1, .id 1)]) (by simp) (by simp [runP]) ?_
  rintro j hj
  simp
  obtain ⟨M, hM⟩ : ∃ M, runP m (tags.take j) budget = M := ⟨_, rfl⟩
  have hokM : ModOk M := hM ▸ qyn (tags.take j) hok
  have hkM : KOk' M := hM ▸ qy4 (tags.take j) hok hk
  simp only [hM]
  refine ⟨fun hlt => ⟨hlt, ?_⟩, fun hge2 => ?_⟩
  · rw [getD_some hlt]
    have hnext := qw8 (m := m) (budget := budget) hlt
    rw [hM] at hnext
    have hq : qd0 tags[j] = true := List.all_eq_true.1 hall _ (List.getElem_mem hlt)
    have e : oneR M tags[j] budget = .tup [.agg (q8 (oneP M tags[j] budget)), .int 0] := by unfold oneR; rw [if_pos hq]
    refine q4 (ds := [.agg (q8 M), .int tags[j], .int budget]) _ (by simp) (by simp) (fun _ => by simp; exact ⟨rfl, rfl⟩) (fun _ => qqf M hokM hkM tags[j] budget) ?_
    rw [e]
    simp
    refine ⟨j + 1, by omega, by omega, srcs [(0, .id 0), (1, .id 1)], ?_⟩
    simp [SLeK, hnext]
    exact q6 (q5 (by omega))
  · rw [List.take_of_length_le hge2] at hM
    rw [hM]
    exact DLe.refl _
instance : BEq Block := ⟨q9i⟩
instance : LawfulBEq Block where
 eq_of_beq h := (q5l _ _).1 h
 rfl := (q5l _ _).2 rfl
def qi8 (x y : Func) : Bool := decide (x.name = y.name) && decide (x.bind = y.bind) && decide (x.params = y.params) && (x.blocks == y.blocks)
theorem qkb (x y : Func) : qi8 x y = true ↔ x = y := by
 unfold qi8
 simp only [Bool.and_eq_true, decide_eq_true_eq, beq_iff_eq]
 constructor
 ·rintro ⟨⟨⟨h1, h2⟩, h3⟩, h4⟩
  obtain ⟨n, b, p, l⟩ := x
  obtain ⟨n', b', p', l'⟩ := y
  simp only at h1 h2 h3 h4
  subst h1 h2 h3 h4
  rfl
 ·rintro rfl; simp
instance : BEq Func := ⟨qi8⟩
instance : LawfulBEq Func where
 eq_of_beq h := (qkb _ _).1 h
 rfl := (qkb _ _).2 rfl
def qsp (x y : Glob) : Bool := decide (x.name = y.name) && (decide (x.bind = y.bind) && ((x.here == y.here) && (decide ((x.init : Int) = (y.init : Int)) && true)))
theorem qkc (x y : Glob) : qsp x y = true ↔ x = y := by
 unfold qsp
 simp only [Bool.and_eq_true, decide_eq_true_eq, beq_iff_eq]
 constructor
 ·rintro ⟨h1, h2, h3, h4, _⟩
  obtain ⟨n, b, p, l⟩ := x
  obtain ⟨n', b', p', l'⟩ := y
  simp only at h1 h2 h3 h4
  have h4' : l = l' := by omega
  subst h1 h2 h3 h4'
  rfl
 ·rintro rfl; simp
instance : BEq Glob := ⟨qsp⟩
instance : LawfulBEq Glob where
 eq_of_beq h := (qkc _ _).1 h
 rfl := (qkc _ _).2 rfl
theorem qxb {α : Type} [BEq α] [LawfulBEq α] {xs ys : List α} (hl : xs.length = ys.length) (h : ∀ k (h : k < xs.length) (h' : k < ys.length), (xs[k] == ys[k]) = true) : (xs == ys) = true := by
 rw [beq_iff_eq]
 exact List.ext_getElem hl fun k h1 h2 => eq_of_beq (h k h1 h2)
theorem globs_eq (x y : Glob) : qbk [.string, .int .i64, .bool, .int .u64] (q67 x) (q67 y) = some (x == y) := rfl
def qsr (x y : Module) : Bool := (x.funcs == y.funcs) && (x.globs == y.globs)
theorem q9j (x y : Module) : qsr x y = true ↔ x = y := by
 unfold qsr
 simp only [Bool.and_eq_true, beq_iff_eq]
 constructor
 ·rintro ⟨h1, h2⟩
  cases x; cases y
  simp only at h1 h2
  rw [h1, h2]
 ·rintro rfl; exact ⟨rfl, rfl⟩
set_option maxRecDepth 10000 in
theorem qkj (x y : Func) : APure Tryz.prog 30 [.agg (qm x), .agg (qm y)] (.bool (x == y)) := by
 refine qb _ _ Tryz.func30 (by kernel_rfl) qb8 qbg rfl rfl (fun hx => ?_)
 have hl := qhm hx 3 rfl
 clear hx
 simp [q51, q5i]
 refine ⟨fun h => qc ?_, fun e1 e2 e3 e4 => ?_⟩
 ·symm
  rw [beq_eq_false_iff_ne]
  rintro rfl
  simp at h
 have hlen : x.blocks.length = y.blocks.length := by omega
 refine qe (κ := Nat) (fun k => k ≤ x.blocks.length ∧ ∀ j (h : j < x.blocks.length) (h' : j < y.blocks.length), j < k → (x.blocks[j] == y.blocks[j]) = true) (fun k => x.blocks.length - k) (fun k => [(sl 5, .int k)]) (fun _ => []) 0 0 (srcs []) (by simp) (by simp) ?_
 rintro k ⟨hk, hb⟩
 simp
 refine ⟨fun hlt => ⟨hlt, by omega, ?_⟩, fun hge => qc ?_⟩
 ·have hlt' : k < y.blocks.length := by omega
  rw [getD_some hlt, getD_some hlt']
  refine q4 (ds := [.agg (qd x.blocks[k]), .agg (qd y.blocks[k])]) _ (by simp) (by simp) (fun _ => rfl) (fun _ => qoj x.blocks[k] y.blocks[k]) ?_
  simp
  refine ⟨fun h => qc ?_, fun h => ⟨k + 1, ⟨by omega, fun j hj hj' hjk => ?_⟩, by omega, srcs [], ?_⟩⟩
  ·symm
   rw [beq_eq_false_iff_ne]
   rintro rfl
   have := (q5l x.blocks[k] x.blocks[k]).2 rfl
   rw [this] at h
   cases h
  ·rcases Nat.lt_or_ge j k with h1 | h1
   ·simpa using hb j hj hj' h1
   ·obtain rfl : j = k := by omega
    simpa using (q5l _ _).1 h
  ·simp [SLeK]
   exact q6 (q5 (by omega))
 ·symm
  show qi8 x y = true
  unfold qi8
  rw [qxb hlen fun j h h' => hb j h h' (by omega)]
  simp [e1, e2, e3]
set_option maxRecDepth 10000 in
theorem qk8 (x y : Module) : APure Tryz.prog 13 [.agg (q8 x), .agg (q8 y)] (.bool (qsr x y)) := by
 refine qb _ _ Tryz.func13 (by kernel_rfl) qfj qg1 rfl rfl (fun hx => ?_)
 have hl0 := qhm hx 0 rfl
 have hl1 := qhm hx 1 rfl
 clear hx
 simp [q8f, q95]
 refine ⟨fun h => qc ?_, fun e1 e2 => ?_⟩
 ·symm
  rw [← Bool.not_eq_true, q9j]
  rintro rfl
  simp at h
 have hlen0 : x.funcs.length = y.funcs.length := by omega
 have hlen1 : x.globs.length = y.globs.length := by omega
 refine qe (κ := Nat) (fun k => k ≤ x.funcs.length ∧ ∀ j (h : j < x.funcs.length) (h' : j < y.funcs.length), j < k → (x.funcs[j] == y.funcs[j]) = true) (fun k => x.funcs.length - k) (fun k => [(sl 5, .int k)]) (fun _ => []) 0 0 (srcs []) (by simp) (by simp) ?_
 rintro k ⟨hk, hb⟩
 simp
 refine ⟨fun hlt => ⟨hlt, by omega, ?_⟩, fun hge => ?_⟩
 ·have hlt' : k < y.funcs.length := by omega
  rw [getD_some hlt, getD_some hlt']
  refine q4 (ds := [.agg (qm x.funcs[k]), .agg (qm y.funcs[k])]) _ (by simp) (by simp) (fun _ => rfl) (fun _ => qkj x.funcs[k] y.funcs[k]) ?_
  simp
  refine ⟨fun h => qc ?_, fun h => ⟨k + 1, ⟨by omega, fun j hj hj' hjk => ?_⟩, by omega, srcs [], ?_⟩⟩
  ·symm
   rw [← Bool.not_eq_true, q9j]
   rintro rfl
   simp at h
  ·rcases Nat.lt_or_ge j k with h1 | h1
   ·simpa using hb j hj hj' h1
   ·obtain rfl : j = k := by omega
    simp [h]
  ·simp [SLeK]
   exact q6 (q5 (by omega))
 have hff := qxb hlen0 fun j h h' => hb j h h' (by omega)
 refine qe (κ := Nat) (fun k => k ≤ x.globs.length ∧ ∀ j (h : j < x.globs.length) (h' : j < y.globs.length), j < k → (x.globs[j] == y.globs[j]) = true) (fun k => x.globs.length - k) (fun k => [(sl 7, .int k)]) (fun _ => []) 0 0 (srcs []) (by simp) (by simp) ?_
 rintro k' ⟨hk', hb'⟩
 simp
 refine ⟨fun hlt => ?_, fun hge' => qc ?_⟩
 ·have hlt' : k' < y.globs.length := by omega
  rw [getD_some hlt, getD_some hlt']
  simp [globs_eq]
  refine ⟨hlt, hlt', fun h => qc ?_, fun h => ⟨k' + 1, ⟨hlt, fun j hj hj' hjk => ?_⟩, by omega, srcs [], ?_⟩⟩
  ·symm
   rw [← Bool.not_eq_true, q9j]
   rintro rfl
   simp at h
  ·rcases Nat.lt_or_ge j k' with h1 | h1
   ·simpa using hb' j hj hj' h1
   ·obtain rfl : j = k' := by omega
    simp [h]
  ·simp [SLeK]
   exact q6 (q5 (by omega))
 ·symm
  unfold qsr
  rw [hff, qxb hlen1 fun j h h' => hb' j h h' (by omega)]
  rfl
set_option maxRecDepth 10000 in
theorem qys (m : Module) (hok : ModOk m) : APure Tryz.prog 15 [.agg (q8 m)] (.int (sizeM m)) := by
 refine qb _ _ Tryz.func15 (by kernel_rfl) qfv qgd rfl rfl (fun _ => ?_)
 simp [q8q, q9g]
 have hnf := hok.nf
 refine qe (κ := Nat) (fun k => k ≤ m.funcs.length) (fun k => m.funcs.length - k) (fun k => [(sl 3, .int (q6x (m.funcs.take k))), (sl 4, .int k)]) (fun _ => []) 0 0 (srcs []) (by simp) (by simp [q6x]) ?_
 intro k hk
 simp
 refine ⟨fun hlt => ?_, fun hge => ?_⟩
 rotate_left
 ·rw [List.take_of_length_le hge]
  exact DLe.refl _
 obtain ⟨f, hf⟩ : ∃ f, m.funcs[k] = f := ⟨_, rfl⟩
 have hfo : qr f = true := hok.funcs f (by rw [← hf]; exact List.getElem_mem hlt)
 have hbl := q1v hfo
 have hs1 := qnn hok k (by omega)
 refine qe (κ := Nat) (fun j => j ≤ f.blocks.length) (fun j => f.blocks.length - j) (fun j => [(sl 3, .int ((q6x (m.funcs.take k) + qcr (f.blocks.take j) : Nat))), (sl 5, .int j)]) (fun _ => []) 0 0 (srcs []) (by simp) (by simp [qcr]) ?_
 intro j hj
 simp
 simp only [getD_some hlt, hf]
 have hs2 := qla hfo j hj
 refine ⟨hlt, fun hjl => ⟨hlt, ?_⟩, fun hge => ?_⟩
 ·rw [getD_some hjl]
  obtain ⟨_, _, h32, _⟩ := qh.1 (q31 hfo hjl)
  refine ⟨hjl, j + 1, by omega, by omega, srcs [], ?_⟩
  simp [SLeK]
  rw [qj8 hjl]
  refine ⟨q6 (q5 (by omega)), q6 ?_⟩
  rw [show ((q6x (m.funcs.take k) : Int) + (qcr (f.blocks.take j) : Int) + 1) = ((q6x (m.funcs.take k) + qcr (f.blocks.take j) + 1 : Nat) : Int) by omega, qld (by omega)]
  rw [show (((q6x (m.funcs.take k) + qcr (f.blocks.take j) + 1 : Nat) : Int) + (f.blocks[j].ins.length : Int)) = ((q6x (m.funcs.take k) + qcr (f.blocks.take j) + (f.blocks[j].ins.length + 1) : Nat) : Int) by omega, qld (by omega)]
  omega
 ·rw [List.take_of_length_le hge]
  refine ⟨k + 1, by omega, by omega, srcs [], ?_⟩
  simp [SLeK]
  rw [qfe hlt, hf]
  exact ⟨q6 (q5 (by omega)), q6 (by omega)⟩
set_option maxRecDepth 10000 in
theorem qoe (m : Module) (hm : qoy m) (hk : KOk' m) (tags : List Int) (budget tag : Int) : APure Tryz.prog 3 [.agg (q8 m ++ [ql tags, .int budget, .int tag])] (.bool true) := by
 refine qb _ _ Tryz.func3 (by kernel_rfl) qan qar rfl rfl (fun _ => ?_)
 simp [q4o, q4t]
 refine q4 (ds := []) _ (by simp) (by simp) (fun _ => rfl) (fun _ => qwc) ?_
 simp
 refine q4 (ds := [.agg (q8 m)]) _ (by simp) (by simp) (fun _ => by simp; rfl) (fun _ => q84 m hm) ?_
 simp
 intro hz hl
 have hok := q34.1 hz
 obtain ⟨M1, e1⟩ : ∃ M1, q9h m tags budget = .tup [.agg (q8 M1), .int (qbr m tags)] := by
  by_cases h : qbr m tags = 0
  ·exact ⟨_, by rw [qqy h, h]⟩
  ·exact ⟨_, qw9 h⟩
 obtain ⟨M2, v2, e2⟩ : ∃ M2 v2, oneR m tag budget = .tup [.agg (q8 M2), .int v2] := by
  unfold oneR
  split
  ·exact ⟨_, _, rfl⟩
  ·exact ⟨_, _, rfl⟩
 have hra := qn4 m hm hk tags (by omega) budget
 have hrb := z32 m hm hk tags (by omega) budget
 have hoa := qvm m hok hk (qdk hok) tag budget
 have hob := qqf m hok hk tag budget
 rw [e1] at hra hrb
 rw [e2] at hoa hob
 refine q4 (ds := [.agg (q8 m), ql tags, .int budget]) _ (by simp) (by simp) (fun _ => by simp; rfl) (fun _ => hra) ?_
 simp
 refine q4 (ds := [.agg (q8 m), ql tags, .int budget]) _ (by simp) (by simp) (fun _ => by simp; rfl) (fun _ => hrb) ?_
 simp
 refine q4 (ds := [.agg (q8 m), .int tag, .int budget]) _ (by simp) (by simp) (fun _ => by simp; rfl) (fun _ => hoa) ?_
 simp
 refine q4 (ds := [.agg (q8 m), .int tag, .int budget]) _ (by simp) (by simp) (fun _ => by simp; rfl) (fun _ => hob) ?_
 simp
 refine q4 (ds := [.agg (q8 M1), .agg (q8 M1)]) _ (by simp) (by simp) (fun _ => by simp; rfl) (fun _ => qk8 M1 M1) ?_
 rw [(q9j M1 M1).2 rfl]
 simp
 refine q4 (ds := [.agg (q8 M2), .agg (q8 M2)]) _ (by simp) (by simp) (fun _ => by simp; rfl) (fun _ => qk8 M2 M2) ?_
 rw [(q9j M2 M2).2 rfl]
 simp
 refine q4 (ds := [.agg (q8 m)]) _ (by simp) (by simp) (fun _ => by simp; rfl) (fun _ => qqj m hok) ?_
 simp
 refine q4 (ds := [.agg (q8 m)]) _ (by simp) (by simp) (fun _ => by simp; rfl) (fun _ => qys m hok) ?_
 simp
end Go.Proofs.YtgadlpdbkohlbaaGreat
/- What an argument's memory reads as, as plain data with bounds on its bulk: numbers, strings, slices, structs. -/
namespace Go.Proofs.YtgadlpdbkohlbaaGreat
open Go.RowKit
section
variable {H : Type} (enc : TypeId × Value → H) (P : Program) (W : World)
def qzl : Nat → Nat → Prop := fun _ _ => False
def z4c (d : DataW H) (t : TypeId) : Prop := ∀ n, n ∈ d.weights P t → n ≤ reachBytes
def RdT {α : Type} (t : TypeId) (n : Nat) (C : α → List DV) (B : α → Prop) (S : α → Nat) : Prop :=
 P.cellsOf t = n ∧ ∀ fuel cs x, DataW.trod enc P W 0 (fun _ => true) true fuel t cs = some x → z4c P x.1 t → ∃ a, DReps qzl W cs (C a) ∧ B a ∧ S a ≤ Rows.uptoBulk x.1
variable {enc P W}
theorem DReps.append {X : Nat → Nat → Prop} {w : World} {vs us : List Value} {xs ys : List DV} (h : DReps X w vs xs) (k : DReps X w us ys) : DReps X w (vs ++ us) (xs ++ ys) := by
  induction vs generalizing xs with
  | nil =>
    have : xs = [] := by have := h.1; simpa using this.symm
    subst this; simpa using k
  | cons v vs ih =>
    cases xs with
    | nil => exact absurd h.1 (by simp)
    | cons a l => exact DReps.cons (h.2 0 (by simp) (by simp)) (ih ⟨by simpa using h.1, fun i hi hi' => h.2 (i + 1) (by simpa using hi) (by simpa using hi')⟩)
theorem DReps.one {X : Nat → Nat → Prop} {w : World} {v : Value} {a : DV} (h : DRep X w v a) : DReps X w [v] [a] := DReps.cons h (DReps.nil _ _)
theorem RdT.map {α β : Type} {t : TypeId} {n : Nat} {C : α → List DV} {B : α → Prop} {C' : β → List DV} {B' : β → Prop} {S : α → Nat} {S' : β → Nat} (h : RdT enc P W t n C B S) (g : α → β) (hC : ∀ a, C a = C' (g a)) (hB : ∀ a, B a → B' (g a)) (hS : ∀ a, S' (g a) ≤ S a) : RdT enc P W t n C' B' S' := by
 refine ⟨h.1, fun fuel cs x hx hl => ?_⟩
 obtain ⟨a, h1, h2, h3⟩ := h.2 fuel cs x hx hl
 exact ⟨g a, hC a ▸ h1, hB a h2, Nat.le_trans (hS a) h3⟩
theorem z1s {n : Int} (h : (Lit.int .i64 n).wf = true) : -9223372036854775808 ≤ n ∧ n ≤ 9223372036854775807 := by
 have h1 : IntKind.i64.min = -9223372036854775808 := by decide
 have h2 : IntKind.i64.max = 9223372036854775807 := by decide
 simp [Lit.wf, h1, h2] at h
 exact h
theorem z1t {n : Int} (h : (Lit.int .u64 n).wf = true) : 0 ≤ n ∧ n < 18446744073709551616 := by
 have h1 : IntKind.u64.min = 0 := by decide
 have h2 : IntKind.u64.max = 18446744073709551615 := by decide
 simp [Lit.wf, h1, h2] at h
 omega
theorem rd_int {t : TypeId} (hc : P.cellsOf t = 1) (ht : P.underlying t = some (.int .i64)) : RdT enc P W t 1 (fun n : Int => [.int n]) (fun n => -9223372036854775808 ≤ n ∧ n ≤ 9223372036854775807) (fun _ => 1) := by
 refine ⟨hc, fun fuel cs x hx _ => ?_⟩
 obtain ⟨n, rfl, hx1, hw⟩ := DataW.trod_int ht hx
 refine ⟨n, DReps.one (.lit _), ?_, by rw [hx1]; simp [Rows.uptoBulk]⟩
 have := z1s hw
 omega
theorem rd_u64 {t : TypeId} (hc : P.cellsOf t = 1) (ht : P.underlying t = some (.int .u64)) : RdT enc P W t 1 (fun n : Nat => [.lit (.int .u64 n)]) (fun n => n < 18446744073709551616) (fun _ => 1) := by
 refine ⟨hc, fun fuel cs x hx _ => ?_⟩
 obtain ⟨n, rfl, hx1, hw⟩ := DataW.trod_int ht hx
 have := z1t hw
 obtain ⟨m, rfl⟩ := Int.eq_ofNat_of_zero_le this.1
 exact ⟨m, DReps.one (.lit _), by omega, by rw [hx1]; simp [Rows.uptoBulk]⟩
theorem rd_bool {t : TypeId} (hc : P.cellsOf t = 1) (ht : P.underlying t = some .bool) : RdT enc P W t 1 (fun b : Bool => [.bool b]) (fun _ => True) (fun _ => 1) := by
 refine ⟨hc, fun fuel cs x hx _ => ?_⟩
 obtain ⟨b, rfl, hx1⟩ := DataW.trod_bool ht hx
 exact ⟨b, DReps.one (.lit _), trivial, by rw [hx1]; simp [Rows.uptoBulk]⟩
theorem rd_string {t : TypeId} (hc : P.cellsOf t = 1) (ht : P.underlying t = some .string) : RdT enc P W t 1 (fun s : ByteArray => [.str s]) (fun s => s.size ≤ reachBytes) (fun s => s.size + 1) := by
 refine ⟨hc, fun fuel cs x hx hl => ?_⟩
 obtain ⟨s, rfl, rfl, _⟩ := DataW.trod_string ht hx
 refine ⟨s, DReps.one (.lit _), ?_, ?_⟩
 ·have := hl s.data.toList.length (by simp [DataW.weights])
  simpa using this
 ·simp only [Rows.uptoBulk]
  rw [Array.length_toList]
  exact Nat.le_refl _
theorem qex {e : TypeId} {d : DataW H} : ∀ {l : List (DataW H)}, d ∈ l → ∀ n, n ∈ d.weights P e → n ∈ DataW.weightsAll P e l
  | x :: l, h, n, hn => by
    simp only [DataW.weightsAll, List.mem_append]
    rcases List.mem_cons.1 h with rfl | h
    · exact .inl hn
    · exact .inr (qex h n hn)
theorem qzs {β : Type} (S : β → Nat) (f : Nat → β) (D : Nat → DataW H) : ∀ l : List Nat, (∀ i ∈ l, S (f i) ≤ Rows.uptoBulk (D i)) → ((l.map f).map S).sum ≤ Rows.uptoBulkAll (l.map D)
  | [], _ => Nat.zero_le _
  | i :: l, h => by
    have h1 := h i (by simp)
    have h2 := qzs S f D l fun j hj => h j (by simp [hj])
    simp only [List.map_cons, List.sum_cons, Rows.uptoBulkAll]
    omega
theorem rd_slice {α : Type} [Inhabited α] {t e : TypeId} {n b : Nat} {C : α → List DV} {B : α → Prop} (hc : P.cellsOf t = 1) (ht : P.underlying t = some (.slice e)) (hn : 0 < n) (hb : P.bytesOf e = b) {S : α → Nat} (hC : ∀ a, (C a).length = n) (h : RdT enc P W e n C B S) :
  RdT enc P W t 1 (fun xs : List α => [.sl n xs.length fun k => C (xs[k]?.getD default)]) (fun xs => (∀ x, x ∈ xs → B x) ∧ xs.length * b ≤ reachBytes) (fun xs => (xs.map S).sum + 1) := by
 refine ⟨hc, fun fuel cs x hx hl => ?_⟩
 obtain ⟨hce, h⟩ := h
 rcases Deep.open_slice ht hx with ⟨rfl, rfl⟩ | ⟨a, len, cap, m, n', D, Pl, rfl, hb0, hlc, hcm, hm, rfl, hel⟩
 ·exact ⟨[], DReps.one (.nil _ _), ⟨fun x hx => by simp at hx, by simp⟩, by simp [Rows.uptoBulk]⟩
 ·simp only [if_true] at hm
  subst hm
  rw [hce] at hel
  have hw : ((List.range len).map D).length + ((List.range (m - len)).map fun j => D (len + j)).length = m := by simp; omega
  have hlw : m * b ≤ reachBytes := by
   refine hl _ ?_
   simp only [DataW.weights, ht]
   rw [hw, hb]
   simp
  have hDl : ∀ i, i < len → z4c P (D i) e := by
   intro i hi k hk
   refine hl k ?_
   simp only [DataW.weights, ht]
   refine List.mem_cons_of_mem _ (List.mem_append_left _ (qex (d := D i) ?_ k hk))
   exact List.mem_map.2 ⟨i, List.mem_range.2 hi, rfl⟩
  have hall : ∀ i, i < len → ∃ p : α × List Value, W.cells? 0 (a.add (i * n)) n = some p.2 ∧ DReps qzl W p.2 (C p.1) ∧ B p.1 ∧ S p.1 ≤ Rows.uptoBulk (D i) := by
   intro i hi
   obtain ⟨cs', h1, h2⟩ := hel i (by omega)
   obtain ⟨y, h3, h4⟩ := h _ _ _ h2 (hDl i hi)
   exact ⟨(y, cs'), h1, h3, h4⟩
  haveI : Inhabited (α × List Value) := ⟨(default, [])⟩
  obtain ⟨f, hf⟩ := Deep.choose_lt hall
  have hxs : ((List.range len).map fun i => (f i).1).length = len := by simp
  have hget : ∀ i, i < len → ((List.range len).map fun i => (f i).1)[i]?.getD default = (f i).1 := fun i hi => by simp [hi]
  refine ⟨(List.range len).map fun i => (f i).1, DReps.one ?_, ⟨?_, ?_⟩, ?_⟩
  ·rw [hxs]
   by_cases hz : m = 0
   ·subst hz
    obtain rfl : len = 0 := by omega
    exact .emp _ _ _
   · -- the first cell is there
    obtain ⟨cs0, h0, _⟩ := hel 0 (by omega)
    obtain ⟨_, hl0, hc0⟩ := World.cells?_some h0
    have hc00 := hc0 0 hn
    rw [List.getElem?_eq_getElem (by omega)] at hc00
    have hspot : a.spot = none := by
     simp [Addr.add] at hc00
     unfold World.cell? at hc00
     split at hc00
     ·split at hc00
      ·cases hc00
      ·rename_i hs
       simpa using hs
     ·cases hc00
    have hblk : a.block < W.heap.size := by
     have := World.block_lt_of_cell? W _ hc00
     simpa [Addr.add] using this
    obtain ⟨ab, ao, aq⟩ := a
    simp only at hspot hblk
    subst hspot
    refine .sl ab ao m n len _ (fun i => (f i).2) hlc hcm hblk (fun _ _ _ _ h => h) (fun i hi => ?_) (fun i hi j v hv => ?_) (fun i hi j hj hj' => ?_)
    ·rw [hget i hi]
     exact ⟨hC _, (World.cells?_some (hf i hi).1).2.1⟩
    ·obtain ⟨_, hl1, hc1⟩ := World.cells?_some (hf i hi).1
     have hj : j < n := by have := (List.getElem?_eq_some_iff.1 hv).1; omega
     have := hc1 j hj
     rw [hv] at this
     rw [q4i, q4i, Nat.add_assoc] at this
     rw [Nat.add_assoc]
     exact this
    ·have h3 := (hf i hi).2.1
     have e := hget i hi
     simp only [e] at hj' ⊢
     exact h3.2 j hj hj'
  ·intro y hy
   obtain ⟨i, hi, rfl⟩ := List.mem_map.1 hy
   exact (hf i (List.mem_range.1 hi)).2.2.1
  ·rw [hxs]
   exact Nat.le_trans (Nat.mul_le_mul_right _ hlc) hlw
  ·have := qzs S (fun i => (f i).1) D (List.range len) fun i hi => (hf i (List.mem_range.1 hi)).2.2.2
   simp only [Rows.uptoBulk]
   omega
def RdF {α : Type} (enc : TypeId × Value → H) (P : Program) (W : World) (fs : List Field) (o n : Nat) (C : α → List DV) (B : α → Prop) (S : α → Nat) : Prop :=
 ∀ (fuel : Nat) (cs : List Value) (xs : List (DataW H × List MemPlace)), xs.length = fs.length → (∀ (i : Nat) (f : Field), fs[i]? = some f → DataW.trod enc P W 0 (fun _ => true) true fuel f.type ((cs.drop f.offset).take (P.cellsOf f.type)) = xs[i]?) →
  (∀ k, k ∈ DataW.weightsEach P (fs.map (·.type)) (xs.map (·.1)) → k ≤ reachBytes) → ∃ a, DReps qzl W ((cs.drop o).take n) (C a) ∧ B a ∧ S a ≤ Rows.uptoBulkAll (xs.map (·.1))
theorem rd_nil (o : Nat) : RdF enc P W [] o 0 (fun _ : Unit => []) (fun _ => True) (fun _ => 0) := by
 intro fuel cs xs hl _ _
 exact ⟨(), by simpa using DReps.nil _ _, trivial, Nat.zero_le _⟩
theorem rd_cons {α β : Type} {f : Field} {fs : List Field} {o n m : Nat} {C : α → List DV} {B : α → Prop} {C' : β → List DV} {B' : β → Prop} {S : α → Nat} {S' : β → Nat} (ho : f.offset = o) (h : RdT enc P W f.type n C B S) (k : RdF enc P W fs (o + n) m C' B' S') :
    RdF enc P W (f :: fs) o (n + m) (fun p : α × β => C p.1 ++ C' p.2) (fun p => B p.1 ∧ B' p.2) (fun p => S p.1 + S' p.2) := by
  intro fuel cs xs hl hx hw
  cases xs with
  | nil => simp at hl
  | cons x xs =>
    have h0 := hx 0 f rfl
    rw [ho, h.1] at h0
    obtain ⟨a, h1, h2, h5⟩ := h.2 fuel _ x h0 (fun j hj => hw j (by simp [DataW.weightsEach, hj]))
    obtain ⟨b, h3, h4, h6⟩ := k fuel cs xs (by simpa using hl) (fun i f' hf => hx (i + 1) f' hf) (fun j hj => hw j (by simp only [List.map_cons, DataW.weightsEach, List.mem_append]; exact .inr hj))
    refine ⟨(a, b), ?_, ⟨h2, h4⟩, by simp only [List.map_cons, Rows.uptoBulkAll]; omega⟩
    have e : (cs.drop o).take (n + m) = (cs.drop o).take n ++ (cs.drop (o + n)).take m := by
      rw [List.take_add, List.drop_drop]
    rw [e]
    exact h1.append h3
theorem rd_struct {α : Type} {t : TypeId} {fs : Array Field} {l : List Field} {n : Nat} {C : α → List DV} {B : α → Prop} (ht : P.underlying t = some (.struct fs)) (hl : fs.toList = l) {S : α → Nat} (hc : P.cellsOf t = n) (h : RdF enc P W l 0 n C B S) : RdT enc P W t n C B S := by
 refine ⟨hc, fun fuel cs x hx hw => ?_⟩
 obtain ⟨xs, k, rfl, rfl, hlen, hxl, hxs⟩ := DataW.trod_struct ht hx
 subst hl
 obtain ⟨a, h1, h2, h3⟩ := h k cs xs (by simpa using hxl) (fun i f hf => hxs i f (by simpa using hf)) (fun j hj => hw j (by simpa only [DataW.weights, ht] using hj))
 refine ⟨a, ?_, h2, Nat.le_trans h3 (by simp only [Rows.uptoBulk]; omega)⟩
 have : (cs.drop 0).take n = cs := by rw [List.drop_zero, List.take_of_length_le (by omega)]
 rw [this] at h1
 exact h1
end
end Go.Proofs.YtgadlpdbkohlbaaGreat
/- What arguments of this program's own types read as: instructions, blocks, functions, modules. -/
namespace Go.Proofs.YtgadlpdbkohlbaaGreat
open Go.RowKit
def z1d (i : Inst) : Nat := i.name.size + i.args.length + 6
def qsv (b : Block) : Nat := (b.ins.map z1d).sum + b.args.length + b.elses.length + 8
def z1b (f : Func) : Nat := f.name.size + (f.blocks.map qsv).sum + 4
def z1c (g : Glob) : Nat := g.name.size + 4
theorem sum_ones {α : Type} (l : List α) : (l.map fun _ => 1).sum = l.length := by
 induction l with
 | nil => rfl
 | cons x l ih => simp only [List.map_cons, List.sum_cons, List.length_cons, ih]; omega
def bInst (i : Inst) : Prop := i.args.length ≤ 17592186044416 ∧ i.k < 18446744073709551616
def z4v (b : Block) : Prop := (∀ i ∈ b.ins, bInst i) ∧ b.args.length ≤ 17592186044416 ∧ b.elses.length ≤ 17592186044416 ∧ b.ins.length ≤ 1954687338268
def bFunc (f : Func) : Prop := (∀ b ∈ f.blocks, z4v b) ∧ f.blocks.length ≤ 2000000000000
section
variable {H : Type} {enc : TypeId × Value → H} {W : World}
theorem rdInt : RdT enc Tryz.prog W 3 1 (fun n : Int => [.int n]) (fun n => -9223372036854775808 ≤ n ∧ n ≤ 9223372036854775807) (fun _ => 1) := rd_int (by kernel_rfl) Tryz.underlying3
theorem rdU64 : RdT enc Tryz.prog W 43 1 (fun n : Nat => [.lit (.int .u64 n)]) (fun n => n < 18446744073709551616) (fun _ => 1) := rd_u64 (by kernel_rfl) Tryz.underlying43
theorem rdBool : RdT enc Tryz.prog W 4 1 (fun b : Bool => [.bool b]) (fun _ => True) (fun _ => 1) := rd_bool (by kernel_rfl) Tryz.underlying4
theorem rdStr : RdT enc Tryz.prog W 9 1 (fun s : ByteArray => [.str s]) (fun s => s.size ≤ reachBytes) (fun s => s.size + 1) := rd_string (by kernel_rfl) Tryz.underlying9
theorem rdInts : RdT enc Tryz.prog W 26 1 (fun xs : List Int => [ql xs]) (fun xs => xs.length ≤ 17592186044416) (fun xs => xs.length + 1) :=
 (rd_slice (C := intC) (n := 1) (b := 8) (by kernel_rfl) Tryz.underlying26 (by decide) (by kernel_rfl) (fun _ => rfl) rdInt).map id (fun _ => rfl) (fun xs h => by
  have := h.2
  unfold reachBytes at this
  simp only [id]
  omega) (fun xs => by rw [sum_ones]; exact Nat.le_refl _)
set_option maxRecDepth 100000 in
theorem rdInst : RdT enc Tryz.prog W 53 6 qp bInst z1d := by
 have h := rd_struct (enc := enc) (W := W) (n := 6) Tryz.underlying53 rfl (by kernel_rfl) (rd_cons (n := 1) (m := 5) rfl rdInt (rd_cons (n := 1) (m := 4) rfl rdInt (rd_cons (n := 1) (m := 3) rfl rdInt (rd_cons (n := 1) (m := 2) rfl rdU64 (rd_cons (n := 1) (m := 1) rfl rdStr (rd_cons (n := 1) (m := 0) rfl rdInts (rd_nil 6)))))))
 exact h.map (fun p => ⟨p.1, p.2.1, p.2.2.1, p.2.2.2.1, p.2.2.2.2.1, p.2.2.2.2.2.1⟩) (fun _ => rfl) (fun p h => ⟨h.2.2.2.2.2.1, h.2.2.2.1⟩) (fun p => by simp only [z1d]; omega)
theorem rdIns : RdT enc Tryz.prog W 54 1 (fun xs : List Inst => [insD xs]) (fun xs => (∀ x ∈ xs, bInst x) ∧ xs.length ≤ 1954687338268) (fun xs => (xs.map z1d).sum + 1) :=
 (rd_slice (C := qp) (n := 6) (b := 72) (by kernel_rfl) Tryz.underlying54 (by decide) (by kernel_rfl) (fun _ => rfl) rdInst).map id (fun _ => rfl) (fun xs h => ⟨h.1, by
  have := h.2
  unfold reachBytes at this
  simp only [id]
  omega⟩) (fun _ => Nat.le_refl _)
set_option maxRecDepth 100000 in
theorem rdTerm : RdT enc Tryz.prog W 56 6 qd1 (fun b => b.args.length ≤ 17592186044416 ∧ b.elses.length ≤ 17592186044416) (fun b => b.args.length + b.elses.length + 6) := by
 have h := rd_struct (enc := enc) (W := W) (n := 6) Tryz.underlying56 rfl (by kernel_rfl) (rd_cons (n := 1) (m := 5) rfl rdInt (rd_cons (n := 1) (m := 4) rfl rdInt (rd_cons (n := 1) (m := 3) rfl rdInt (rd_cons (n := 1) (m := 2) rfl rdInts (rd_cons (n := 1) (m := 1) rfl rdInt (rd_cons (n := 1) (m := 0) rfl rdInts (rd_nil 6)))))))
 exact h.map (fun p => ⟨0, [], p.1, p.2.1, p.2.2.1, p.2.2.2.1, p.2.2.2.2.1, p.2.2.2.2.2.1⟩) (fun _ => rfl) (fun p h => ⟨h.2.2.2.1, h.2.2.2.2.2.1⟩) (fun p => by simp only []; omega)
set_option maxRecDepth 100000 in
theorem rdBlock : RdT enc Tryz.prog W 58 8 qd z4v qsv := by
 have h := rd_struct (enc := enc) (W := W) (n := 8) Tryz.underlying58 rfl (by kernel_rfl) (rd_cons (n := 1) (m := 7) rfl rdInt (rd_cons (n := 1) (m := 6) rfl rdIns (rd_cons (n := 6) (m := 0) rfl rdTerm (rd_nil 8))))
 exact h.map (fun p => ⟨p.1, p.2.1, p.2.2.1.kind, p.2.2.1.ta, p.2.2.1.to, p.2.2.1.args, p.2.2.1.els, p.2.2.1.elses⟩) (fun _ => rfl) (fun p h => ⟨h.2.1.1, h.2.2.1.1, h.2.2.1.2, h.2.1.2⟩) (fun p => by simp only [qsv]; omega)
theorem rdBlocks : RdT enc Tryz.prog W 59 1 (fun xs : List Block => [q1k xs]) (fun xs => (∀ x ∈ xs, z4v x) ∧ xs.length ≤ 2000000000000) (fun xs => (xs.map qsv).sum + 1) :=
 (rd_slice (C := qd) (n := 8) (b := 112) (by kernel_rfl) Tryz.underlying59 (by decide) (by kernel_rfl) (fun _ => rfl) rdBlock).map id (fun _ => rfl) (fun xs h => ⟨h.1, by
  have := h.2
  unfold reachBytes at this
  simp only [id]
  omega⟩) (fun _ => Nat.le_refl _)
set_option maxRecDepth 100000 in
theorem rdFunc : RdT enc Tryz.prog W 61 4 qm bFunc z1b := by
 have h := rd_struct (enc := enc) (W := W) (n := 4) Tryz.underlying61 rfl (by kernel_rfl) (rd_cons (n := 1) (m := 3) rfl rdStr (rd_cons (n := 1) (m := 2) rfl rdInt (rd_cons (n := 1) (m := 1) rfl rdInt (rd_cons (n := 1) (m := 0) rfl rdBlocks (rd_nil 4)))))
 exact h.map (fun p => ⟨p.1, p.2.1, p.2.2.1, p.2.2.2.1⟩) (fun _ => rfl) (fun p h => h.2.2.2.1) (fun p => by simp only [z1b]; omega)
end
end Go.Proofs.YtgadlpdbkohlbaaGreat
/- What arguments of this program's own types read as: globals, modules. -/
namespace Go.Proofs.YtgadlpdbkohlbaaGreat
open Go.RowKit
def bGlob (g : Glob) : Prop := g.init < 18446744073709551616
def z4w (m : Module) : Prop := (∀ f ∈ m.funcs, bFunc f) ∧ m.funcs.length ≤ 2600000000000 ∧ m.globs.length ≤ 3600000000000 ∧ ∀ g ∈ m.globs, bGlob g
def qsw (m : Module) : Nat := (m.funcs.map z1b).sum + (m.globs.map z1c).sum + 2
section
variable {H : Type} {enc : TypeId × Value → H} {W : World}
set_option maxRecDepth 100000 in
theorem rdGlob : RdT enc Tryz.prog W 64 4 q67 bGlob z1c := by
 have h := rd_struct (enc := enc) (W := W) (n := 4) Tryz.underlying64 rfl (by kernel_rfl) (rd_cons (n := 1) (m := 3) rfl rdStr (rd_cons (n := 1) (m := 2) rfl rdInt (rd_cons (n := 1) (m := 1) rfl rdBool (rd_cons (n := 1) (m := 0) rfl rdU64 (rd_nil 4)))))
 exact h.map (fun p => ⟨p.1, p.2.1, p.2.2.1, p.2.2.2.1⟩) (fun _ => rfl) (fun p h => h.2.2.2.1) (fun p => by simp only [z1c]; omega)
theorem rdGlobs : RdT enc Tryz.prog W 23 1 (fun xs : List Glob => [q2u xs]) (fun xs => (∀ x ∈ xs, bGlob x) ∧ xs.length ≤ 3600000000000) (fun xs => (xs.map z1c).sum + 1) :=
 (rd_slice (C := q67) (n := 4) (b := 40) (by kernel_rfl) Tryz.underlying23 (by decide) (by kernel_rfl) (fun _ => rfl) rdGlob).map id (fun _ => rfl) (fun xs h => ⟨h.1, by
  have := h.2
  unfold reachBytes at this
  simp only [id]
  omega⟩) (fun _ => Nat.le_refl _)
theorem rdFuncs : RdT enc Tryz.prog W 22 1 (fun xs : List Func => [q24 xs]) (fun xs => (∀ x ∈ xs, bFunc x) ∧ xs.length ≤ 2600000000000) (fun xs => (xs.map z1b).sum + 1) :=
 (rd_slice (C := qm) (n := 4) (b := 56) (by kernel_rfl) Tryz.underlying22 (by decide) (by kernel_rfl) (fun _ => rfl) rdFunc).map id (fun _ => rfl) (fun xs h => ⟨h.1, by
  have := h.2
  unfold reachBytes at this
  simp only [id]
  omega⟩) (fun _ => Nat.le_refl _)
set_option maxRecDepth 100000 in
theorem rdModule : RdT enc Tryz.prog W 25 2 q8 z4w qsw := by
 have h := rd_struct (enc := enc) (W := W) (n := 2) Tryz.underlying25 rfl (by kernel_rfl) (rd_cons (n := 1) (m := 1) rfl rdFuncs (rd_cons (n := 1) (m := 0) rfl rdGlobs (rd_nil 2)))
 exact h.map (fun p => ⟨p.1, p.2.1⟩) (fun _ => rfl) (fun p h => ⟨h.1.1, h.1.2, h.2.1.2, h.2.1.1⟩) (fun p => by simp only [qsw]; omega)
end
end Go.Proofs.YtgadlpdbkohlbaaGreat
/- From a contract of the evaluator to a claim's own form: what an argument reads as; the call. -/
namespace Go.Proofs.YtgadlpdbkohlbaaGreat
open Go.RowKit
theorem own : ownKnob Tryz.prog.godebug = none := by kernel_rfl
theorem laid : laidOutB Tryz.prog = true := by kernel_rfl
theorem APure.yes {P : Program} {F : FuncId} {ds : List DV} (h : APure P F ds (.bool true)) {W : World} {args : Array Value} (hv : DReps qzl W args.toList ds) : Calls P F args W fun e w' => e = .returned (.bool true) ∧ Ext W w' := by
 refine (h.2 qzl W args (fun _ _ h => h.elim) hv).mono ?_
 rintro e w' ⟨hx, v, rfl, hv⟩
 cases hv
 exact ⟨rfl, hx⟩
section
variable {P : Program} {H : Type} {enc : TypeId × Value → H} {W : World} {α : Type} {t : TypeId} {n : Nat} {C : α → List DV} {B : α → Prop} {S : α → Nat} {v : Value} {d : DataW H} {ps : List MemPlace}
theorem z6u {fs : Array Field} (h : RdT enc P W t n C B S) (ht : P.underlying t = some (.struct fs)) (hval : Value.okWide P W .any 0 t v) (hd : DataW.Trod enc P W 0 (fun _ => true) true t v d ps) (hl : z4c P d t) :
  ∃ a, DRep qzl W v (.agg (C a)) ∧ B a ∧ S a ≤ Rows.uptoBulk d := by
 obtain ⟨fuel, hd⟩ := hd
 obtain ⟨a, h1, h2⟩ := h.2 fuel _ _ hd hl
 unfold Value.okWide at hval
 rw [ht] at hval
 obtain ⟨cs, rfl, _⟩ := hval
 exact ⟨a, .agg cs.toList (C a) h1.1 h1.2, h2⟩
theorem open_agg {fs : Array Field} (h : RdT enc P W t n C B S) (ht : P.underlying t = some (.struct fs)) (hval : Value.okWide P W .any 0 t v) (hd : DataW.Trod enc P W 0 (fun _ => true) true t v d ps) (hl : z4c P d t) :
  ∃ a, DRep qzl W v (.agg (C a)) ∧ B a := by
 obtain ⟨a, h1, h2, _⟩ := z6u h ht hval hd hl
 exact ⟨a, h1, h2⟩
theorem light_of {ts : List TypeId} {ds : List (DataW H)} (h : (DataW.weightsEach P ts ds).all (· ≤ reachBytes) = true) {j : Nat} (h1 : ts[j]? = some t) (h2 : ds[j]? = some d) : z4c P d t := by
 intro n hn
 have := List.all_eq_true.1 h n (DataW.weights_mem_each h1 h2 n hn)
 simpa using this
end
end Go.Proofs.YtgadlpdbkohlbaaGreat
