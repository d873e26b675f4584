/- Contracts by the evaluator: layer 8, which modules the document takes. -/
import Derived.Test.YtkpjokhiobclbaaQ7
namespace Go.Proofs.Ytkpjokhiobclbaa
open Go.RowKit

/-- A box of bools. -/
def boolsC (n : Nat) (h : Nat → Bool) : List AV := (List.range n).map fun c => AV.bool (h c)
@[simp] theorem boolsC_length (n : Nat) (h : Nat → Bool) : (boolsC n h).length = n := by simp [boolsC]
theorem boolsC_get {n c : Nat} (h : Nat → Bool) (hc : c < n) : (boolsC n h)[c]? = some (AV.bool (h c)) := by
  simp [boolsC, hc]
theorem boolsC_ext {n : Nat} {h h' : Nat → Bool} (e : ∀ c, c < n → h c = h' c) : boolsC n h = boolsC n h' := by
  unfold boolsC
  exact List.map_congr_left fun c hc => by rw [e c (List.mem_range.1 hc)]
theorem boolsC_spl {n c : Nat} {h : Nat → Bool} {b : Bool} (hc : c < n) : spl (boolsC n h) c [AV.bool b] = boolsC n (fun x => if x = c then b else h x) := by
  refine List.ext_getElem? fun i => ?_
  unfold spl
  have hl : (boolsC n h).length = n := boolsC_length n h
  rcases Nat.lt_trichotomy i c with h1 | h1 | h1
  · rw [List.append_assoc, List.getElem?_append_left (by simp; omega), List.getElem?_take_of_lt h1, boolsC_get _ (by omega), boolsC_get _ (by omega), if_neg (by omega)]
  · subst h1
    rw [List.append_assoc, List.getElem?_append_right (by simp; omega), boolsC_get _ hc, if_pos rfl]
    simp [Nat.min_eq_left (Nat.le_of_lt hc)]
  · rw [List.getElem?_append_right (by simp; omega), List.getElem?_drop]
    have e : c + [AV.bool b].length + (i - (List.take c (boolsC n h) ++ [AV.bool b]).length) = i := by simp; omega
    rw [e]
    by_cases hi : i < n
    · rw [boolsC_get _ hi, boolsC_get _ hi, if_neg (by omega)]
    · rw [List.getElem?_eq_none (by simp; omega), List.getElem?_eq_none (by simp; omega)]
theorem boolsC_put {n c : Nat} {h : Nat → Bool} {b : Bool} (hc : c < n) : List.take c (boolsC n h) ++ AV.bool b :: List.drop (c + 1) (boolsC n h) = boolsC n (fun x => if x = c then b else h x) := by
  have := boolsC_spl (b := b) (h := h) hc
  unfold spl at this
  simpa using this
@[simp] theorem boolsC_le (M : Rws) (g : Nat → Src) (n : Nat) (h : Nat → Bool) : cellsLe M g (boolsC n h) (boolsC n h) = True := by
  unfold boolsC
  induction (List.range n) with
  | nil => simp
  | cons c l ih => simp only [List.map_cons, cellsLe, ih]; simp
/-- The cell of a place, in the document's array. -/
def archL (l : List File) (i : Nat) : Bool := match l[i]? with | some f => f.archive | none => false
def hadA (l : List File) (s : TS) (c : Nat) : Bool := archL l (c / 16) && hadP s.2 (c / 16) (c % 16)

theorem startT_arch {l : List File} {i j : Nat} : ∀ {k : Nat}, hadP (startT l k).2 i j = true → archL l i = false
  | 0, h => by simp [hadP] at h
  | k + 1, h => by
    by_cases hk : k < l.length
    · rw [startT_succ hk] at h
      split at h
      · exact startT_arch h
      · rename_i ha
        simp only [addP, hadP, List.any_append, Bool.or_eq_true] at h
        rcases h with h | h
        · exact startT_arch (k := k) h
        · simp at h
          obtain ⟨rfl, rfl⟩ := h
          simpa [archL, List.getElem?_eq_getElem hk] using ha
    · have e : startT l (k + 1) = startT l k := by
        unfold startT
        rw [List.take_of_length_le (by omega), List.take_of_length_le (by omega)]
      rw [e] at h
      exact startT_arch h
/-- The objects are taken. -/
def objsIn (l : List File) (s : TS) : Prop := ∀ i (hi : i < l.length), l[i].archive = false → hadP s.2 i 0 = true
theorem startT_objs {l : List File} {i : Nat} (hi : i < l.length) (ha : l[i].archive = false) : ∀ {k : Nat}, i < k → hadP (startT l k).2 i 0 = true
  | k + 1, h => by
    by_cases hk : k < l.length
    · rw [startT_succ hk]
      rcases Nat.lt_or_ge i k with h1 | h1
      · have ih := startT_objs hi ha h1
        split
        · exact ih
        · unfold hadP at ih
          simp [addP, hadP]
          left
          simpa using ih
      · obtain rfl : i = k := by omega
        simp [ha, addP, hadP]
    · have e : startT l (k + 1) = startT l k := by
        unfold startT
        rw [List.take_of_length_le (by omega), List.take_of_length_le (by omega)]
      rw [e]
      exact startT_objs hi ha (by omega)
theorem objsIn.add {l : List File} {s : TS} (h : objsIn l s) (p : Nat × Nat × Module) : objsIn l (addP s p) := by
  intro i hi ha
  have := h i hi ha
  unfold hadP at this
  simp [addP, hadP]
  left
  simpa using this
theorem objsIn.good {l : List File} {s : TS} (h : objsIn l s) (hobj : ∀ f ∈ l, badObj f = false) {i : Nat} (hi : i < l.length) (ha : l[i].archive = false) : ∀ p ∈ posF i l[i], goodP s p = false := by
  intro p hp
  obtain ⟨k, hk, rfl⟩ := mem_posF.1 hp
  have hb := hobj _ (List.getElem_mem hi)
  simp [badObj, ha] at hb
  obtain rfl : k = 0 := by omega
  simp [goodP, h i hi ha]
theorem mods_le_sum : ∀ {l : List File} {i : Nat} (hi : i < l.length), l[i].mods.length ≤ sumM l
  | f :: l, 0, _ => by simp [sumM]
  | f :: l, i + 1, hi => by
    have := mods_le_sum (l := l) (i := i) (by simpa using hi)
    simp [sumM] at this ⊢
    omega
theorem hadA_at {l : List File} {s : TS} {i k : Nat} (hi : i < l.length) (hk : k < 16) (ha : l[i].archive = true) : hadA l s (i * 16 + k) = hadP s.2 i k := by
  have e1 : (i * 16 + k) / 16 = i := by omega
  have e2 : (i * 16 + k) % 16 = k := by omega
  simp [hadA, e1, e2, archL, List.getElem?_eq_getElem hi, ha]
theorem hadA_add {l : List File} {s : TS} {i k : Nat} {m : Module} (hi : i < l.length) (hk : k < 16) (ha : l[i].archive = true) (c : Nat) : (if c = i * 16 + k then true else hadA l s c) = hadA l (addP s (i, k, m)) c := by
  split
  · rename_i h
    rw [h, hadA_at hi hk ha]
    simp [addP, hadP]
  · rename_i h
    have : ¬ (i = c / 16 ∧ k = c % 16) := by omega
    simp [hadA, addP, hadP, this]
structure TB where
  t : TS
  m : Bool
structure NTB where
  k : Nat
  t : TS
  m : Bool
def mulI (l : List File) (s : TS) (t : TS) (b : Bool) (hb : Prop) : Prop := (b = false ∧ t = s ∧ hb) ∨ (b = true ∧ ∃ p, nextP l s = some p ∧ t = addP s p)
def boxT (l : List File) (s : TS) : AObj := .box (boolsC 128 (hadA l s))

set_option maxRecDepth 10000 in
theorem refTake_pure (l : List File) (hl : FilesOk l) : APure Try.prog 12 [filesD l] (takeR l) := by
  refine apureG _ _ Try.func12 (by kernel_rfl) t_marlineref08_Take u_marlineref08_Take rfl rfl (fun hx => len1 hx fun hlen => ?_)
  clear hx
  simp [c_marlineref08_Take, r_marlineref08_Take]
  refine call_plain (ds := [filesD l]) _ (by simp) (by simp) (fun _ => by simp) (fun _ => ref8Check_pure l hl) ?_
  simp
  refine ⟨fun h => ?_, fun h => ?_⟩
  · simp [takeR, h]
  obtain ⟨h8, h16, hobj, hall⟩ := checked h
  refine loop_s (κ := Nat) (fun k => k ≤ l.length) (fun k => l.length - k) (fun k => [(sl 6, .int k), (sl 5, .own 8 (startT l k).1.length)]) (fun k => [(8, rowT (startT l k))]) 13 0 (srcs [(8, .nil)]) (by simp) (by simp [rowT]) ?_
  rintro k hk
  simp [rowT]
  refine ⟨fun hlt => ⟨hlt, ?_⟩, fun hge => ?_⟩
  · have hsl := startT_len l k
    have hsucc := startT_succ hlt
    rw [getD_some hlt]
    refine ⟨fun ha => ?_, fun ha => ?_⟩
    · have hb := hobj _ (List.getElem_mem hlt)
      simp [badObj, ha] at hb
      rw [ha] at hsucc
      simp at hsucc
      have hh : l[k].mods.head?.getD default = l[k].mods[0]?.getD default := by rw [List.head?_eq_getElem?]
      rw [hh] at hsucc
      refine ⟨hlt, by omega, by omega, k + 1, by omega, by omega, srcs [(8, .id 32)], ?_⟩
      simp [SLeK, hsucc, addP]
      exact ⟨DLe_int (wrap_succ (by omega)), fun i hi => appRow_mod hi⟩
    · rw [ha] at hsucc
      simp at hsucc
      refine ⟨k + 1, by omega, by omega, srcs [(8, .id 8)], ?_⟩
      simp [SLeK, hsucc]
      exact DLe_int (wrap_succ (by omega))
  rw [startT_all hge]
  have hbox0 : boolsC 128 (hadA l (startT l l.length)) = boolsC 128 fun _ => false := boolsC_ext fun c _ => by
    unfold hadA
    cases h1 : hadP (startT l l.length).2 (c / 16) (c % 16) with
    | true => simp [startT_arch h1]
    | false => simp
  refine loop_s (κ := TB) (fun s => ((s.m = true ∧ ∃ n, leftP l s.t < n ∧ takeT l = rounds l n s.t) ∨ (s.m = false ∧ takeL l = s.t.1)) ∧ s.t.1.length + leftP l s.t ≤ 24 ∧ (∀ m ∈ s.t.1, ModFit m) ∧ objsIn l s.t) (fun s => if s.m = true then leftP l s.t + 1 else 0) (fun s => [(sl 8, .bool s.m), (sl 5, .own 8 s.t.1.length)]) (fun s => [(8, rowT s.t), (17, boxT l s.t)]) 18 ⟨startT l l.length, true⟩ (srcs [(8, .id 8), (17, .id 17)]) ⟨.inl ⟨rfl, _, Nat.lt_succ_self _, rfl⟩, ?_, ?_, ?_⟩ ?_ ?_
  · have h1 := startT_len l l.length
    have h2 := leftP_le l (startT l l.length)
    simp
    omega
  · exact startT_fit hl hobj l.length
  · exact fun i hi ha => startT_objs hi ha (by omega)
  · simp [rowT, boxT]
    rw [hbox0]
    exact of_eq_true (boolsC_le _ _ 128 fun _ => false)
  rintro ⟨s, m⟩ ⟨hsm, hs24, hfit, hin⟩
  simp [rowT, boxT]
  simp only at hsm hs24 hfit hin
  refine ⟨fun hm => ?_, fun hm => ?_⟩
  · subst hm
    simp at hsm
    obtain ⟨n, hn0, hs⟩ := hsm
    refine loop_s (κ := NTB) (fun q => q.k ≤ l.length ∧ mulI l s q.t q.m (∀ i (hi : i < l.length), i < q.k → ∀ p ∈ posF i l[i], goodP s p = false)) (fun q => l.length - q.k) (fun q => [(sl 9, .int q.k), (sl 8, .bool q.m), (sl 5, .own 8 q.t.1.length)])
      (fun q => [(8, rowT q.t), (17, boxT l q.t)]) 20 ⟨0, s, false⟩ (srcs [(8, .id 8), (17, .id 17)]) ⟨by simp, .inl ⟨rfl, rfl, by simp⟩⟩ (by simp [rowT, boxT]) ?_
    rintro ⟨k, t, m⟩ ⟨hk, hq⟩
    simp only at hk hq
    simp [rowT, boxT]
    refine ⟨fun hlt hm => ?_, fun hge => ?_⟩
    · subst hm
      obtain ⟨rfl, hb⟩ : t = s ∧ ∀ i (hi : i < l.length), i < k → ∀ p ∈ posF i l[i], goodP s p = false := by
        rcases hq with ⟨_, h1, h2⟩ | ⟨h1, _⟩
        · exact ⟨h1, h2⟩
        · cases h1
      refine loop_s (κ := NTB) (fun q => q.k ≤ l[k].mods.length ∧ mulI l t q.t q.m (l[k].archive = true → ∀ i (hi : i < l[k].mods.length), i < q.k → goodP t (k, i, l[k].mods[i]) = false)) (fun q => l[k].mods.length - q.k) (fun q => [(sl 10, .int q.k), (sl 8, .bool q.m), (sl 5, .own 8 q.t.1.length)])
        (fun q => [(8, rowT q.t), (17, boxT l q.t)]) 29 ⟨0, t, false⟩ (srcs [(8, .id 8), (17, .id 17)]) ⟨by simp, .inl ⟨rfl, rfl, by simp⟩⟩ (by simp [rowT, boxT]) ?_
      rintro ⟨j, t', m⟩ ⟨hj, hq⟩
      simp only at hj hq
      simp [rowT, boxT]
      rw [getD_some hlt]
      refine ⟨hlt, fun h1 h2 => ⟨⟨h1, h2⟩, hlt⟩, fun hjlt hm ha => ⟨hlt, hjlt, ?_⟩, fun hge => ?_⟩
      · subst hm
        obtain ⟨rfl, hbj⟩ : t' = t ∧ (l[k].archive = true → ∀ i (hi : i < l[k].mods.length), i < j → goodP t (k, i, l[k].mods[i]) = false) := by
          rcases hq with ⟨_, h1, h2⟩ | ⟨h1, _⟩
          · exact ⟨h1, h2⟩
          · cases h1
        have hbj := hbj ha
        have hf := hl _ (List.getElem_mem hlt)
        have hmf := hf.2 _ (List.getElem_mem hjlt)
        have hms := mods_le_sum hlt
        rw [getD_some hjlt]
        refine call_plain (ds := [modsD t'.1, .agg (moduleC l[k].mods[j])]) _ (by simp) (by simp) (fun _ => by simp) (fun _ => open_pure _ hfit _ hmf) ?_
        simp
        have hbx : (boolsC 128 (hadA l t'))[k * 16 + j]?.getD (AV.d DV.top) = AV.bool (hadP t'.2 k j) := by
          rw [boolsC_get _ (by omega), hadA_at hlt (by omega) ha]
          rfl
        refine ⟨by omega, by omega, by omega, ?_⟩
        simp [hbx]
        refine ⟨fun h1 ho => ?_, fun h1 => ?_⟩
        · have hgood : goodP t' (k, j, l[k].mods[j]) = true := by simp [goodP, h1, ho]
          have hnext := nextP_hit hlt hjlt hb hbj hgood
          refine ⟨by omega, by omega, by omega, hlt, by rw [getD_some hlt]; exact hjlt, by omega, ⟨j + 1, addP t' (k, j, l[k].mods[j]), true⟩, ⟨by simp; omega, .inr ⟨rfl, _, hnext, rfl⟩⟩, by simp; omega, srcs [(8, .id 83), (17, .id 17)], ?_⟩
          rw [getD_some hlt, getD_some hjlt]
          have e1 : List.take (k * 16 + j) (boolsC 128 (hadA l t')) ++ AV.bool true :: List.drop (k * 16 + j + 1) (boolsC 128 (hadA l t')) = boolsC 128 (hadA l (addP t' (k, j, l[k].mods[j]))) := by
            rw [boolsC_put (by omega)]
            exact boolsC_ext fun c _ => hadA_add hlt (by omega) ha c
          unfold AV.bool at e1
          rw [e1]
          simp [SLeK]
          refine ⟨⟨DLe_int (wrap_succ (by omega)), by simp [addP]⟩, ?_⟩
          simp [addP]
          exact fun i hi => appRow_mod hi
        · refine ⟨⟨j + 1, t', false⟩, ⟨by simp; omega, .inl ⟨rfl, rfl, fun _ i hi h2 => ?_⟩⟩, by simp; omega, srcs [(8, .id 8), (17, .id 17)], ?_⟩
          · rcases Nat.lt_or_ge i j with h3 | h3
            · exact hbj i hi h3
            · obtain rfl : i = j := by have h2' : i < j + 1 := h2; omega
              simp only [goodP]
              cases hh : hadP t'.2 k i with
              | true => rfl
              | false => simpa [hh] using h1 hh
          · simp [SLeK]
            exact DLe_int (wrap_succ (by omega))
      · refine ⟨⟨k + 1, t', m⟩, ⟨by simp; omega, ?_⟩, by simp; omega, srcs [(8, .id 8), (17, .id 17)], ?_⟩
        · rcases hq with ⟨rfl, rfl, hbj⟩ | ⟨rfl, h1⟩
          · refine .inl ⟨rfl, rfl, fun i hi hik a b m hp => ?_⟩
            rcases Nat.lt_or_ge i k with h2 | h2
            · exact hb i hi h2 (a, b, m) hp
            · obtain rfl : i = k := by have hik' : i < k + 1 := hik; omega
              cases ha : l[i].archive with
              | false => exact hin.good hobj hi ha _ hp
              | true =>
                obtain ⟨j', hj', e⟩ := mem_posF.1 hp
                rw [e]
                refine hbj ha j' hj' ?_
                by_cases hjl : j < l[i].mods.length
                · have := hge hjl rfl
                  rw [ha] at this
                  cases this
                · omega
          · exact .inr ⟨rfl, h1⟩
        · simp [SLeK]
          exact DLe_int (wrap_succ (by omega))
    · rcases hq with ⟨rfl, rfl, hb⟩ | ⟨rfl, p, hp, rfl⟩
      · have hn := nextP_none (l := l) (s := t) fun i hi p hp => hb i hi (by simp at hge; omega) p hp
        have e : takeL l = t.1 := by
          unfold takeL
          rw [hs, rounds_none hn]
        refine ⟨⟨t, false⟩, ⟨.inr ⟨rfl, e⟩, hs24, hfit, hin⟩, by simp, srcs [(8, .id 8), (17, .id 17)], ?_⟩
        simp [SLeK]
      · have hpos := List.mem_of_find?_eq_some hp
        have hgood := List.find?_some hp
        have hlp := leftP_lt hpos hgood
        obtain ⟨n, rfl⟩ : ∃ n', n = n' + 1 := ⟨n - 1, by omega⟩
        refine ⟨⟨addP s p, true⟩, ⟨.inl ⟨rfl, n, (by show leftP l (addP s p) < n; omega), ?_⟩, ?_, ?_, hin.add p⟩, by simp; omega, srcs [(8, .id 8), (17, .id 17)], ?_⟩
        · rw [hs]
          simp [rounds, hp]
        · simp [addP] at hlp ⊢
          omega
        · intro m hm
          simp [addP] at hm
          rcases hm with hm | rfl
          · exact hfit m hm
          · obtain ⟨i, hi, hp⟩ := mem_posL.1 hpos
            obtain ⟨j, hj, rfl⟩ := mem_posF.1 hp
            exact (hl _ (List.getElem_mem hi)).2 _ (List.getElem_mem hj)
        · simp [SLeK]
  · subst hm
    simp at hsm
    simp only [takeR, h, if_pos, hsm]
    exact DLe.refl _

end Go.Proofs.Ytkpjokhiobclbaa
