/- Contracts by the evaluator: layer 8, which modules are taken. -/
import Derived.Test.YtkpjokhiobclbaaPT
namespace Go.Proofs.Ytkpjokhiobclbaa
open Go.RowKit

/-- What is handed back. -/
def takeR (l : List File) : DV := .tup [if checkFiles l = 0 then modsD (takeL l) else .lit (.slice none 0 0), .int (checkFiles l)]
theorem checked {l : List File} (h : checkFiles l = 0) : l.length ≤ 8 ∧ sumM l ≤ 16 ∧ (∀ f ∈ l, badObj f = false) ∧ ∀ m ∈ allMods l, checkE m = 0 := by
  unfold checkFiles at h
  split at h
  · cases h
  split at h
  · cases h
  rename_i h1 h2
  refine ⟨by omega, by omega, fun f hf => ?_, fun m hm => ?_⟩
  · rw [← Bool.not_eq_true]
    intro hb
    exact h2 (List.any_eq_true.2 ⟨f, hf, hb⟩)
  · refine Classical.byContradiction fun hne => ?_
    unfold firstE at h
    split at h
    · rename_i m' hm'
      have := List.find?_some hm'
      simp [h] at this
    · rename_i hm'
      have := List.find?_eq_none.1 hm' m hm
      simp [hne] at this
theorem startT_len (l : List File) : ∀ k, (startT l k).1.length ≤ k
  | 0 => by simp
  | k + 1 => by
    have ih := startT_len l k
    by_cases hk : k < l.length
    · rw [startT_succ hk]
      split
      · omega
      · simp [addP]; omega
    · have e : startT l (k + 1) = startT l k := by
        unfold startT
        rw [List.take_of_length_le (by omega), List.take_of_length_le (by omega)]
      rw [e]; omega
theorem startT_all {l : List File} {k : Nat} (hk : l.length ≤ k) : startT l k = startT l l.length := by
  unfold startT
  rw [List.take_of_length_le hk, List.take_of_length_le (Nat.le_refl _)]
theorem appRow_mod {l : List Module} {x : Module} {i : Nat} (h : i < l.length + 1) : appRow l.length (fun i => moduleC (l[i]?.getD default)) (fun i => List.take 2 (List.drop (i * 2) [funcsD x.funcs, globsD x.globs])) i = moduleC ((l ++ [x])[i]?.getD default) := by
  unfold appRow
  split
  · rename_i h1
    rw [List.getElem?_append_left h1]
  · rename_i h1
    obtain rfl : i = l.length := by omega
    simp
    rfl
theorem posL_length (l : List File) : (posL l).length = sumM l := by
  have key : ∀ (l : List File) (n : Nat), ((l.zipIdx n).flatMap fun p => posF p.2 p.1).length = sumM l := by
    intro l
    induction l with
    | nil => intro n; rfl
    | cons f l ih =>
      intro n
      rw [List.zipIdx_cons, List.flatMap_cons, List.length_append, ih]
      simp [posF, sumM]
  exact key l 0
theorem leftP_le (l : List File) (s : TS) : leftP l s ≤ sumM l := by
  rw [← posL_length]
  exact List.length_filter_le _ _
theorem startT_fit {l : List File} (hl : FilesOk l) (hobj : ∀ f ∈ l, badObj f = false) : ∀ k, ∀ m ∈ (startT l k).1, ModFit m
  | 0, m, hm => by simp at hm
  | k + 1, m, hm => by
    by_cases hk : k < l.length
    · rw [startT_succ hk] at hm
      split at hm
      · exact startT_fit hl hobj k m hm
      · rename_i ha
        have hb := hobj _ (List.getElem_mem hk)
        simp [badObj, ha] at hb
        simp only [addP, List.mem_append, List.mem_singleton] at hm
        rcases hm with hm | hm
        · exact startT_fit hl hobj k m hm
        · refine (hl _ (List.getElem_mem hk)).2 m ?_
          cases he : l[k].mods with
          | nil => rw [he] at hb; simp at hb
          | cons x r => rw [he] at hm; simp at hm; simp [hm]
    · have e : startT l (k + 1) = startT l k := by
        unfold startT
        rw [List.take_of_length_le (by omega), List.take_of_length_le (by omega)]
      rw [e] at hm
      exact startT_fit hl hobj k m hm
def rowT (s : TS) : AObj := .row 25 2 s.1.length fun i => moduleC (s.1[i]?.getD default)
def mpT (s : TS) : AObj := .map (.two .i64 .i64) (mapT s.2).1 (mapT s.2).2

set_option maxRecDepth 10000 in
theorem take_pure (l : List File) (hl : FilesOk l) : APure Try.prog 11 [filesD l] (takeR l) := by
  refine apureG _ _ Try.func11 (by kernel_rfl) t_pick_Take u_pick_Take rfl rfl (fun hx => len1 hx fun hlen => ?_)
  clear hx
  simp [c_pick_Take, r_pick_Take]
  refine call_plain (ds := [filesD l]) _ (by simp) (by simp) (fun _ => by simp) (fun _ => pickCheck_pure l hl) ?_
  simp
  refine ⟨fun h => ?_, fun h => ?_⟩
  · simp [takeR, h]
  obtain ⟨h8, h16, hobj, hall⟩ := checked h
  refine loop_s (κ := Nat) (fun k => k ≤ l.length) (fun k => l.length - k) (fun k => [(sl 23, .int k), (sl 6, .own 8 (startT l k).1.length)]) (fun k => [(7, mpT (startT l k)), (8, rowT (startT l k))]) 13 0 (srcs [(7, .id 7), (8, .nil)]) (by simp) (by simp [mpT, rowT, mapT]) ?_
  rintro k hk
  simp [mpT, rowT]
  refine ⟨fun hlt => ⟨hlt, ?_⟩, fun hge => ?_⟩
  · have hsl := startT_len l k
    have hsucc := startT_succ hlt
    rw [getD_some hlt]
    refine ⟨fun ha => ?_, fun ha => ?_⟩
    · have hb := hobj _ (List.getElem_mem hlt)
      simp [badObj, ha] at hb
      rw [ha] at hsucc
      simp at hsucc
      have hh : l[k].mods.head?.getD default = l[k].mods[0]?.getD default := by rw [List.head?_eq_getElem?]
      rw [hh] at hsucc
      refine ⟨by omega, by omega, k + 1, by omega, by omega, srcs [(7, .id 7), (8, .id 29)], ?_⟩
      simp [SLeK, hsucc, addP, mapT_add, putP, keyP]
      exact ⟨DLe_int (wrap_succ (by omega)), rfl, fun i hi => appRow_mod hi⟩
    · rw [ha] at hsucc
      simp at hsucc
      refine ⟨k + 1, by omega, by omega, srcs [(7, .id 7), (8, .id 8)], ?_⟩
      simp [SLeK, hsucc, mpT, rowT]
      exact DLe_int (wrap_succ (by omega))
  rw [startT_all hge]
  refine loop_s (κ := TS) (fun s => (∃ n, leftP l s < n ∧ takeT l = rounds l n s) ∧ s.1.length + leftP l s ≤ 24 ∧ ∀ m ∈ s.1, ModFit m) (fun s => leftP l s) (fun s => [(sl 6, .own 8 s.1.length)]) (fun s => [(7, mpT s), (8, rowT s)]) 14 (startT l l.length) (srcs [(7, .id 7), (8, .id 8)]) ⟨⟨_, Nat.lt_succ_self _, rfl⟩, ?_, ?_⟩ (by simp [mpT, rowT]) ?_
  · have h1 := startT_len l l.length
    have h2 := leftP_le l (startT l l.length)
    omega
  · exact startT_fit hl hobj l.length
  rintro s ⟨⟨n, hn0, hs⟩, hs24, hsm⟩
  simp [mpT, rowT]
  refine callm_k (ds := [modsD s.1]) _ _ (by simp) (by simp) (by simp) (open_map s.1 hsm) ?_
  simp
  refine loop_s (κ := Nat) (fun k => k ≤ l.length ∧ ∀ i (hi : i < l.length), i < k → ∀ p ∈ posF i l[i], goodP s p = false) (fun k => l.length - k) (fun k => [(sl 46, .int k), (sl 6, .own 8 s.1.length)])
    (fun k => [(7, mpT s), (8, rowT s), (15, .map .string (openS s.1).1 (openS s.1).2), (16, .box [.mp 15])]) 21 0 (srcs [(7, .id 7), (8, .id 8), (15, .id 15), (16, .id 16)]) (by simp) (by simp [mpT, rowT]) ?_
  rintro k ⟨hk, hb⟩
  simp [mpT, rowT]
  refine ⟨fun hlt => ⟨hlt, ?_⟩, fun hge => ?_⟩
  · rw [getD_some hlt]
    have hf := hl _ (List.getElem_mem hlt)
    refine loop_s (κ := Nat) (fun j => j ≤ l[k].mods.length ∧ ∀ i (hi : i < l[k].mods.length), i < j → goodP s (k, i, l[k].mods[i]) = false) (fun j => l[k].mods.length - j) (fun j => [(sl 54, .int j), (sl 6, .own 8 s.1.length)])
      (fun j => [(7, mpT s), (8, rowT s), (15, .map .string (openS s.1).1 (openS s.1).2), (16, .box [.mp 15])]) 32 0 (srcs [(7, .id 7), (8, .id 8), (15, .id 15), (16, .id 16)]) (by simp) (by simp [mpT, rowT]) ?_
    rintro j ⟨hj, hbj⟩
    simp [mpT, rowT]
    refine ⟨fun hjlt => ⟨hjlt, ?_⟩, fun hjge => ?_⟩
    · rw [getD_some hjlt]
      have hmf := hf.2 _ (List.getElem_mem hjlt)
      refine call_plain (ds := [.agg (moduleC l[k].mods[j])]) _ (by simp) (by simp) (fun _ => by simp; rfl) (fun _ => defines_pure _ hmf.len) ?_
      simp
      refine calle_k (containsW_eff (openS s.1) (openS_all s.1) (definesM l[k].mods[j])) (fun i => if i = 1000000 then 16 else if i = 1000001 then 15 else _) rfl [.d (strsD (definesM l[k].mods[j])), .fn 28 [.ptr 16 0]] (by simp) (by simp) (by simp) ?_ ?_ ?_ (by simp [LW, idsOk]) ?_
      · simp [gOf, LW]
      · simp [gOf, LW]
      · simp [gOf, LW]
      rw [openS_any]
      have hg : ((mapT s.2).2 (.agg #[.int .i64 k, .int .i64 j])).getD (.bool false) = .bool (hadP s.2 k j) := by
        have := mapT_get s.2 k j
        unfold keyP at this
        rw [this]
        cases hadP s.2 k j <;> rfl
      simp [LW, hg]
      refine ⟨fun h1 => ?_, fun h1 => ?_⟩
      · intro ho
        have hgood : goodP s (k, j, l[k].mods[j]) = true := by simp [goodP, h1, ho]
        have hpos : (k, j, l[k].mods[j]) ∈ posL l := mem_posL.2 ⟨k, hlt, mem_posF.2 ⟨j, hjlt, rfl⟩⟩
        have hlp := leftP_lt hpos hgood
        have hnext := nextP_hit hlt hjlt hb hbj hgood
        obtain ⟨n, rfl⟩ : ∃ n', n = n' + 1 := ⟨n - 1, by omega⟩
        refine ⟨by omega, (addP s (k, j, l[k].mods[j])).1, (addP s (k, j, l[k].mods[j])).2, ⟨⟨n, (by show leftP l (addP s (k, j, l[k].mods[j])) < n; omega), ?_⟩, ?_, ?_⟩, hlp, srcs [(7, .id 7), (8, .id 61)], ?_⟩
        · rw [hs]
          simp [rounds, hnext]
        · simp [addP] at hlp ⊢
          omega
        · intro m hm
          simp [addP] at hm
          rcases hm with hm | rfl
          · exact hsm m hm
          · exact hmf
        · simp [SLeK, addP, mapT_add, putP, keyP]
          exact ⟨rfl, fun i hi => appRow_mod hi⟩
      · refine ⟨j + 1, ⟨by omega, fun i hi h2 => ?_⟩, by omega, srcs [(7, .id 7), (8, .id 8), (15, .id 15), (16, .id 16)], ?_⟩
        · rcases Nat.lt_or_ge i j with h3 | h3
          · exact hbj i hi h3
          · obtain rfl : i = j := by omega
            simp only [goodP]
            cases hh : hadP s.2 k i with
            | true => rfl
            | false => simpa [hh] using h1 hh
        · simp [SLeK, mpT, rowT]
          exact DLe_int (wrap_succ (by omega))
    · refine ⟨k + 1, ⟨by omega, fun i hi h1 a b m hp => ?_⟩, by omega, srcs [(7, .id 7), (8, .id 8), (15, .id 15), (16, .id 16)], ?_⟩
      · rcases Nat.lt_or_ge i k with h2 | h2
        · exact hb i hi h2 (a, b, m) hp
        · obtain rfl : i = k := by omega
          obtain ⟨j', hj', e⟩ := mem_posF.1 hp
          rw [e]
          exact hbj j' hj' (by omega)
      · simp [SLeK, mpT, rowT]
        exact DLe_int (wrap_succ (by omega))
  · have hn := nextP_none (l := l) (s := s) fun i hi p hp => hb i hi (by omega) p hp
    have e : takeL l = s.1 := by
      unfold takeL
      rw [hs, rounds_none hn]
    simp only [takeR, h, if_pos, e]
    exact DLe.refl _

end Go.Proofs.Ytkpjokhiobclbaa
