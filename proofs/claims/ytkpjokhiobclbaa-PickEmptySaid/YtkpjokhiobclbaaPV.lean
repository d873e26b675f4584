/- Plain layer 8: an archive without modules changes nothing. -/
import Derived.Test.YtkpjokhiobclbaaPU
namespace Go.Proofs.Ytkpjokhiobclbaa
open Go.RowKit

def bareF : File := ⟨true, []⟩
def insF (l : List File) (n : Nat) : List File := l.take n ++ bareF :: l.drop n
def shI (n i : Nat) : Nat := if i < n then i else i + 1
theorem shI_inj {n i j : Nat} : shI n i = shI n j ↔ i = j := by unfold shI; split <;> split <;> omega
def shP (n : Nat) (p : Nat × Nat) : Nat × Nat := (shI n p.1, p.2)
def shQ (n : Nat) (p : Nat × Nat × Module) : Nat × Nat × Module := (shI n p.1, p.2)
def shT (n : Nat) (s : TS) : TS := (s.1, s.2.map (shP n))
theorem insF_length {l : List File} {n : Nat} (hn : n ≤ l.length) : (insF l n).length = l.length + 1 := by simp [insF]; omega
theorem sum_insF (l : List File) (n : Nat) : sumM (insF l n) = sumM l := by
  have h : ∀ a b : List File, sumM (a ++ bareF :: b) = sumM (a ++ b) := fun a b => by simp [sumM, bareF]
  have := h (l.take n) (l.drop n)
  rw [List.take_append_drop] at this
  exact this
theorem bad_insF (l : List File) (n : Nat) : (insF l n).any badObj = l.any badObj := by
  have h : ∀ a b : List File, (a ++ bareF :: b).any badObj = (a ++ b).any badObj := fun a b => by simp [badObj, bareF]
  have := h (l.take n) (l.drop n)
  rw [List.take_append_drop] at this
  exact this
theorem all_insF (l : List File) (n : Nat) : allMods (insF l n) = allMods l := by
  have h : ∀ a b : List File, allMods (a ++ bareF :: b) = allMods (a ++ b) := fun a b => by simp [allMods, bareF]
  have := h (l.take n) (l.drop n)
  rw [List.take_append_drop] at this
  exact this
theorem check_insF {l : List File} {n : Nat} (hn : n ≤ l.length) (h7 : l.length ≤ 7) : checkFiles (insF l n) = checkFiles l := by
  unfold checkFiles
  rw [insF_length hn, sum_insF, bad_insF, all_insF]
  simp only [show ¬ 8 < l.length + 1 by omega, show ¬ 8 < l.length by omega, false_or]
theorem pos_from (l : List File) : ∀ i, ((l.zipIdx i).flatMap fun p => posF p.2 p.1) = ((l.zipIdx 0).flatMap fun p => posF p.2 p.1).map fun p => (p.1 + i, p.2) := by
  intro i
  rw [List.zipIdx_eq_map_add]
  rw [List.flatMap_map, List.map_flatMap]
  congr 1
  funext p
  simp [posF, Nat.add_comm]
theorem posL_insF {l : List File} {n : Nat} (hn : n ≤ l.length) : posL (insF l n) = (posL l).map (shQ n) := by
  have e0 : posL l = ((l.take n).zipIdx.flatMap fun p => posF p.2 p.1) ++ (((l.drop n).zipIdx n).flatMap fun p => posF p.2 p.1) := by
    conv => lhs; rw [← List.take_append_drop n l]
    unfold posL
    rw [List.zipIdx_append, List.flatMap_append]
    simp [Nat.min_eq_left hn]
  have e1 : posL (insF l n) = ((l.take n).zipIdx.flatMap fun p => posF p.2 p.1) ++ (((l.drop n).zipIdx (n + 1)).flatMap fun p => posF p.2 p.1) := by
    unfold posL insF
    rw [List.zipIdx_append, List.flatMap_append, List.zipIdx_cons, List.flatMap_cons]
    simp [Nat.min_eq_left hn, posF, bareF]
  rw [e0, e1, List.map_append]
  congr 1
  · rw [List.map_flatMap]
    rw [List.flatMap_def, List.flatMap_def]
    congr 1
    refine List.map_congr_left fun p hp => ?_
    obtain ⟨f, i⟩ := p
    obtain ⟨h1, _⟩ := List.mem_zipIdx' hp
    have hi : i < n := by simp at h1; omega
    simp [posF, shQ, shI, hi]
  · rw [pos_from _ (n + 1), pos_from _ n, List.map_map]
    refine List.map_congr_left fun p _ => ?_
    have h1 : ¬ p.1 + n < n := by omega
    simp [shQ, shI, h1]
    omega
theorem had_sh (n : Nat) (h : List (Nat × Nat)) (i k : Nat) : hadP (h.map (shP n)) (shI n i) k = hadP h i k := by
  unfold hadP
  rw [List.any_map]
  congr 1
  funext p
  obtain ⟨a, b⟩ := p
  simp [shP, shI_inj]
theorem good_sh (n : Nat) (s : TS) (p : Nat × Nat × Module) : goodP (shT n s) (shQ n p) = goodP s p := by
  simp [goodP, shT, shQ, had_sh]
theorem next_sh {l : List File} {n : Nat} (hn : n ≤ l.length) (s : TS) : nextP (insF l n) (shT n s) = (nextP l s).map (shQ n) := by
  unfold nextP
  rw [posL_insF hn, List.find?_map]
  congr 2
  funext p
  exact good_sh n s p
theorem add_sh (n : Nat) (s : TS) (p : Nat × Nat × Module) : addP (shT n s) (shQ n p) = shT n (addP s p) := by
  simp [addP, shT, shQ, shP]
theorem rounds_sh {l : List File} {n : Nat} (hn : n ≤ l.length) : ∀ (k : Nat) (s : TS), rounds (insF l n) k (shT n s) = shT n (rounds l k s)
  | 0, _ => rfl
  | k + 1, s => by
    simp only [rounds]
    rw [next_sh hn]
    cases hp : nextP l s with
    | none => rfl
    | some p =>
      simp only [Option.map_some]
      rw [add_sh]
      exact rounds_sh hn k _
theorem left_sh {l : List File} {n : Nat} (hn : n ≤ l.length) (s : TS) : leftP (insF l n) (shT n s) = leftP l s := by
  unfold leftP
  rw [posL_insF hn, List.filter_map, List.length_map]
  congr 2
  funext p
  simp [shT, shQ, had_sh]
theorem startT_gen : ∀ (l : List File) (i : Nat) (s : TS), ((l.zipIdx i).foldl (fun s p => if p.1.archive = true then s else addP s (p.2, 0, p.1.mods.headD default)) s) = ((l.zipIdx 0).foldl (fun s p => if p.1.archive = true then s else addP s (p.2 + i, 0, p.1.mods.headD default)) s)
  | l, i, s => by
    rw [List.zipIdx_eq_map_add, List.foldl_map]
    simp only [Nat.add_comm]
theorem fold_sh (n : Nat) (g : Nat → Nat) : ∀ (l : List (File × Nat)) (s : TS), (∀ p ∈ l, g p.2 = shI n p.2) →
    l.foldl (fun s p => if p.1.archive = true then s else addP s (g p.2, 0, p.1.mods.headD default)) (shT n s) = shT n (l.foldl (fun s p => if p.1.archive = true then s else addP s (p.2, 0, p.1.mods.headD default)) s)
  | [], _, _ => rfl
  | p :: l, s, h => by
    simp only [List.foldl_cons]
    by_cases ha : p.1.archive = true
    · rw [if_pos ha, if_pos ha]
      exact fold_sh n g l s fun q hq => h q (by simp [hq])
    · rw [if_neg ha, if_neg ha, h p (by simp)]
      have := add_sh n s (p.2, 0, p.1.mods.headD default)
      simp only [shQ] at this
      rw [this]
      exact fold_sh n g l _ fun q hq => h q (by simp [hq])
theorem start_sh {l : List File} {n : Nat} (hn : n ≤ l.length) : startT (insF l n) (insF l n).length = shT n (startT l l.length) := by
  unfold startT
  rw [List.take_length, List.take_length]
  have e0 : l.zipIdx = (l.take n).zipIdx ++ ((l.drop n).zipIdx n) := by
    conv => lhs; rw [← List.take_append_drop n l, List.zipIdx_append]
    simp [Nat.min_eq_left hn]
  have e1 : (insF l n).zipIdx = (l.take n).zipIdx ++ ((bareF, n) :: (l.drop n).zipIdx (n + 1)) := by
    unfold insF
    rw [List.zipIdx_append, List.zipIdx_cons]
    simp [Nat.min_eq_left hn]
  rw [e0, e1, List.foldl_append, List.foldl_append, List.foldl_cons]
  have h1 := fold_sh n id (l.take n).zipIdx ([], []) (fun p hp => by
    obtain ⟨f, i⟩ := p
    obtain ⟨h1, _⟩ := List.mem_zipIdx' hp
    have hi : i < n := by simp at h1; omega
    simp [shI, hi])
  have h0 : shT n ([], []) = ([], []) := rfl
  rw [h0] at h1
  simp only [id] at h1
  generalize List.foldl _ ([], []) (l.take n).zipIdx = s at h1 ⊢
  rw [if_pos (by rfl)]
  conv => lhs; rw [h1]
  have h2 := fold_sh n (fun i => i + 1) ((l.drop n).zipIdx n) s (fun p hp => by
    obtain ⟨f, i⟩ := p
    have hi : n ≤ i := (List.mem_zipIdx hp).1
    simp [shI]
    omega)
  rw [← h2, List.zipIdx_succ, List.foldl_map]
theorem take_insF {l : List File} {n : Nat} (hn : n ≤ l.length) : takeL (insF l n) = takeL l := by
  unfold takeL takeT
  rw [start_sh hn, left_sh hn, rounds_sh hn]
  rfl

end Go.Proofs.Ytkpjokhiobclbaa
