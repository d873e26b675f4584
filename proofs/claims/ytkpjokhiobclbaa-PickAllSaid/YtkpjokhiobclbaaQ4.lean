/- Contracts by the evaluator: layer 8, the document's Open, rows of modules. -/
import Derived.Test.YtkpjokhiobclbaaQ3
import Derived.Test.YtkpjokhiobclbaaF1
import Derived.Test.YtkpjokhiobclbaaE19
namespace Go.Proofs.Ytkpjokhiobclbaa
open Go.RowKit

/-- Is a name defined by one of some modules, wanted? -/
def definedL (l : List Module) (s : ByteArray) : Bool := l.any fun m => hasN (definesM m) s
def wantedL (l : List Module) (s : ByteArray) : Bool := l.any fun m => hasN (wantsM m) s
/-- Does a module define a name that some want, and none of them defines? -/
def openL (l : List Module) (m : Module) : Bool := (definesM m).any fun s => !definedL l s && wantedL l s

theorem defined_pure (l : List Module) (hl : ∀ m ∈ l, ModFit m) (s : ByteArray) : APure Try.prog 40 [modsD l, .str s] (.bool (definedL l s)) := by
  refine apureG _ _ Try.func40 (by kernel_rfl) t_marlineref08_defined u_marlineref08_defined rfl rfl (fun hx => len1 hx fun hlen => ?_)
  clear hx
  simp [c_marlineref08_defined, r_marlineref08_defined]
  refine loop_s (κ := Nat) (fun k => k ≤ l.length ∧ ∀ m ∈ l.take k, hasN (definesM m) s = false) (fun k => l.length - k) (fun k => [(sl 5, .int k)]) (fun _ => []) 0 0 (srcs []) (by simp) (by simp) ?_
  rintro k ⟨hk, hb⟩
  simp
  refine ⟨fun hlt => ⟨hlt, ?_⟩, fun hge => ?_⟩
  · rw [getD_some hlt]
    have hm := hl _ (List.getElem_mem hlt)
    refine call_plain (ds := [.agg (moduleC l[k])]) _ (by simp) (by simp) (fun _ => by simp) (fun _ => refDefines_pure _ hm.len) ?_
    simp
    refine call_plain (ds := [strsD (definesM l[k]), .str s]) _ (by simp) (by simp) (fun _ => by simp) (fun _ => has_pure _ s) ?_
    simp
    refine ⟨fun h => DLe_bool ?_, fun h => ⟨k + 1, ⟨by omega, ?_⟩, by omega, srcs [], ?_⟩⟩
    · symm
      exact List.any_eq_true.2 ⟨_, List.getElem_mem hlt, h⟩
    · intro m hm
      rw [List.take_succ_eq_append_getElem hlt] at hm
      rcases List.mem_append.1 hm with hm | hm
      · exact hb m hm
      · simp at hm; rw [hm]; exact h
    · simp [SLeK]
      exact DLe_int (wrap_succ (by omega))
  · rw [List.take_of_length_le hge] at hb
    refine DLe_bool ?_
    symm
    rw [← Bool.not_eq_true]
    intro h
    obtain ⟨m, hm, h1⟩ := List.any_eq_true.1 h
    rw [hb m hm] at h1
    cases h1

set_option maxRecDepth 10000 in
theorem open_pure (l : List Module) (hl : ∀ m ∈ l, ModFit m) (m : Module) (hm : ModFit m) : APure Try.prog 22 [modsD l, .agg (moduleC m)] (.bool (openL l m)) := by
  refine apureG _ _ Try.func22 (by kernel_rfl) t_marlineref08_Open u_marlineref08_Open rfl rfl (fun hx => len1 hx fun hlen => ?_)
  clear hx
  simp [c_marlineref08_Open, r_marlineref08_Open]
  refine call_plain (ds := [.agg (moduleC m)]) _ (by simp) (by simp) (fun _ => by simp; rfl) (fun _ => refDefines_pure _ hm.len) ?_
  simp
  refine loop_s (κ := Nat) (fun k => k ≤ (definesM m).length ∧ ∀ s ∈ (definesM m).take k, definedL l s = false → wantedL l s = false) (fun k => (definesM m).length - k) (fun k => [(sl 6, .int k)]) (fun _ => []) 0 0 (srcs []) (by simp) (by simp) ?_
  rintro k ⟨hk, hb⟩
  have hlm : (definesM m).length ≤ 8796093022207 := by
    have h1 := namesF_length defF m.funcs
    have h2 := namesG_length defG m.globs
    have := hm.len
    simp [definesM]; omega
  simp
  refine ⟨fun hlt => ?_, fun hge => ?_⟩
  · have hstep : (definedL l (definesM m)[k] = false → wantedL l (definesM m)[k] = false) → ∀ s ∈ (definesM m).take (k + 1), definedL l s = false → wantedL l s = false := by
      intro h s hs
      rw [List.take_succ_eq_append_getElem hlt] at hs
      rcases List.mem_append.1 hs with hs | hs
      · exact hb s hs
      · simp at hs; rw [hs]; exact h
    refine ⟨hlt, ?_⟩
    rw [getD_some hlt]
    refine call_plain (ds := [modsD l, .str (definesM m)[k]]) _ (by simp) (by simp) (fun _ => by simp) (fun _ => defined_pure l hl _) ?_
    simp
    refine ⟨fun h => ⟨k + 1, ⟨by omega, hstep (by simp [h])⟩, by omega, srcs [], ?_⟩, fun h => ?_⟩
    · simp [SLeK]
      exact DLe_int (wrap_succ (by omega))
    refine loop_s (κ := Nat) (fun j => j ≤ l.length ∧ ∀ x ∈ l.take j, hasN (wantsM x) (definesM m)[k] = false) (fun j => l.length - j) (fun j => [(sl 8, .int j)]) (fun _ => []) 0 0 (srcs []) (by simp) (by simp) ?_
    rintro j ⟨hj, hbj⟩
    simp
    refine ⟨fun hjlt => ⟨hjlt, ?_⟩, fun hjge => ?_⟩
    · rw [getD_some hjlt]
      refine call_plain (ds := [.agg (moduleC l[j])]) _ (by simp) (by simp) (fun _ => by simp) (fun _ => refWants_pure _ (hl _ (List.getElem_mem hjlt)).len) ?_
      simp
      refine ⟨hlt, ?_⟩
      rw [getD_some hlt]
      refine call_plain (ds := [strsD (wantsM l[j]), .str (definesM m)[k]]) _ (by simp) (by simp) (fun _ => by simp) (fun _ => has_pure _ _) ?_
      simp
      refine ⟨fun h1 => DLe_bool ?_, fun h1 => ⟨j + 1, ⟨by omega, ?_⟩, by omega, srcs [], ?_⟩⟩
      · symm
        refine List.any_eq_true.2 ⟨_, List.getElem_mem hlt, ?_⟩
        have : wantedL l (definesM m)[k] = true := List.any_eq_true.2 ⟨_, List.getElem_mem hjlt, h1⟩
        simp [h, this]
      · intro x hx
        rw [List.take_succ_eq_append_getElem hjlt] at hx
        rcases List.mem_append.1 hx with hx | hx
        · exact hbj x hx
        · simp at hx; rw [hx]; exact h1
      · simp [SLeK]
        exact DLe_int (wrap_succ (by omega))
    · refine ⟨k + 1, ⟨by omega, hstep ?_⟩, by omega, srcs [], ?_⟩
      · rw [List.take_of_length_le hjge] at hbj
        intro _
        rw [← Bool.not_eq_true]
        intro h1
        obtain ⟨x, hx, h2⟩ := List.any_eq_true.1 h1
        rw [hbj x hx] at h2
        cases h2
      · simp [SLeK]
        exact DLe_int (wrap_succ (by omega))
  · rw [List.take_of_length_le hge] at hb
    refine DLe_bool ?_
    symm
    rw [← Bool.not_eq_true]
    intro h
    obtain ⟨s, hs, h1⟩ := List.any_eq_true.1 h
    simp only [Bool.and_eq_true, Bool.not_eq_true'] at h1
    rw [hb s hs h1.1] at h1
    cases h1.2

/-- Are two rows of modules the same? -/
def sameMods : List Module → List Module → Bool
  | [], [] => true
  | x :: a, y :: b => sameMod x y && sameMods a b
  | _, _ => false
theorem sameMods_len : ∀ {a b : List Module}, ¬ a.length = b.length → sameMods a b = false
  | [], [], h => by simp at h
  | x :: a, y :: b, h => by
    have := sameMods_len (a := a) (b := b) (by simpa using h)
    simp [sameMods, this]
  | [], _ :: _, _ => rfl
  | _ :: _, [], _ => rfl
theorem sameMods_no : ∀ {a b : List Module} {k : Nat} (h1 : k < a.length) (h2 : k < b.length), sameMod a[k] b[k] = false → sameMods a b = false
  | x :: a, y :: b, 0, _, _, h => by simp [sameMods]; intro h'; simp at h; rw [h] at h'; cases h'
  | x :: a, y :: b, k + 1, h1, h2, h => by
    have := sameMods_no (a := a) (b := b) (k := k) (by simpa using h1) (by simpa using h2) (by simpa using h)
    simp [sameMods, this]
theorem sameMods_yes : ∀ {a b : List Module}, a.length = b.length → (∀ k (h1 : k < a.length) (h2 : k < b.length), sameMod a[k] b[k] = true) → sameMods a b = true
  | [], [], _, _ => rfl
  | x :: a, y :: b, hl, h => by
    have h0 := h 0 (by simp) (by simp)
    have := sameMods_yes (a := a) (b := b) (by simpa using hl) (fun k h1 h2 => h (k + 1) (by simpa using h1) (by simpa using h2))
    simp at h0
    simp [sameMods, this, h0]

set_option maxRecDepth 10000 in
theorem mods_pure (a b : List Module) : APure Try.prog 13 [modsD a, modsD b] (.bool (sameMods a b)) := by
  refine apureG _ _ Try.func13 (by kernel_rfl) t_marlineref08_Mods u_marlineref08_Mods rfl rfl (fun hx => len1 hx fun hlen => ?_)
  clear hx
  simp [c_marlineref08_Mods, r_marlineref08_Mods]
  refine ⟨fun h => DLe_bool (sameMods_len (by omega)).symm, fun h => ?_⟩
  have he : a.length = b.length := by omega
  refine loop_s (κ := Nat) (fun k => k ≤ a.length ∧ ∀ i (h1 : i < a.length) (h2 : i < b.length), i < k → sameMod a[i] b[i] = true) (fun k => a.length - k) (fun k => [(sl 5, .int k)]) (fun _ => []) 0 0 (srcs []) (by simp) (by simp) ?_
  rintro k ⟨hk, hb⟩
  simp
  refine ⟨fun hlt => ?_, fun hge => ?_⟩
  · have hlt' : k < b.length := by omega
    refine ⟨hlt, hlt', ?_⟩
    rw [getD_some hlt, getD_some hlt']
    refine call_plain (ds := [.agg (moduleC a[k]), .agg (moduleC b[k])]) _ (by simp) (by simp) (fun _ => by simp) (fun _ => refSame_pure _ _) ?_
    simp
    refine ⟨fun h1 => DLe_bool (sameMods_no hlt hlt' h1).symm, fun h1 => ⟨k + 1, ⟨by omega, fun i h2 h3 h4 => ?_⟩, by omega, srcs [], ?_⟩⟩
    · rcases Nat.lt_or_ge i k with h5 | h5
      · exact hb i h2 h3 h5
      · obtain rfl : i = k := by omega
        exact h1
    · simp [SLeK]
      exact DLe_int (wrap_succ (by omega))
  · exact DLe_bool (sameMods_yes he fun i h1 h2 => hb i h1 h2 (by omega)).symm

end Go.Proofs.Ytkpjokhiobclbaa
