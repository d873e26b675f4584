/- Contracts by the evaluator: layer 8, is one of some names wanted, as the map tells. -/
import Derived.Test.YtkpjokhiobclbaaQ5
namespace Go.Proofs.Ytkpjokhiobclbaa
open Go.RowKit

/-- The objects that the search reads: a box with a map of texts. -/
def LW (s : MapS) : List (Nat × AObj) := [(1000000, .box [.mp 1000001]), (1000001, .map .string s.1 s.2)]
theorem hof_LW (s : MapS) : hof (LW s) = hadd 1000000 (.box [.mp 1000001]) (hadd 1000001 (.map .string s.1 s.2) hnil) := rfl
theorem LW_end (s : MapS) : EffEnd (LW s) (LW s) (hadd 1000000 (.box [.mp 1000001]) (hadd 1000001 (.map .string s.1 s.2) hnil)) := by
  refine ⟨.none, ?_, ?_⟩
  · simp [LW, gE]
  · simp [LW, gE]
/-- What a map of texts says at one: is it there, and true? -/
def isT (f : Value → Option Value) (x : ByteArray) : Bool := match f (.string x) with
  | some (.bool b) => b
  | _ => false
/-- All that it holds is true. -/
def AllT (f : Value → Option Value) : Prop := ∀ v u, f v = some u → u = .bool true

set_option maxRecDepth 10000 in
theorem take1_eff (s : MapS) (hs : AllT s.2) (x : ByteArray) : AEff Try.prog 28 [.d (.str x), .ptr 1000000 0] (LW s) (.bool (isT s.2 x)) (LW s) := by
  refine aeffG _ _ Try.func28 (by kernel_rfl) t_pick_Take_1_e u_pick_Take_1_e rfl rfl (by simp [LW]) (by simp [LW, idsOk]) (fun _ => ?_)
  simp [c_pick_Take_1_e, r_pick_Take_1_e, LW]
  refine ⟨DLe_lit ?_, LW_end s⟩
  unfold isT
  cases h : s.2 (.string x) with
  | none => rfl
  | some u => rw [hs _ _ h]; rfl

def tauW (n : Nat) : Nat → Nat := fun i => if i = 999999 then n else i

set_option maxRecDepth 10000 in
theorem indexW_eff (s : MapS) (hs : AllT s.2) (xs : List ByteArray) : AEff Try.prog 41 [.d (strsD xs), .fn 28 [.ptr 1000000 0]] (LW s) (.int (findI (isT s.2) xs)) (LW s) := by
  refine aeffG _ _ Try.func41 (by kernel_rfl) t_slices_IndexFunc___string_string__e u_slices_IndexFunc___string_string__e rfl rfl (by simp [LW]) (by simp [LW, idsOk]) (fun hx => ?_)
  have hl : xs.length ≤ 9223372036854775807 := by
    obtain ⟨γ, X, w, us, h⟩ := hx
    obtain ⟨v, vs, _, h1, _⟩ := h.uncons
    have := sl_len h1.dv
    simpa [maxLen] using this
  clear hx
  simp [c_slices_IndexFunc___string_string__e, r_slices_IndexFunc___string_string__e, hof_LW]
  refine loop_s (κ := Nat) (fun k => k ≤ xs.length ∧ ∀ i (h : i < xs.length), i < k → isT s.2 xs[i] = false) (fun k => xs.length - k) (fun k => [(sl 8, .int k)]) (fun _ => LW s) 0 0 (srcs []) (by simp) (by simp [LW]) ?_
  rintro k ⟨hk, hb⟩
  simp [hof_LW]
  refine ⟨fun hlt => ⟨hlt, ?_⟩, fun hge => ⟨DLe_int (findI_miss fun i hi => hb i hi (by omega)).symm, LW_end s⟩⟩
  rw [getD_some hlt]
  refine calle_k (take1_eff s hs xs[k]) (tauW _) rfl [.d (.str xs[k]), .ptr 1000000 0] (by simp) (by simp) (by simp) (by simp [gOf, LW, tauW]) (by simp [gOf, LW, tauW]) (by simp [gOf, LW, tauW]) (by simp [LW, idsOk]) ?_
  simp [LW, tauW]
  refine ⟨fun h => ⟨DLe_int (findI_hit hlt hb h).symm, LW_end s⟩, fun h => ?_⟩
  refine ⟨k + 1, ⟨by omega, fun i hi h1 => ?_⟩, by omega, srcs [], ?_⟩
  · rcases Nat.lt_or_ge i k with h2 | h2
    · exact hb i hi h2
    · obtain rfl : i = k := by omega
      exact h
  · simp [SLeK]
    exact DLe_int (wrap_succ (by omega))

theorem containsW_eff (s : MapS) (hs : AllT s.2) (xs : List ByteArray) : AEff Try.prog 27 [.d (strsD xs), .fn 28 [.ptr 1000000 0]] (LW s) (.bool (xs.any (isT s.2))) (LW s) := by
  refine aeffG _ _ Try.func27 (by kernel_rfl) t_slices_ContainsFunc___string_string__e u_slices_ContainsFunc___string_string__e rfl rfl (by simp [LW]) (by simp [LW, idsOk]) (fun _ => ?_)
  simp [c_slices_ContainsFunc___string_string__e, r_slices_ContainsFunc___string_string__e, hof_LW, -List.any_eq_true]
  refine calle_k (indexW_eff s hs xs) (tauW _) rfl [.d (strsD xs), .fn 28 [.ptr 1000000 0]] (by simp) (by simp) (by simp) (by simp [gOf, LW, tauW]) (by simp [gOf, LW, tauW]) (by simp [gOf, LW, tauW]) (by simp [LW, idsOk]) ?_
  simp [LW, tauW, -List.any_eq_true]
  exact ⟨DLe_bool (findI_ge _ xs), LW_end s⟩

end Go.Proofs.Ytkpjokhiobclbaa
