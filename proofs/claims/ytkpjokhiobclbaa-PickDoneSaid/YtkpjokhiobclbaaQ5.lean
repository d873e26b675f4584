/- Contracts by the evaluator: layer 8, the names that are wanted and not defined, as a map. -/
import Derived.Test.YtkpjokhiobclbaaQ4
import Derived.Test.YtkpjokhiobclbaaPC
import Derived.Test.YtkpjokhiobclbaaPE
import Derived.Test.YtkpjokhiobclbaaPF
namespace Go.Proofs.Ytkpjokhiobclbaa
open Go.RowKit

/-- A map of texts: how many entries, and what it holds. -/
abbrev MapS := Nat × (Value → Option Value)
def putS (s : MapS) (x : ByteArray) : MapS := (if (s.2 (.string x)).isSome then s.1 else s.1 + 1, mset s.2 (.string x) (.bool true))
def delS (s : MapS) (x : ByteArray) : MapS := (if (s.2 (.string x)).isSome then s.1 - 1 else s.1, mdel s.2 (.string x))
def putL (s : MapS) (l : List ByteArray) : MapS := l.foldl putS s
def delL (s : MapS) (l : List ByteArray) : MapS := l.foldl delS s
def wantS (l : List Module) : MapS := l.foldl (fun s m => putL s (wantsM m)) (0, fun _ => none)
def openS (l : List Module) : MapS := l.foldl (fun s m => delL s (definesM m)) (wantS l)
@[simp] theorem putL_nil (s : MapS) : putL s [] = s := rfl
@[simp] theorem delL_nil (s : MapS) : delL s [] = s := rfl
theorem putL_succ {s : MapS} {l : List ByteArray} {k : Nat} (hk : k < l.length) : putL s (l.take (k + 1)) = putS (putL s (l.take k)) l[k] := by
  unfold putL
  rw [List.take_succ_eq_append_getElem hk, List.foldl_append]
  rfl
theorem delL_succ {s : MapS} {l : List ByteArray} {k : Nat} (hk : k < l.length) : delL s (l.take (k + 1)) = delS (delL s (l.take k)) l[k] := by
  unfold delL
  rw [List.take_succ_eq_append_getElem hk, List.foldl_append]
  rfl
@[simp] theorem wantS_nil : wantS [] = (0, fun _ => none) := rfl
theorem wantS_succ {l : List Module} {k : Nat} (hk : k < l.length) : wantS (l.take (k + 1)) = putL (wantS (l.take k)) (wantsM l[k]) := by
  unfold wantS
  rw [List.take_succ_eq_append_getElem hk, List.foldl_append]
  rfl
/-- With the names away that the first k modules define. -/
def openT (l : List Module) (k : Nat) : MapS := (l.take k).foldl (fun s m => delL s (definesM m)) (wantS l)
@[simp] theorem openT_zero (l : List Module) : openT l 0 = wantS l := rfl
theorem openT_succ {l : List Module} {k : Nat} (hk : k < l.length) : openT l (k + 1) = delL (openT l k) (definesM l[k]) := by
  unfold openT
  rw [List.take_succ_eq_append_getElem hk, List.foldl_append]
  rfl
theorem openT_all {l : List Module} {k : Nat} (hk : l.length ≤ k) : openT l k = openS l := by
  unfold openT openS
  rw [List.take_of_length_le hk]

theorem wantsM_fit {m : Module} (hm : ModFit m) : (wantsM m).length ≤ 8796093022207 := by
  have h1 := namesF_length wantF m.funcs
  have h2 := namesG_length wantG m.globs
  have := hm.len
  simp [wantsM]; omega
theorem definesM_fit {m : Module} (hm : ModFit m) : (definesM m).length ≤ 8796093022207 := by
  have h1 := namesF_length defF m.funcs
  have h2 := namesG_length defG m.globs
  have := hm.len
  simp [definesM]; omega

set_option maxRecDepth 10000 in
theorem open_map (l : List Module) (hl : ∀ m ∈ l, ModFit m) : AMap Try.prog 26 [modsD l] .string (openS l).1 (openS l).2 := by
  refine amapG _ _ Try.func26 (by kernel_rfl) t_pick_open u_pick_open rfl rfl (fun hx => len1 hx fun hlen => ?_)
  clear hx
  simp [c_pick_open, r_pick_open]
  refine loop_s (κ := Nat) (fun k => k ≤ l.length) (fun k => l.length - k) (fun k => [(sl 15, .int k)]) (fun k => [(1, .map .string (wantS (l.take k)).1 (wantS (l.take k)).2)]) 2 0 (srcs [(1, .id 1)]) (by simp) (by simp) ?_
  rintro k hk
  simp
  refine ⟨fun hlt => ⟨hlt, ?_⟩, fun hge => ?_⟩
  · rw [getD_some hlt]
    have hm := hl _ (List.getElem_mem hlt)
    refine call_plain (ds := [.agg (moduleC l[k])]) _ (by simp) (by simp) (fun _ => by simp; rfl) (fun _ => wants_pure _ hm.len) ?_
    simp
    refine loop_s (κ := Nat) (fun j => j ≤ (wantsM l[k]).length) (fun j => (wantsM l[k]).length - j) (fun j => [(sl 22, .int j)]) (fun j => [(1, .map .string (putL (wantS (l.take k)) ((wantsM l[k]).take j)).1 (putL (wantS (l.take k)) ((wantsM l[k]).take j)).2)]) 11 0 (srcs [(1, .id 1)]) (by simp) (by simp) ?_
    rintro j hj
    simp
    refine ⟨fun hjlt => ⟨hjlt, ?_⟩, fun hjge => ?_⟩
    · have hwl := wantsM_fit hm
      rw [getD_some hjlt]
      refine ⟨j + 1, by omega, by omega, srcs [(1, .id 1)], ?_⟩
      simp [SLeK, putL_succ hjlt, putS]
      exact DLe_int (wrap_succ (by omega))
    · rw [List.take_of_length_le hjge]
      refine ⟨k + 1, by omega, by omega, srcs [(1, .id 1)], ?_⟩
      simp [SLeK, wantS_succ hlt]
      exact DLe_int (wrap_succ (by omega))
  rw [List.take_of_length_le hge]
  refine loop_s (κ := Nat) (fun k => k ≤ l.length) (fun k => l.length - k) (fun k => [(sl 32, .int k)]) (fun k => [(1, .map .string (openT l k).1 (openT l k).2)]) 2 0 (srcs [(1, .id 1)]) (by simp) (by simp) ?_
  rintro k hk
  simp
  refine ⟨fun hlt => ⟨hlt, ?_⟩, fun hge => ?_⟩
  · rw [getD_some hlt]
    have hm := hl _ (List.getElem_mem hlt)
    refine call_plain (ds := [.agg (moduleC l[k])]) _ (by simp) (by simp) (fun _ => by simp; rfl) (fun _ => defines_pure _ hm.len) ?_
    simp
    refine loop_s (κ := Nat) (fun j => j ≤ (definesM l[k]).length) (fun j => (definesM l[k]).length - j) (fun j => [(sl 39, .int j)]) (fun j => [(1, .map .string (delL (openT l k) ((definesM l[k]).take j)).1 (delL (openT l k) ((definesM l[k]).take j)).2)]) 11 0 (srcs [(1, .id 1)]) (by simp) (by simp) ?_
    rintro j hj
    simp
    refine ⟨fun hjlt => ⟨hjlt, ?_⟩, fun hjge => ?_⟩
    · have hwl := definesM_fit hm
      rw [getD_some hjlt]
      refine ⟨j + 1, by omega, by omega, srcs [(1, .id 1)], ?_⟩
      simp [SLeK, delL_succ hjlt, delS]
      exact DLe_int (wrap_succ (by omega))
    · rw [List.take_of_length_le hjge]
      refine ⟨k + 1, by omega, by omega, srcs [(1, .id 1)], ?_⟩
      simp [SLeK, openT_succ hlt]
      exact DLe_int (wrap_succ (by omega))
  · rw [openT_all hge]
    simp

end Go.Proofs.Ytkpjokhiobclbaa
