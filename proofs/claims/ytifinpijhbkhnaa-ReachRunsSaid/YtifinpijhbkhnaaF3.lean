/- Contracts by the evaluator: the program's layer 11, what is reached from a name. -/
import Derived.Test.YtifinpijhbkhnaaF2
import Derived.Test.YtifinpijhbkhnaaRB
namespace Go.Proofs.Ytifinpijhbkhnaa
open Go.RowKit

/-- Numbers as they are, but for the new one. -/
def tau (c : Nat) : Nat → Nat := fun i => if i = 999999 then c else i
@[simp] theorem tau_new (c : Nat) : tau c 999999 = c := rfl
theorem tau_old (c : Nat) {i : Nat} (h : i ≠ 999999) : tau c i = i := if_neg h

/-- The names reached, from a name on, behind those of S; n: fuel. -/
def dfs (m : Module) : Nat → List ByteArray → ByteArray → List ByteArray
  | 0, S, _ => S
  | n + 1, S, s => if hasN S s = true then S else match findF m s with
    | none => S ++ [s]
    | some f => (namesOf (allIns f)).foldl (dfs m n) (S ++ [s])

/-- How many functions are not there yet. -/
def left (m : Module) (S : List ByteArray) : Nat := (m.funcs.filter fun f => !hasN S f.name).length
theorem left_mono {m : Module} {S S' : List ByteArray} (h : ∀ s, hasN S s = true → hasN S' s = true) : left m S' ≤ left m S := by
  unfold left
  rw [← List.countP_eq_length_filter, ← List.countP_eq_length_filter]
  refine List.countP_mono_left fun f _ hf => ?_
  cases hs : hasN S f.name with
  | false => rfl
  | true => rw [h _ hs] at hf; cases hf
theorem left_lt {m : Module} {S : List ByteArray} {s : ByteArray} {f : Func} (hf : findF m s = some f) (hs : hasN S s = false) : left m (S ++ [s]) < left m S := by
  unfold findF at hf
  have hm := List.mem_of_find?_eq_some hf
  have hn : f.name = s := by simpa using List.find?_some hf
  unfold left
  rw [← List.countP_eq_length_filter, ← List.countP_eq_length_filter]
  obtain ⟨a, b, hab⟩ := List.append_of_mem hm
  rw [hab]
  simp only [List.countP_append, List.countP_cons]
  have key : ∀ l : List Func, l.countP (fun f => !hasN (S ++ [s]) f.name) ≤ l.countP (fun f => !hasN S f.name) := fun l => List.countP_mono_left fun f _ hf => by
    cases h : hasN S f.name with
    | false => rfl
    | true => rw [hasN_append, h] at hf; cases hf
  have h1 := key a
  have h2 := key b
  have h3 : (!hasN (S ++ [s]) f.name) = false := by rw [hasN_append, hn]; simp [hasN]
  have h4 : (!hasN S f.name) = true := by rw [hn, hs]; rfl
  rw [h3, h4]
  simp
  omega
theorem dfs_mono (m : Module) : ∀ (n : Nat) (S : List ByteArray) (s : ByteArray) (t : ByteArray), hasN S t = true → hasN (dfs m n S s) t = true := by
  intro n
  induction n with
  | zero => intro S s t h; exact h
  | succ n ih =>
    intro S s t h
    unfold dfs
    split
    · exact h
    · have h' : hasN (S ++ [s]) t = true := by rw [hasN_append, h]; rfl
      split
      · exact h'
      · rename_i f _
        have key : ∀ (l : List ByteArray) (S : List ByteArray), hasN S t = true → hasN (l.foldl (dfs m n) S) t = true := by
          intro l
          induction l with
          | nil => intro S h; exact h
          | cons x l ihl => intro S h; exact ihl _ (ih S x t h)
        exact key _ _ h'
theorem fold_mono (m : Module) (n : Nat) (t : ByteArray) : ∀ (l : List ByteArray) (S : List ByteArray), hasN S t = true → hasN (l.foldl (dfs m n) S) t = true
  | [], _, h => h
  | x :: l, S, h => fold_mono m n t l _ (dfs_mono m n S x t h)

/-- The objects of the search: the names that were reached; the search itself. -/
def LR (m : Module) (S : List ByteArray) : List (Nat × AObj) :=
  [(1000000, .box [.mp 1000001]), (1000001, .map .string S.length (mapN S)), (1000002, .box [.fn 57 [.ptr 1000000 0, .d (.cref (moduleC m) 0), .ptr 1000002 0]])]

/-- Of a module: nothing in it is beyond what may be held. -/
structure Small (m : Module) : Prop where
  len : m.funcs.length + m.globs.length ≤ 1048576
  ins : ∀ f ∈ m.funcs, (allIns f).length ≤ 1048576
  blks : ∀ f ∈ m.funcs, f.blocks.length ≤ 1048576
  args : ∀ f ∈ m.funcs, ∀ b ∈ f.blocks, ∀ i ∈ b.ins, i.args.length ≤ 17592186044416

theorem hof_LR (m : Module) (S : List ByteArray) : hof (LR m S) = hadd 1000000 (.box [.mp 1000001]) (hadd 1000001 (.map .string S.length (mapN S)) (hadd 1000002 (.box [.fn 57 [.ptr 1000000 0, .d (.cref (moduleC m) 0), .ptr 1000002 0]]) hnil)) := rfl
theorem LR_end {m : Module} {S S' : List ByteArray} {n : Nat} {f : Value → Option Value} (hn : n = S'.length) (hf : ∀ v, kdOk .string v = true → f v = mapN S' v) : EffEnd (LR m S) (LR m S') (hadd 1000000 (.box [.mp 1000001]) (hadd 1000001 (.map .string n f) (hadd 1000002 (.box [.fn 57 [.ptr 1000000 0, .d (.cref (moduleC m) 0), .ptr 1000002 0]]) hnil))) := by
  subst hn
  refine ⟨.none, ?_, ?_⟩
  · simp [LR, gE]
    exact fun v hv => hf v hv
  · simp [LR, gE]

set_option maxRecDepth 10000 in
theorem reach_eff (m : Module) (hm : Small m) : ∀ (n : Nat) (S : List ByteArray) (s : ByteArray), left m S < n → AEff Try.prog 57 [.d (.str s), .ptr 1000000 0, .d (.cref (moduleC m) 0), .ptr 1000002 0] (LR m S) (.tup []) (LR m (dfs m n S s)) := by
  intro n
  induction n with
  | zero => intro S s h; omega
  | succ n ih =>
    intro S s hn
    refine aeffG _ _ Try.func57 (by kernel_rfl) t_reach_From_1 u_reach_From_1 rfl rfl (by simp [LR]) (by simp [LR, idsOk]) (fun _ => ?_)
    by_cases hs : hasN S s = true
    · have e : dfs m (n + 1) S s = S := by unfold dfs; rw [if_pos hs]
      rw [e]
      simp [c_reach_From_1, r_reach_From_1, hof_LR, hs]
      exact LR_end rfl fun _ _ => rfl
    · have hs' : hasN S s = false := by simpa using hs
      simp [c_reach_From_1, r_reach_From_1, hof_LR, hs']
      refine call_plain (ds := [.agg (moduleC m), .str s]) _ (by simp) (by simp) (fun _ => rfl) (fun _ => find_pure m s) ?_
      cases hf : findF m s with
      | none =>
        have hr : findR m s = .tup [.agg [.str ⟨#[]⟩, .int 0, .int 0, .lit (.slice none 0 0)], .bool false] := by unfold findR; rw [hf]
        have e : dfs m (n + 1) S s = S ++ [s] := by unfold dfs; rw [if_neg hs, hf]
        rw [hr, e]
        simp
        exact LR_end (by simp) fun v hv => mapN_step v hv
      | some f =>
        have hr : findR m s = .tup [.agg (funcC f), .bool true] := by unfold findR; rw [hf]
        have e : dfs m (n + 1) S s = (namesOf (allIns f)).foldl (dfs m n) (S ++ [s]) := by
          conv => lhs; unfold dfs
          rw [if_neg hs, hf]
        have hfm : f ∈ m.funcs := List.mem_of_find?_eq_some hf
        have hl := left_lt hf hs'
        rw [hr, e]
        simp
        refine call_plain (ds := [.agg (funcC f)]) _ (by simp) (by simp) (fun _ => rfl) (fun _ => refs_pure f (by have := hm.ins f hfm; omega)) ?_
        simp
        obtain ⟨ns, hns⟩ : ∃ ns, namesOf (allIns f) = ns := ⟨_, rfl⟩
        have hnl : ns.length ≤ 1048576 := by rw [← hns]; exact Nat.le_trans (namesOf_length _) (hm.ins f hfm)
        simp only [hns]
        refine loop_s (κ := Nat) (fun k => k ≤ ns.length) (fun k => ns.length - k) (fun k => [(sl 24, .int k)]) (fun k => LR m ((ns.take k).foldl (dfs m n) (S ++ [s]))) 0 0 (srcs []) (by simp) ?_ ?_
        · simp [LR]
          exact fun v hv => mapN_step v hv
        rintro k hk
        have hmu : left m ((ns.take k).foldl (dfs m n) (S ++ [s])) < n := by
          have := left_mono (m := m) (S := S ++ [s]) (S' := (ns.take k).foldl (dfs m n) (S ++ [s])) fun t ht => fold_mono m n t _ _ ht
          omega
        simp [hof_LR]
        refine ⟨fun hlt => ⟨hlt, ?_⟩, fun hge => ?_⟩
        · have hsucc : (ns.take (k + 1)).foldl (dfs m n) (S ++ [s]) = dfs m n ((ns.take k).foldl (dfs m n) (S ++ [s])) ns[k] := by
            rw [List.take_succ_eq_append_getElem hlt, List.foldl_append]
            rfl
          refine calle_k (ih ((ns.take k).foldl (dfs m n) (S ++ [s])) ns[k] hmu) (tau _) rfl [.d (.str ns[k]), .ptr 1000000 0, .d (.cref (moduleC m) 0), .ptr 1000002 0] (by simp) (by simp) (by simp [hlt]) (by simp [gOf, LR, tau]) (by simp [gOf, LR, tau]) (by simp [gOf, LR, tau]) (by simp [LR, idsOk]) ?_
          simp [LR, tau]
          refine ⟨k + 1, by omega, by omega, srcs [], ?_⟩
          simp [SLeK, hsucc]
          exact DLe_int (wrap_succ (by omega))
        · rw [List.take_of_length_le hge]
          exact LR_end rfl fun _ _ => rfl

end Go.Proofs.Ytifinpijhbkhnaa
