/- Contracts by the evaluator: the document's layer 11. -/
import Derived.Test.YtifinpijhbkhnaaF9
import Derived.Test.YtifinpijhbkhnaaReach3
namespace Go.Proofs.Ytifinpijhbkhnaa
open Go.RowKit

theorem onceL_snoc (l : List ByteArray) (x : ByteArray) : onceL (l ++ [x]) = if hasN (onceL l) x = true then onceL l else onceL l ++ [x] := by
  unfold onceL
  rw [List.foldl_append]
  rfl
theorem onceL_le (l : List ByteArray) : (onceL l).length ≤ l.length := by
  have h1 := onceT_length l l.length
  rwa [onceT_all (Nat.le_refl _)] at h1

theorem leads_eq (m : Module) (s : ByteArray) : (∃ k, ∃ hk : k < m.funcs.length, findI (fun f => decide (f.name = s)) m.funcs = k ∧ findF m s = some m.funcs[k]) ∨ (findI (fun f => decide (f.name = s)) m.funcs = -1 ∧ findF m s = none) := find_idx _ _

set_option maxRecDepth 10000 in
theorem refs11_pure (m : Module) (hm : Small m) (s : ByteArray) : APure Try.prog 56 [.agg (moduleC m), .str s] (strsD (leads m s)) := by
  refine apureG _ _ Try.func56 (by kernel_rfl) t_marlineref11_refs u_marlineref11_refs rfl rfl (fun _ => ?_)
  simp [c_marlineref11_refs, r_marlineref11_refs]
  refine call_plain (ds := [.agg (moduleC m), .str s]) _ (by simp) (by simp) (fun _ => rfl) (fun _ => findFunc_pure m s) ?_
  simp
  rcases leads_eq m s with ⟨k, hk, h1, h2⟩ | ⟨h1, h2⟩
  · rw [h1]
    have e : leads m s = namesOf (allIns m.funcs[k]) := by unfold leads; rw [h2]
    rw [e]
    refine ⟨fun h => by omega, fun _ => ⟨⟨by omega, by omega⟩, ?_⟩⟩
    simp only [Int.toNat_natCast, getD_some hk]
    refine call_plain (ds := [.agg (funcC m.funcs[k])]) _ (by simp) (by simp) (fun _ => rfl) (fun _ => refRefs_pure m.funcs[k] (by have := hm.ins _ (List.getElem_mem hk); omega)) ?_
    simp
  · rw [h1]
    have e : leads m s = [] := by unfold leads; rw [h2]
    rw [e]
    exact ⟨fun _ => strsD_nil, fun h => by omega⟩

set_option maxRecDepth 10000 in
theorem calls11_pure (m : Module) (hm : Small m) (s : ByteArray) : APure Try.prog 30 [.agg (moduleC m), .str s] (strsD (callsL m s)) := by
  refine apureG _ _ Try.func30 (by kernel_rfl) t_marlineref11_Calls u_marlineref11_Calls rfl rfl (fun _ => ?_)
  simp [c_marlineref11_Calls, r_marlineref11_Calls]
  refine call_plain (ds := [.agg (moduleC m), .str s]) _ (by simp) (by simp) (fun _ => rfl) (fun _ => findFunc_pure m s) ?_
  simp
  rcases leads_eq m s with ⟨fi, hk, h1, h2⟩ | ⟨h1, h2⟩
  · rw [h1]
    have e : callsL m s = onceL (callsI (allIns m.funcs[fi])) := by unfold callsL; rw [h2]
    rw [e]
    obtain ⟨f, hf⟩ : ∃ f, m.funcs[fi] = f := ⟨_, rfl⟩
    have hfm : f ∈ m.funcs := by rw [← hf]; exact List.getElem_mem hk
    have hfi := hm.ins f hfm
    have hfb := hm.blks f hfm
    have hfx : m.funcs[fi]?.getD default = f := by rw [getD_some hk, hf]
    rw [hf]
    refine ⟨fun h => by omega, fun _ => ?_⟩
    refine loop_s (κ := Nat) (fun k => k ≤ f.blocks.length) (fun k => f.blocks.length - k) (fun k => [(sl 7, .int k), (sl 6, .own 0 (onceL (callsI ((f.blocks.take k).flatMap (·.ins)))).length)])
      (fun k => [(0, .row 9 1 (onceL (callsI ((f.blocks.take k).flatMap (·.ins)))).length fun i => strC ((onceL (callsI ((f.blocks.take k).flatMap (·.ins))))[i]?.getD ⟨#[]⟩))]) 1 0 (srcs [(0, .nil)]) (by simp) (by simp [callsI, onceL]) ?_
    rintro k hk2
    simp [hk, hf]
    refine ⟨fun hlt => ?_, fun hge => ?_⟩
    · refine ⟨hlt, ?_⟩
      obtain ⟨b, hb⟩ : ∃ b, b = f.blocks[k] := ⟨_, rfl⟩
      have hbk : f.blocks[k]?.getD default = b := by rw [getD_some hlt, hb]
      have hcnt := cnt_succ hlt
      rw [← hb] at hcnt
      have hcl : cnt f (k + 1) ≤ (allIns f).length := by
        have e : allIns f = (f.blocks.take (k + 1)).flatMap (·.ins) ++ (f.blocks.drop (k + 1)).flatMap (·.ins) := by
          rw [← List.flatMap_append, List.take_append_drop]
          rfl
        rw [e, List.length_append]
        unfold cnt
        omega
      obtain ⟨l, hl0⟩ : ∃ l, l = callsI ((f.blocks.take k).flatMap (·.ins)) := ⟨_, rfl⟩
      have hll : l.length ≤ cnt f k := by rw [hl0]; exact callsI_length _
      rw [← hl0]
      simp only [hbk]
      refine loop_s (κ := Nat) (fun m => m ≤ b.ins.length) (fun m => b.ins.length - m) (fun m => [(sl 9, .int m), (sl 6, .own 0 (onceL (l ++ callsI (b.ins.take m))).length)])
        (fun m => [(0, .row 9 1 (onceL (l ++ callsI (b.ins.take m))).length fun i => strC ((onceL (l ++ callsI (b.ins.take m)))[i]?.getD ⟨#[]⟩))]) 1 0 (srcs [(0, .id 0)]) (by simp) (by simp [callsI]) ?_
      rintro j hj
      simp
      refine ⟨fun hml => ?_, fun hge => ?_⟩
      · have hlm : (callsI (b.ins.take j)).length ≤ j := Nat.le_trans (callsI_length _) (by simp; omega)
        have hol := onceL_le (l ++ callsI (b.ins.take j))
        rw [List.length_append] at hol
        obtain ⟨o, ho⟩ : ∃ o, onceL (l ++ callsI (b.ins.take j)) = o := ⟨_, rfl⟩
        simp only [ho]
        rw [ho] at hol
        refine ⟨hml, ?_⟩
        rw [getD_some hml]
        refine call_plain (ds := [strsD o, .str b.ins[j].name]) _ (by simp) (by simp) (fun _ => by simp; rfl) (fun _ => has_pure o b.ins[j].name) ?_
        simp
        refine ⟨hml, fun h14 hno => ?_, fun hor => ?_⟩
        · rw [getD_some hml] at h14
          have hs : onceL (l ++ callsI (b.ins.take (j + 1))) = o ++ [b.ins[j].name] := by
            rw [callsI_yes hml h14, ← List.append_assoc, onceL_snoc, ho, if_neg (by simp [hno])]
          rw [getD_some hml]
          refine ⟨hml, by omega, j + 1, by omega, by omega, srcs [(0, .id 34)], ?_⟩
          simp [SLeK, hs]
          exact ⟨DLe_int (wrap_succ (by omega)), fun i hi => appRow_str hi⟩
        · rw [getD_some hml] at hor
          have hs : onceL (l ++ callsI (b.ins.take (j + 1))) = o := by
            by_cases h14 : b.ins[j].op = 14
            · rw [callsI_yes hml h14, ← List.append_assoc, onceL_snoc, ho, if_pos (hor h14)]
            · rw [callsI_no hml h14, ho]
          refine ⟨j + 1, by omega, by omega, srcs [(0, .id 0)], ?_⟩
          simp [SLeK, hs]
          exact DLe_int (wrap_succ (by omega))
      · refine ⟨k + 1, by omega, by omega, srcs [(0, .id 0)], ?_⟩
        have e : callsI ((f.blocks.take (k + 1)).flatMap (·.ins)) = l ++ callsI b.ins := by
          rw [List.take_succ_eq_append_getElem hlt, List.flatMap_append, callsI_append, ← hl0, ← hb]
          simp
        rw [List.take_of_length_le hge]
        simp [SLeK, e]
        exact DLe_int (wrap_succ (by omega))
    · rw [List.take_of_length_le hge]
      exact DLe.refl _
  · rw [h1]
    have e : callsL m s = [] := by unfold callsL; rw [h2]
    rw [e]
    exact ⟨fun _ => strsD_nil, fun h => by omega⟩

/-- How far the search has come: i of the names were looked at. -/
structure BInv (m : Module) (r : ByteArray) (i : Nat) (l : List ByteArray) : Prop where
  le : i ≤ l.length
  root : r ∈ l
  nodup : l.Nodup
  sub : ∀ x ∈ l, x = r ∨ x ∈ namesM m
  rch : ∀ x ∈ l, Rch m [r] x
  out : ∀ j (h : j < l.length), j < i → ∀ y ∈ leads m l[j], y ∈ l
theorem BInv.len {m : Module} {r : ByteArray} {i : Nat} {l : List ByteArray} (h : BInv m r i l) : l.length ≤ m.funcs.length + m.globs.length + 1 := by
  have h1 := nodup_le (l' := r :: namesM m) h.nodup fun x hx => by
    rcases h.sub x hx with rfl | h'
    · simp
    · simp [h']
  rw [List.length_cons, namesM_length] at h1
  exact h1
theorem BInv.start (m : Module) (r : ByteArray) : BInv m r 0 [r] := ⟨by simp, by simp, by simp, fun x hx => .inl (by simpa using hx), fun x hx => .root hx, fun j h hj => by omega⟩
/-- One name more. -/
theorem BInv.add {m : Module} {r : ByteArray} {i : Nat} {l : List ByteArray} (h : BInv m r i l) {x : ByteArray} (hx : hasN l x = false) (hn : x ∈ namesM m) (hr : Rch m [r] x) : BInv m r i (l ++ [x]) := by
  have hxl : x ∉ l := fun h' => by rw [mem_hasN.2 h'] at hx; cases hx
  refine ⟨by simp; have := h.le; omega, by simp [h.root], List.nodup_append.2 ⟨h.nodup, by simp, fun a ha b hb e => ?_⟩, fun y hy => ?_, fun y hy => ?_, fun j hj hji y hy => ?_⟩
  · rw [List.mem_singleton.1 hb] at e
    exact hxl (e ▸ ha)
  · rcases List.mem_append.1 hy with hy | hy
    · exact h.sub y hy
    · rw [List.mem_singleton.1 hy]; exact .inr hn
  · rcases List.mem_append.1 hy with hy | hy
    · exact h.rch y hy
    · rw [List.mem_singleton.1 hy]; exact hr
  · have hjl : j < l.length := by have := h.le; omega
    rw [List.getElem_append_left hjl] at hy
    exact List.mem_append_left _ (h.out j hjl hji y hy)
theorem BInv.next {m : Module} {r : ByteArray} {i : Nat} {l : List ByteArray} (h : BInv m r i l) (hi : i < l.length) (ho : ∀ y ∈ leads m l[i], y ∈ l) : BInv m r (i + 1) l :=
  ⟨hi, h.root, h.nodup, h.sub, h.rch, fun j hj hji y hy => by
    by_cases e : j = i
    · subst e; exact ho y hy
    · exact h.out j hj (by omega) y hy⟩
theorem BInv.done {m : Module} {r : ByteArray} {l : List ByteArray} (h : BInv m r l.length l) (s : ByteArray) : s ∈ l ↔ Rch m [r] s := by
  refine ⟨h.rch s, fun hs => ?_⟩
  induction hs with
  | root hx => rw [List.mem_singleton.1 hx]; exact h.root
  | step _ ht ih =>
    obtain ⟨j, hj, rfl⟩ := List.getElem_of_mem ih
    exact h.out j hj hj _ ht

theorem leads_names {m : Module} (h : ModOk m) {s t : ByteArray} (ht : t ∈ leads m s) : t ∈ namesM m := by
  obtain ⟨f, hf, _, h3⟩ := leads_some ht
  obtain ⟨i, hi, rfl⟩ := List.mem_map.1 h3
  obtain ⟨h4, h5⟩ := List.mem_filter.1 hi
  rcases isNamed_iff.1 h5 with h6 | h6 | h6
  · obtain ⟨g, hg, hn⟩ := hasG_iff.1 ((missI_false (h.miss i (mem_insM hf h4))).2 (.inl h6))
    rw [← hn]; exact gname_mem hg
  · obtain ⟨g, hg, hn⟩ := hasG_iff.1 ((missI_false (h.miss i (mem_insM hf h4))).2 (.inr h6))
    rw [← hn]; exact gname_mem hg
  · obtain ⟨g, hg, hn, _⟩ := h.call (mem_insM hf h4) h6
    rw [← hn]; exact fname_mem hg

theorem leads_len {m : Module} (hm : Small m) (s : ByteArray) : (leads m s).length ≤ 1048576 := by
  unfold leads
  split
  · simp
  · rename_i f hf
    have h1 := namesOf_length (allIns f)
    have h2 := hm.ins f (List.mem_of_find?_eq_some hf)
    omega
def flO (l : List ByteArray) (m : Module) (k : Nat) : List ByteArray := onceL (((namesM m).take k).filter fun s => hasN l s)
@[simp] theorem flO_zero (l : List ByteArray) (m : Module) : flO l m 0 = [] := rfl
theorem flO_succ {l : List ByteArray} {m : Module} {k : Nat} (hk : k < (namesM m).length) : flO l m (k + 1) = if hasN l (namesM m)[k] = true ∧ hasN (flO l m k) (namesM m)[k] = false then flO l m k ++ [(namesM m)[k]] else flO l m k := by
  unfold flO
  rw [List.take_succ_eq_append_getElem hk, List.filter_append]
  cases h : hasN l (namesM m)[k] with
  | true =>
    simp only [List.filter_cons, h, List.filter_nil, if_true, onceL_snoc]
    cases h2 : hasN (onceL (((namesM m).take k).filter fun s => hasN l s)) (namesM m)[k] <;> simp
  | false => simp [h]
theorem flO_length (l : List ByteArray) (m : Module) (k : Nat) : (flO l m k).length ≤ k := by
  have h1 := onceL_le (((namesM m).take k).filter fun s => hasN l s)
  have h2 := List.length_filter_le (fun s => hasN l s) ((namesM m).take k)
  simp at h2
  unfold flO
  omega

set_option maxRecDepth 10000 in
theorem from11_pure (m : Module) (hm : Small m) (hok : ModOk m) (r : ByteArray) : APure Try.prog 31 [.agg (moduleC m), strsD [r]] (strsD (onceL ((namesM m).filter fun s => hasN (reachL m [r]) s))) := by
  refine apureG _ _ Try.func31 (by kernel_rfl) t_marlineref11_From u_marlineref11_From rfl rfl (fun _ => ?_)
  have hlm := hm.len
  simp [c_marlineref11_From, r_marlineref11_From]
  refine loop_s (κ := Nat × List ByteArray) (fun q => BInv m r q.1 q.2) (fun q => m.funcs.length + m.globs.length + 1 - q.1) (fun q => [(sl 6, .int q.1), (sl 5, .own 0 q.2.length)])
    (fun q => [(0, .row 9 1 q.2.length fun j => strC (q.2[j]?.getD ⟨#[]⟩))]) 1 (0, [r]) (srcs [(0, .id 4)]) (BInv.start m r) (by simp) ?_
  rintro ⟨i, l⟩ hI
  have hll := hI.len
  simp at hI hll ⊢
  refine ⟨fun hlt => ⟨hlt, ?_⟩, fun hge => ?_⟩
  · rw [getD_some hlt]
    refine call_plain (ds := [.agg (moduleC m), .str l[i]]) _ (by simp) (by simp) (fun _ => rfl) (fun _ => refs11_pure m hm l[i]) ?_
    simp
    obtain ⟨N, hN⟩ : ∃ N, leads m l[i] = N := ⟨_, rfl⟩
    have hNl : N.length ≤ 1048576 := by rw [← hN]; exact leads_len hm _
    simp only [hN]
    refine loop_s (κ := Nat × List ByteArray) (fun q => q.1 ≤ N.length ∧ BInv m r i q.2 ∧ q.2[i]? = some l[i] ∧ ∀ y ∈ N.take q.1, y ∈ q.2) (fun q => N.length - q.1) (fun q => [(sl 8, .int q.1), (sl 5, .own 0 q.2.length)])
      (fun q => [(0, .row 9 1 q.2.length fun j => strC (q.2[j]?.getD ⟨#[]⟩))]) 1 (0, l) (srcs [(0, .id 0)]) ⟨by simp, hI, by simp [hlt], by simp⟩ (by simp) ?_
    rintro ⟨k, l'⟩ ⟨h1, hI', h3, h4⟩
    have hll' := hI'.len
    simp at h1 h3 h4 hI' hll' ⊢
    refine ⟨fun hkl => ⟨hkl, ?_⟩, fun hge => ?_⟩
    · rw [getD_some hkl]
      refine call_plain (ds := [strsD l', .str N[k]]) _ (by simp) (by simp) (fun _ => by simp; rfl) (fun _ => has_pure l' N[k]) ?_
      simp
      have hxm : N[k] ∈ leads m l[i] := by rw [hN]; exact List.getElem_mem _
      have htk : N.take (k + 1) = N.take k ++ [N[k]] := List.take_succ_eq_append_getElem hkl
      refine ⟨fun hno => ?_, fun hyes => ?_⟩
      · refine ⟨hkl, by omega, k + 1, l' ++ [N[k]], ⟨by omega, hI'.add hno (leads_names hok hxm) (.step (hI.rch _ (List.getElem_mem hlt)) hxm), ?_, fun y hy => ?_⟩, by omega, srcs [(0, .id 20)], ?_⟩
        · rw [List.getElem?_append_left (by have := (List.getElem?_eq_some_iff.1 h3).1; omega)]
          exact h3
        · rw [htk] at hy
          rcases List.mem_append.1 hy with hy | hy
          · exact List.mem_append_left _ (h4 y hy)
          · exact List.mem_append_right _ hy
        · rw [getD_some hkl]
          simp [SLeK]
          exact ⟨DLe_int (wrap_succ (by omega)), fun i hi => appRow_str hi⟩
      · refine ⟨k + 1, l', ⟨by omega, hI', h3, fun y hy => ?_⟩, by omega, srcs [(0, .id 0)], ?_⟩
        · rw [htk] at hy
          rcases List.mem_append.1 hy with hy | hy
          · exact h4 y hy
          · rw [List.mem_singleton.1 hy]; exact mem_hasN.1 hyes
        · simp [SLeK]
          exact DLe_int (wrap_succ (by omega))
    · obtain ⟨hi', he'⟩ := List.getElem?_eq_some_iff.1 h3
      rw [List.take_of_length_le hge] at h4
      refine ⟨i + 1, l', hI'.next hi' (fun y hy => h4 y (by rw [he', hN] at hy; exact hy)), by omega, srcs [(0, .id 0)], ?_⟩
      simp [SLeK]
      exact DLe_int (wrap_succ (by omega))
  have hil : i = l.length := by have := hI.le; omega
  subst hil
  have hp : ∀ s, hasN l s = hasN (reachL m [r]) s := fun s => by
    rw [Bool.eq_iff_iff, mem_hasN, mem_hasN, hI.done]; exact (reachL_iff m [r] s).symm
  have hnl := namesM_length m
  refine loop_s (κ := Nat) (fun k => k ≤ (namesM m).length) (fun k => (namesM m).length - k) (fun k => [(sl 11, .int k), (sl 5, .own 0 l.length), (sl 10, .own 1 (flO l m k).length)])
    (fun k => [(0, .row 9 1 l.length fun j => strC (l[j]?.getD ⟨#[]⟩)), (1, .row 9 1 (flO l m k).length fun j => strC ((flO l m k)[j]?.getD ⟨#[]⟩))]) 2 0 (srcs [(0, .id 0), (1, .nil)]) (by simp) (by simp) ?_
  rintro k hk
  simp
  rw [show IntKind.i64.wrap ((m.funcs.length : Int) + (m.globs.length : Int)) = (m.funcs.length : Int) + (m.globs.length : Int) from wrap_in (by omega)]
  refine ⟨fun hlt => ⟨fun hf => ⟨hf, ?_⟩, fun hf => ?_⟩, fun hge => ?_⟩
  · have hkn : k < (namesM m).length := by omega
    rw [getD_some hf]
    obtain ⟨x, hx⟩ : ∃ x, m.funcs[k].name = x := ⟨_, rfl⟩
    simp only [hx]
    have hxe : (namesM m)[k] = x := by rw [← hx]; simp [namesM, fnames, hf]
    refine call_plain (ds := [strsD l, .str x]) _ (by simp) (by simp) (fun _ => by simp) (fun _ => has_pure l x) ?_
    simp
    have hol := flO_length l m k
    have hsucc := flO_succ (l := l) hkn
    rw [hxe] at hsucc
    obtain ⟨o, ho⟩ : ∃ o, flO l m k = o := ⟨_, rfl⟩
    rw [ho] at hsucc hol
    simp only [ho]
    refine call_plain (ds := [strsD o, .str x]) _ (by simp) (by simp) (fun _ => by simp) (fun _ => has_pure o x) ?_
    simp
    refine ⟨fun h1 h2 => ?_, fun h => ?_⟩
    · rw [if_pos ⟨h1, h2⟩] at hsucc
      refine ⟨by omega, k + 1, by omega, by omega, srcs [(0, .id 0), (1, .id 40)], ?_⟩
      simp [SLeK, hsucc]
      exact ⟨DLe_int (wrap_succ (by omega)), fun i hi => appRow_str hi⟩
    · rw [if_neg (by rintro ⟨h1, h2⟩; rw [h h1] at h2; cases h2)] at hsucc
      refine ⟨k + 1, by omega, by omega, srcs [(0, .id 0), (1, .id 1)], ?_⟩
      simp [SLeK, hsucc]
      exact DLe_int (wrap_succ (by omega))
  · have hkn : k < (namesM m).length := by omega
    have hkg : k - m.funcs.length < m.globs.length := by omega
    rw [show IntKind.i64.wrap ((k : Int) - (m.funcs.length : Int)) = ((k - m.funcs.length : Nat) : Int) from by rw [wrap_in (by omega)]; omega]
    refine ⟨⟨by omega, by omega⟩, ?_⟩
    simp only [Int.toNat_natCast]
    rw [getD_some hkg]
    obtain ⟨x, hx⟩ : ∃ x, m.globs[k - m.funcs.length].name = x := ⟨_, rfl⟩
    simp only [hx]
    have hxe : (namesM m)[k] = x := by rw [← hx]; simp [namesM, fnames, gnames, List.getElem_append_right, hf]
    refine call_plain (ds := [strsD l, .str x]) _ (by simp) (by simp) (fun _ => by simp) (fun _ => has_pure l x) ?_
    simp
    have hol := flO_length l m k
    have hsucc := flO_succ (l := l) hkn
    rw [hxe] at hsucc
    obtain ⟨o, ho⟩ : ∃ o, flO l m k = o := ⟨_, rfl⟩
    rw [ho] at hsucc hol
    simp only [ho]
    refine call_plain (ds := [strsD o, .str x]) _ (by simp) (by simp) (fun _ => by simp) (fun _ => has_pure o x) ?_
    simp
    refine ⟨fun h1 h2 => ?_, fun h => ?_⟩
    · rw [if_pos ⟨h1, h2⟩] at hsucc
      refine ⟨by omega, k + 1, by omega, by omega, srcs [(0, .id 0), (1, .id 44)], ?_⟩
      simp [SLeK, hsucc]
      exact ⟨DLe_int (wrap_succ (by omega)), fun i hi => appRow_str hi⟩
    · rw [if_neg (by rintro ⟨h1, h2⟩; rw [h h1] at h2; cases h2)] at hsucc
      refine ⟨k + 1, by omega, by omega, srcs [(0, .id 0), (1, .id 1)], ?_⟩
      simp [SLeK, hsucc]
      exact DLe_int (wrap_succ (by omega))
  · have e : flO l m k = onceL ((namesM m).filter fun s => hasN (reachL m [r]) s) := by
      unfold flO
      rw [List.take_of_length_le (by omega)]
      congr 1
      exact List.filter_congr fun s _ => hp s
    rw [e]
    exact DLe.refl _

set_option maxRecDepth 10000 in
theorem reachOrder_pure (m : Module) (hm : Small m) : APure Try.prog 7 [.agg (moduleC m)] (.bool true) := by
  refine apureG _ _ Try.func7 (by kernel_rfl) t_marlinelaw11_ReachOrder u_marlinelaw11_ReachOrder rfl rfl (fun _ => ?_)
  have hlm := hm.len
  simp [c_marlinelaw11_ReachOrder, r_marlinelaw11_ReachOrder]
  refine call_plain (ds := []) _ (by simp) (by simp) (fun _ => rfl) (fun _ => shown11_pure) ?_
  simp
  refine call_plain (ds := [.agg (moduleC m)]) _ (by simp) (by simp) (fun _ => rfl) (fun _ => few_pure m hm.len) ?_
  simp
  refine call_plain (ds := [.agg (moduleC m)]) _ (by simp) (by simp) (fun _ => rfl) (fun _ => deepest_pure m hm) ?_
  simp
  refine call_plain (ds := [.agg (moduleC m)]) _ (by simp) (by simp) (fun _ => rfl) (fun _ => refCheck_pure m hm.args) ?_
  simp
  intro hfew hz
  have hok := checkE_zero.1 hz
  have hdl := deep_length hok
  have hnd := deep_nodup m
  have hord := @deep_order m
  obtain ⟨D, hD⟩ : ∃ D, deepL m = D := ⟨_, rfl⟩
  simp only [hD] at hdl hnd hord ⊢
  refine ⟨fun h => absurd (by omega) h, fun _ => ?_⟩
  refine loop_s (κ := Nat) (fun i => i ≤ D.length) (fun i => D.length - i) (fun i => [(sl 6, .int i)]) (fun _ => []) 0 0 (srcs []) (by simp) (by simp) ?_
  rintro i hi
  simp
  intro hlt
  refine ⟨hlt, ?_⟩
  rw [getD_some hlt]
  refine call_plain (ds := [.agg (moduleC m), .str D[i]]) _ (by simp) (by simp) (fun _ => rfl) (fun _ => calls11_pure m hm D[i]) ?_
  simp
  refine loop_s (κ := Nat) (fun k => k ≤ D.length) (fun k => D.length - k) (fun k => [(sl 8, .int k)]) (fun _ => []) 0 0 (srcs []) (by simp) (by simp) ?_
  rintro k hk
  simp
  refine ⟨fun hkl => ?_, fun hge => ?_⟩
  · refine ⟨fun h => ⟨h, hkl⟩, fun h => ⟨h, hlt⟩, fun h1 h2 => ?_, fun _ => ⟨hkl, ?_⟩⟩
    · rw [getD_some hkl, getD_some hlt] at h2
      exact absurd ((List.getElem_inj hnd).1 h2) (by omega)
    rw [getD_some hkl]
    refine call_plain (ds := [strsD (callsL m D[i]), .str D[k]]) _ (by simp) (by simp) (fun _ => rfl) (fun _ => has_pure (callsL m D[i]) D[k]) ?_
    simp
    refine ⟨hkl, ?_⟩
    rw [getD_some hkl]
    refine call_arg (ds := ?ds1) (from11_pure m hm hok D[k]) (by simp) (by simp) ?hd1 ?hle1 ?h1
    case hd1 => intro _; simp; rfl
    case hle1 =>
      intro _
      refine ⟨DLe.refl _, DLe.sl fun j hj => ?_, trivial⟩
      obtain rfl : j = 0 := by omega
      rfl
    simp
    refine ⟨hlt, ?_⟩
    rw [getD_some hlt]
    obtain ⟨F, hF⟩ : ∃ F, onceL ((namesM m).filter fun s => hasN (reachL m [D[k]]) s) = F := ⟨_, rfl⟩
    simp only [hF]
    refine call_plain (ds := [strsD F, .str D[i]]) _ (by simp) (by simp) (fun _ => rfl) (fun _ => has_pure F D[i]) ?_
    simp
    have hDi : D[i] ∈ namesM m := List.mem_append_left _ (deep_mem (by rw [hD]; exact List.getElem_mem _))
    have hFi : hasN F D[i] = true ↔ Rch m [D[k]] D[i] := by
      rw [mem_hasN, ← hF, onceL_mem, List.mem_filter, mem_hasN]
      exact (and_iff_right hDi).trans (reachL_iff m [D[k]] D[i])
    refine ⟨fun h1 h2 h3 => ?_, fun _ => ?_⟩
    · have := hord hlt hkl (mem_hasN.1 h1) (fun h => by rw [hFi.2 h] at h2; cases h2)
      omega
    · refine ⟨k + 1, by omega, by omega, srcs [], ?_⟩
      simp [SLeK]
      exact DLe_int (wrap_succ (by omega))
  · refine ⟨i + 1, by omega, by omega, srcs [], ?_⟩
    simp [SLeK]
    exact DLe_int (wrap_succ (by omega))

end Go.Proofs.Ytifinpijhbkhnaa
