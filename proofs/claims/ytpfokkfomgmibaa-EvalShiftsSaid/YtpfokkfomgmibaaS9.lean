/- Contracts by the evaluator: layer 7, a run. -/
import Derived.Test.YtpfokkfomgmibaaS8
import Derived.Test.YtpfokkfomgmibaaSW
import Derived.Test.YtpfokkfomgmibaaSD
namespace Go.Proofs.Ytpfokkfomgmibaa
open Go.RowKit

/-- Numbers of a module are such of 64 bits. -/
def KOk (m : Module) : Prop := (∀ f ∈ m.funcs, ∀ b ∈ f.blocks, ∀ i ∈ b.ins, i.k < 18446744073709551616) ∧ ∀ g ∈ m.globs, g.init < 18446744073709551616

/-- What comes of a run whose top call comes to r. -/
def unwind (m : Module) (inp : ByteArray) (fuel deep : Nat) : Wd × Int → List Fr → Wd × Int
  | r, [] => r
  | r, fr :: rest => if r.1.bad ≠ 0 then (r.1, 0) else unwind m inp fuel deep (goF m inp fuel deep r.1 fr.f fr.blk fr.pos (fr.vals ++ [r.2]) (rest.length + 1)) rest
theorem unwind_bad {m : Module} {inp : ByteArray} {fuel deep : Nat} {w : Wd} (h : w.bad ≠ 0) : ∀ lo, unwind m inp fuel deep (w, 0) lo = (w, 0)
  | [] => rfl
  | fr :: rest => by unfold unwind; rw [if_pos h]

def FrIn (m : Module) (d : Nat) (fr : Fr) : Prop := fr.f ∈ m.funcs ∧ (∃ b, fr.f.blocks[fr.blk]? = some b ∧ fr.pos ≤ b.ins.length ∧ (fr.vals.length : Int) + d = b.params + fr.pos) ∧ ∀ v ∈ fr.vals, u64In v

/-- What holds ahead of each step. -/
structure MOk (m : Module) (inp : ByteArray) (fuel deep : Nat) (R : Wd × Int) (q : Wd × Fr × List Fr) : Prop where
  good : Good m fuel q.1
  glob : ∀ v ∈ q.1.globs, u64In v
  top : FrIn m 0 q.2.1
  lo : ∀ fr ∈ q.2.2, FrIn m 1 fr
  n : q.2.2.length + 1 ≤ deep
  fin : unwind m inp fuel deep (goF m inp fuel deep q.1 q.2.1.f q.2.1.blk q.2.1.pos q.2.1.vals (q.2.2.length + 1)) q.2.2 = R

def putG (s : MapW) (g : Glob) : MapW := (if (s.2 (.string g.name)).isSome then s.1 else s.1 + 1, mset s.2 (.string g.name) (.int .u64 g.init))
def putGs (s : MapW) (l : List Glob) : MapW := l.foldl putG s
theorem putGs_succ {s : MapW} {l : List Glob} {k : Nat} (hk : k < l.length) : putGs s (l.take (k + 1)) = putG (putGs s (l.take k)) l[k] := by
  unfold putGs
  rw [List.take_succ_eq_append_getElem hk, List.foldl_append]
  rfl
theorem putG_get (s : MapW) (g : Glob) (y : ByteArray) : (putG s g).2 (.string y) = if g.name = y then some (.int .u64 g.init) else s.2 (.string y) := by
  simp only [putG, mset, keq_T]
  by_cases h : g.name = y <;> simp [h]
theorem putGs_not : ∀ (l : List Glob) (s : MapW) (x : ByteArray), x ∉ l.map (·.name) → (putGs s l).2 (.string x) = s.2 (.string x)
  | [], s, x, _ => rfl
  | p :: l, s, x, h => by
    simp only [List.map_cons, List.mem_cons, not_or] at h
    show (putGs (putG s p) l).2 _ = _
    rw [putGs_not l _ x h.2, putG_get, if_neg (Ne.symm h.1)]
theorem putGs_mem : ∀ (l : List Glob) (s : MapW) (g : Glob), (l.map (·.name)).Nodup → g ∈ l → (putGs s l).2 (.string g.name) = some (.int .u64 g.init)
  | [], s, g, _, h => by cases h
  | p :: l, s, g, hn, h => by
    simp only [List.map_cons, List.nodup_cons] at hn
    show (putGs (putG s p) l).2 _ = _
    rcases List.mem_cons.1 h with h | h
    · subst h
      rw [putGs_not l _ _ hn.1, putG_get, if_pos rfl]
    · exact putGs_mem l _ g hn.2 h
theorem putGs_len : ∀ (l : List Glob) (s : MapW), (l.map (·.name)).Nodup → (∀ g ∈ l, s.2 (.string g.name) = none) → (putGs s l).1 = s.1 + l.length
  | [], s, _, _ => rfl
  | p :: l, s, hn, h => by
    simp only [List.map_cons, List.nodup_cons] at hn
    show (putGs (putG s p) l).1 = _
    rw [putGs_len l _ hn.2 (fun g hg => by
      rw [putG_get, if_neg (fun e => hn.1 (by rw [e]; exact List.mem_map.2 ⟨g, hg, rfl⟩))]
      exact h g (by simp [hg]))]
    have : (putG s p).1 = s.1 + 1 := by
      simp [putG, h p (by simp)]
    rw [this, List.length_cons]
    omega
theorem putGs_all {m : Module} (hn : (m.globs.map (·.name)).Nodup) : (putGs (0, fun _ => none) m.globs).1 = m.globs.length ∧ ∀ k, kdOk .string k = true → (putGs (0, fun _ => none) m.globs).2 k = gmap m (startW m).globs k := by
  refine ⟨by rw [putGs_len _ _ hn (fun _ _ => rfl)]; simp, fun k hk => ?_⟩
  cases k with
  | string s =>
    simp only [gmap]
    by_cases hh : hasG m.globs s = true
    · rw [if_pos hh]
      obtain ⟨g, hg, rfl⟩ := hasG_iff.1 hh
      have h0 : 0 ≤ globI m g.name := by
        have := findI_ge (fun q : Glob => decide (q.name = g.name)) m.globs
        have h3 : decide (0 ≤ globI m g.name) = true := by rw [show globI m g.name = findI (fun q : Glob => decide (q.name = g.name)) m.globs from rfl, this]; exact hh
        simpa using h3
      obtain ⟨i, hi, e1, e2⟩ := globJ_at h0
      rw [← e2, putGs_mem _ _ _ hn (List.getElem_mem hi), e2, e1]
      simp [valAt, startW, hi]
    · rw [if_neg hh, putGs_not _ _ _ (fun h => hh ?_)]
      obtain ⟨g, hg, he⟩ := List.mem_map.1 h
      exact hasG_iff.2 ⟨g, hg, he⟩
  | _ => cases hk

def tau0 : Nat → Nat := fun i => if i = 999999 then 35 else if i = 1000000 then 26 else if i = 1000001 then 24 else i

/-- Where objects come from: those of open calls from themselves. -/
def srcF (n : Nat) (l : List (Nat × Src)) : Nat → Src := fun i => if 100 ≤ i ∧ i < 100 + 2 * n then .id i else srcs l i

theorem srcF_fid {n k : Nat} {l : List (Nat × Src)} (h : k < n) : srcF n l (fid 0 k) = .id (fid 0 k) ∧ srcF n l (vid 0 k) = .id (vid 0 k) := by
  unfold srcF fid vid
  rw [if_pos (by omega), if_pos (by omega)]
  exact ⟨rfl, rfl⟩
theorem srcF_lit {n i : Nat} {l : List (Nat × Src)} (h : i < 100) : srcF n l i = srcs l i := by
  unfold srcF
  rw [if_neg (by omega)]
theorem srcF_out {n i : Nat} {l : List (Nat × Src)} (h : 100 + 2 * n ≤ i) : srcF n l i = srcs l i := by
  unfold srcF
  rw [if_neg (by omega)]
theorem srcs_mem {l : List (Nat × Src)} {i : Nat} {s : Src} (h : srcs l i = s) (hs : s ≠ .none) : (i, s) ∈ l ∨ (1000000 ≤ i ∧ s = .id i) := by
  induction l with
  | nil =>
    simp only [srcs] at h
    split at h
    · exact .inr ⟨by assumption, h.symm⟩
    · exact absurd h.symm hs
  | cons p l ih =>
    obtain ⟨j, t⟩ := p
    simp only [srcs] at h
    split at h
    · rename_i e
      subst e; subst h
      exact .inl (by simp)
    · rcases ih h with h | h
      · exact .inl (by simp [h])
      · exact .inr h
theorem srcF_apart {n : Nat} {l : List (Nat × Src)} {L : List (Nat × AObj)} (h1 : ∀ i j k, (i, Src.id k) ∈ l → (j, Src.id k) ∈ l → i = j) (h2 : ∀ i k, (i, Src.id k) ∈ l → k < 1000000 ∧ ¬ (100 ≤ k ∧ k < 100 + 2 * n)) (hn : n ≤ 64) : srcApart (srcF n l) L := by
  have key : ∀ i k, srcF n l i = .id k → ((100 ≤ i ∧ i < 100 + 2 * n) ∧ k = i) ∨ (i, Src.id k) ∈ l ∨ (1000000 ≤ i ∧ k = i) := by
    intro i k h
    unfold srcF at h
    split at h
    · rename_i hi
      injection h with h
      exact .inl ⟨hi, h.symm⟩
    · rcases srcs_mem h (by simp) with h | ⟨h, e⟩
      · exact .inr (.inl h)
      · injection e with e
        exact .inr (.inr ⟨h, e⟩)
  refine srcApart_inj fun i j k o o' _ _ hi hj => ?_
  rcases key i k hi with ⟨a1, a2⟩ | a | ⟨a1, a2⟩ <;> rcases key j k hj with ⟨b1, b2⟩ | b | ⟨b1, b2⟩
  · omega
  · have := h2 j k b; omega
  · omega
  · have := h2 i k a; omega
  · exact h1 i j k a b
  · have := h2 i k a; omega
  · omega
  · have := h2 j k b; omega
  · omega
theorem srcF_end {n N : Nat} {l : List (Nat × Src)} (hn : 100 + 2 * n ≤ N) (hN : N ≤ 1000000) (h : ∀ i s, (i, s) ∈ l → i < N) : SrcEnd (srcF n l) N := by
  refine ⟨fun i h1 h2 => ?_, fun i h1 => ?_⟩
  · rw [srcF_out (by omega)]
    cases hs : srcs l i with
    | none => rfl
    | _ =>
      rcases srcs_mem hs (by simp) with h3 | ⟨h3, _⟩
      · have := h i _ h3; omega
      · omega
  · rw [srcF_out (by omega)]
    cases hs : srcs l i with
    | none =>
      exfalso
      have : ∀ l : List (Nat × Src), (∀ i s, (i, s) ∈ l → i < N) → srcs l i = .id i := by
        intro l
        induction l with
        | nil => intro _; simp only [srcs]; rw [if_pos h1]
        | cons p l ih =>
          intro h
          simp only [srcs]
          rw [if_neg (by have := h p.1 p.2 (by simp); omega)]
          exact ih fun i s hm => h i s (by simp [hm])
      rw [this l h] at hs
      cases hs
    | id k =>
      rcases srcs_mem hs (by simp) with h3 | ⟨_, h3⟩
      · have := h i _ h3; omega
      · exact h3
    | nil =>
      rcases srcs_mem hs (by simp) with h3 | ⟨_, h3⟩
      · have := h i _ h3; omega
      · cases h3

theorem HLe_run2 {M : Rws} {g : Nat → Src} {H : Heap} {b : Nat} {m : Module} {inp : ByteArray} {w : Wd} {top : Fr} {lo : List Fr} {i0 i1 i2 i3 i4 : Nat} {cs0 cs3 : List AV} {f : Value → Option Value} {row2 : Nat → List AV} {row4 : Nat → List DV}
    (e0 : g b = .id i0) (e1 : g (b + 1) = .id i1) (e2 : g (b + 2) = .id i2) (e3 : g (b + 3) = .id i3) (e4 : g (b + 4) = .id i4)
    (h0 : hget H i0 = some (.box cs0)) (c0 : cellsLe M g cs0 (runC b m inp (.own (b + 2) (lo.length + 1)) w)) (h1 : hget H i1 = some (.map .string m.globs.length f)) (c1 : ∀ k, kdOk .string k = true → f k = gmap m w.globs k)
    (h2 : hget H i2 = some (.vec 75 1 (lo.length + 1) row2)) (c2 : ∀ i, i < lo.length + 1 → cellsLe M g (row2 i) (ptrR b (lo.length + 1) i)) (h3 : hget H i3 = some (.box cs3)) (c3 : cellsLe M g cs3 (frC top (.own (b + 4) top.vals.length)))
    (h4 : hget H i4 = some (.row 29 1 top.vals.length row4)) (c4 : ∀ i, i < top.vals.length → row4 i = valsR top.vals i) : HLe M g H (LRun b m inp w top lo) := by
  simp only [LRun, HLe_cons, e0, e1, e2, e3, e4, h0, h1, h2, h3, h4]
  exact ⟨⟨.inl rfl, c0⟩, ⟨rfl, rfl, c1⟩, ⟨rfl, rfl, rfl, c2⟩, ⟨.inl rfl, c3⟩, ⟨rfl, rfl, rfl, c4⟩, trivial⟩

theorem wrapU_in (n : Int) : u64In (wrapU n) := by
  unfold wrapU u64In
  rw [wrap_u64]
  omega
theorem reckI_in (op a b : Int) : u64In (reckI op a b) := by
  unfold reckI
  repeat' split
  all_goals first | exact wrapU_in _ | exact ⟨by omega, by omega⟩
theorem valAt_in {l : List Int} (h : ∀ v ∈ l, u64In v) (i : Int) : u64In (valAt l i) := by
  unfold valAt
  cases hx : l[i.toNat]? with
  | none => exact ⟨by simp, by simp⟩
  | some v => exact h v (List.mem_of_getElem? hx)
theorem pickI_in {l : List Int} (h : ∀ v ∈ l, u64In v) (k : List Int) : ∀ v ∈ pickI l k, u64In v := by
  intro v hv
  obtain ⟨i, _, rfl⟩ := List.mem_map.1 hv
  exact valAt_in h i
theorem gives_in {m : Module} {inp : ByteArray} {x : Inst} {vals : List Int} {w : Wd} (hk : x.k < 18446744073709551616) (hv : ∀ v ∈ vals, u64In v) (hg : ∀ v ∈ w.globs, u64In v) : (∀ v ∈ (givesW m inp x vals w).1.globs, u64In v) ∧ u64In (givesW m inp x vals w).2 := by
  unfold givesW
  split
  · exact ⟨hg, by omega, by simp only []; omega⟩
  split
  · exact ⟨hg, valAt_in hg _⟩
  split
  · refine ⟨fun v hv' => ?_, by simp [u64In]⟩
    rcases List.mem_or_eq_of_mem_set hv' with h' | h'
    · exact hg v h'
    · rw [h']; exact valAt_in hv _
  split
  · split
    · exact ⟨hg, by simp [u64In]⟩
    · exact ⟨hg, wrapU_in _⟩
  split
  · exact ⟨hg, by simp [u64In]⟩
  · exact ⟨hg, reckI_in _ _ _⟩
theorem ptr_ren {c n d k i : Nat} : AV.ren.renL (tau2 d (tauC c k)) (ptrR 1000000 n i) = ptrR c n i := by
  unfold ptrR
  by_cases h : i + 1 = n
  · simp [-tau2, h, tau_3]
  · simp [-tau2, h, tauC_fid]
/-- Where a call's objects are; a: where its arguments' row is. -/
def tauE (c n a : Nat) : Nat → Nat := fun i => if i = 999999 then n else if i = 1000005 then a else i - 1000000 + c
theorem tauE_big {c n a d i : Nat} (h : 1000000 ≤ i) (h5 : i ≠ 1000005) : tau2 d (tauE c n a) i = i - 1000000 + c := by
  unfold tau2 tauE
  rw [if_neg (by omega), if_neg (by omega), if_neg h5]
theorem tauE_5 {c n a d : Nat} : tau2 d (tauE c n a) 1000005 = a := rfl
theorem tauE_fid {c n a d k : Nat} : tau2 d (tauE c n a) (fid 1000000 k) = fid c k ∧ tau2 d (tauE c n a) (vid 1000000 k) = vid c k := by
  rw [tauE_big (by unfold fid; omega) (by unfold fid; omega), tauE_big (by unfold vid; omega) (by unfold vid; omega)]
  unfold fid vid
  omega
theorem tauE_n {c n a d : Nat} : tau2 d (tauE c n a) 999999 = n := rfl
theorem tauE_n2 {c n a d : Nat} : tau2 d (tauE c n a) 999998 = d + 500000 := rfl
theorem tauE_0 {c n a d : Nat} : tau2 d (tauE c n a) 1000000 = c := by rw [tauE_big (by decide) (by decide)]; omega
theorem tauE_1 {c n a d : Nat} : tau2 d (tauE c n a) 1000001 = c + 1 := by rw [tauE_big (by decide) (by decide)]; omega
theorem tauE_2 {c n a d : Nat} : tau2 d (tauE c n a) 1000002 = c + 2 := by rw [tauE_big (by decide) (by decide)]; omega
theorem tauE_3 {c n a d : Nat} : tau2 d (tauE c n a) 1000003 = c + 3 := by rw [tauE_big (by decide) (by decide)]; omega
theorem tauE_4 {c n a d : Nat} : tau2 d (tauE c n a) 1000004 = c + 4 := by rw [tauE_big (by decide) (by decide)]; omega
theorem ptr_renE {c n d k a i : Nat} : AV.ren.renL (tau2 d (tauE c k a)) (ptrN 1000000 n i) = if i < n then ptrR c n i else [.ptr k 0] := by
  unfold ptrN ptrR
  by_cases h1 : i < n
  · rw [if_pos h1, if_pos h1]
    by_cases h : i + 1 = n
    · simp [-tau2, h, tauE_3]
    · simp [-tau2, h, tauE_fid]
  · rw [if_neg h1, if_neg h1]
    simp [-tau2, tauE_n]
theorem LRun_ids {m : Module} {inp : ByteArray} {w : Wd} {top : Fr} {lo : List Fr} {i : Nat} {o : AObj} (h : (i, o) ∈ LRun 1000000 m inp w top lo) : 1000000 ≤ i ∧ i ≤ 1000004 := by
  simp [LRun] at h
  omega
theorem LRun_out {m : Module} {inp : ByteArray} {w : Wd} {top : Fr} {lo : List Fr} {n : Nat} {i : Nat} {o : AObj} (h : (i, o) ∈ LRun 1000000 m inp w top lo) : 1000000 ≤ i ∧ ∀ k, k < n → i ≠ fid 1000000 k ∧ i ≠ vid 1000000 k := by
  have := LRun_ids h
  exact ⟨this.1, fun k _ => by unfold fid vid; omega⟩
theorem fam_ids {l : List Fr} {i : Nat} {o : AObj} (h : (i, o) ∈ fam 1000000 l) : 1000000 ≤ i := by
  obtain ⟨k, hk, he⟩ := fam_mem h
  unfold fid vid at he
  omega
theorem HLe_callE {H : Heap} {c n a d : Nat} {m : Module} {inp : ByteArray} {w : Wd} {top : Fr} {lo : List Fr} {k : Nat} {row row' : Nat → List DV}
    (h0 : hget H c = some (.box (runC c m inp (.own (c + 2) (lo.length + 1)) w))) (h1 : hget H (c + 1) = some (.map .string m.globs.length (gmap m w.globs))) (h2 : hget H (c + 2) = some (.vec 75 1 (lo.length + 1) (ptrR c (lo.length + 1))))
    (h3 : hget H (c + 3) = some (.box (frC top (.own (c + 4) top.vals.length)))) (h4 : hget H (c + 4) = some (.row 29 1 top.vals.length (valsR top.vals))) (h5 : hget H a = some (.row 29 1 k row)) (hr : ∀ i, i < k → row i = row' i)
    (hfam : ∀ i o, (i, o) ∈ fam c lo → hget H i = some o) :
    HLe noR (gOf (tau2 d (tauE c n a)) (LRun 1000000 m inp w top lo ++ [(1000005, .row 29 1 k row')] ++ fam 1000000 lo)) H (LRun 1000000 m inp w top lo ++ [(1000005, .row 29 1 k row')] ++ fam 1000000 lo) := by
  have hf := fun j (hj : j < lo.length) => gOf_fam (τ := tau2 d (tauE c n a)) (A := LRun 1000000 m inp w top lo ++ [(1000005, .row 29 1 k row')]) (b := 1000000) hj
  obtain ⟨g, hg⟩ : ∃ g, gOf (tau2 d (tauE c n a)) (LRun 1000000 m inp w top lo ++ [(1000005, .row 29 1 k row')] ++ fam 1000000 lo) = g := ⟨_, rfl⟩
  have e0 : g 1000000 = .id c := by rw [← hg, gOf_in (by simp [LRun]), tauE_0]
  have e1 : g 1000001 = .id (c + 1) := by rw [← hg, gOf_in (by simp [LRun]), tauE_1]
  have e2 : g 1000002 = .id (c + 2) := by rw [← hg, gOf_in (by simp [LRun]), tauE_2]
  have e3 : g 1000003 = .id (c + 3) := by rw [← hg, gOf_in (by simp [LRun]), tauE_3]
  have e4 : g 1000004 = .id (c + 4) := by rw [← hg, gOf_in (by simp [LRun]), tauE_4]
  have e5 : g 1000005 = .id a := by rw [← hg, gOf_in (by simp [LRun]), tauE_5]
  rw [hg] at hf ⊢
  refine HLe_append.2 ⟨HLe_append.2 ⟨HLe_run e0 e1 e2 e3 e4 (fun j hj => ?_) h0 h1 h2 h3 h4, ?_⟩, HLe_fam (fun j hj => ?_) hfam⟩
  · rw [(hf j hj).1, tauE_fid.1]
  · simp only [HLe_cons, e5, h5]
    exact ⟨⟨rfl, rfl, rfl, hr⟩, trivial⟩
  · rw [(hf j hj).1, (hf j hj).2, tauE_fid.1, tauE_fid.2]
    exact ⟨rfl, rfl⟩
theorem hdel_fam3 {b i : Nat} {l : List Fr} (h : b + 100 + 2 * l.length ≤ i) : hdel (hof (fam b l)) i = hof (fam b l) := by
  funext k
  unfold hdel
  split
  · rename_i e
    subst e
    exact (hof_fam_none fun k hk => by unfold fid vid; omega).symm
  · rfl

set_option maxRecDepth 10000 in
set_option maxHeartbeats 2000000 in
theorem erun_pure (m : Module) (hm : ArgsOk m) (hko : KOk m) (inp : ByteArray) (fuel deep : Int) : APure Try.prog 12 [.agg (moduleC m), .str inp, .int fuel, .int deep] (.tup [.agg (traceC (runA m inp fuel deep)), .int (runA m inp fuel deep).bad]) := by
  refine apureG _ _ Try.func12 (by kernel_rfl) t_eval_Run u_eval_Run rfl rfl (fun _ => ?_)
  simp [c_eval_Run, r_eval_Run]
  have hno0 : ∀ e, (errW e).bad = e := fun _ => rfl
  refine ⟨fun h => DLe.of_eq ?_, fun h0 h1 h2 h3 => ?_⟩
  · have e : runA m inp fuel deep = errW 1 := if_pos (by omega)
    rw [e]
    rfl
  have hno : ¬ (fuel < 0 ∨ 100000 < fuel ∨ deep < 1 ∨ 64 < deep) := by omega
  refine call_plain (ds := [.agg (moduleC m)]) _ (by simp) (by simp) (fun _ => by simp; rfl) (fun _ => ewhole_pure m hm) ?_
  simp
  refine ⟨fun hz => DLe.of_eq ?_, fun hz => ?_⟩
  · have e : runA m inp fuel deep = errW (wholeE m) := by unfold runA; rw [if_neg hno, if_pos hz]
    rw [e]
    rfl
  have er : runA m inp fuel deep = runR m inp fuel.toNat deep.toNat := by unfold runA; rw [if_neg hno, if_neg (fun h => h hz)]
  rw [er]
  have hok : ModOk m := (wholeE_zero.1 hz).1
  have hng := hok.ng
  have hgn : (m.globs.map (·.name)).Nodup := (List.nodup_append.1 hok.names).2.1
  refine loop_s (κ := Nat) (fun k => k ≤ m.globs.length) (fun k => m.globs.length - k) (fun k => [(sl 47, .int k), (sl 42, .d .top)])
    (fun k => [(27, .box [.ptr 26 0]), (26, .box [.d (funcsD m.funcs), .d (globsD m.globs), .d (.str inp), .mp 24, .d (.lit (.slice none 0 0)), .d (.bool false), .d (.u64 0), .d (.str ⟨#[]⟩), .int 0, .int 0, .int 0]),
      (24, .map .string (putGs (0, fun _ => none) (m.globs.take k)).1 (putGs (0, fun _ => none) (m.globs.take k)).2), (1, .box ((traceC (errW 0)).map .d))]) 33 0 (srcs [(27, .id 27), (26, .id 26), (24, .id 24), (1, .id 1)]) (by simp) (by simp [putGs, errW]) ?_
  rintro k hk
  simp
  refine ⟨fun hlt => ⟨hlt, ?_⟩, fun hge => ?_⟩
  · rw [getD_some hlt]
    refine ⟨k + 1, by omega, by omega, srcs [(27, .id 27), (26, .id 26), (24, .id 24), (1, .id 1)], ?_⟩
    simp [SLeK, putGs_succ hlt, putG]
    exact DLe_int (wrap_succ (by omega))
  rw [List.take_of_length_le hge]
  obtain ⟨hpl, hpg⟩ := putGs_all hgn
  obtain ⟨_, hmain, hthere⟩ := wholeE_zero.1 hz
  unfold mainB at hmain
  cases hfm : findF m mainS with
  | none => rw [hfm] at hmain; cases hmain
  | some f0 =>
  rw [hfm] at hmain
  simp only [Bool.and_eq_true, decide_eq_true_eq] at hmain
  refine calle_k (call0_eff m inp mainS (startW m) f0 hfm) tau0 rfl [.ptr 26 0, .d (.str mainS), .d (.lit (.slice none 0 0))] (by simp) (by simp) (by simp; rfl) (by simp [gOf, tau0]) ?_ (by simp [gOf, tau0]) (by simp [idsOk]) ?_
  · simp [gOf, tau0, runC, hpl, startW]
    exact hpg
  have hok0 : MOk m inp fuel.toNat deep.toNat (goF m inp fuel.toNat deep.toNat (enterW 1 (startW m)) (funcOf m mainS) 0 0 [] 1) (enterW 1 (startW m), ⟨f0, 0, 0, []⟩, []) := by
    have hf0 : f0 ∈ m.funcs := List.mem_of_find?_eq_some hfm
    have hb0 : 0 < f0.blocks.length := by have := hmain.1; omega
    refine ⟨(startW_good m _).enter 1, ?_, ⟨hf0, ⟨_, List.getElem?_eq_getElem hb0, by simp, by have := funcOk_first (hok.funcs _ hf0) hb0; have := hmain.2; simp; omega⟩, (fun v hv => by cases hv)⟩, (fun fr hfr => by cases hfr), by simp only [List.length_nil]; omega, ?_⟩
    · intro v hv
      rw [show (enterW 1 (startW m)).globs = (startW m).globs by rw [enterW_eq]] at hv
      obtain ⟨g, hg, rfl⟩ := List.mem_map.1 hv
      have := hko.2 g hg
      have := (hok.globs g hg)
      exact ⟨by omega, by omega⟩
    · rw [show funcOf m mainS = f0 by unfold funcOf; rw [hfm]; rfl]
      rfl
  simp [tau0, runC, frC]
  obtain ⟨R, hR⟩ : ∃ R, goF m inp fuel.toNat deep.toNat (enterW 1 (startW m)) (funcOf m mainS) 0 0 [] 1 = R := ⟨_, rfl⟩
  rw [hR] at hok0
  refine loop_s (κ := Wd × Fr × List Fr) (fun q => MOk m inp fuel.toNat deep.toNat R q) (fun q => fuel.toNat + 1 - q.1.steps)
    (fun _ => [(sl 11, .ptr 5 0), (sl 8, .ptr 6 0), (sl 14, .fn 20 [.ptr 5 0]), (sl 41, .d .top), (sl 42, .d .top), (sl 43, .d .top), (sl 60, .d .top), (sl 62, .d .top)])
    (fun q => (LRun 0 m inp q.1 q.2.1 q.2.2 ++ [(5, .box [.ptr 0 0]), (6, .box ((traceC (errW 0)).map .d))]) ++ fam 0 q.2.2) 400 (enterW 1 (startW m), ⟨f0, 0, 0, []⟩, [])
    (srcs [(0, .id 26), (1, .id 24), (2, .id 500035), (3, .id 35), (4, .nil), (5, .id 27), (6, .id 1)]) hok0 ?_ ?_
  · simp [LRun, fam, runC, frC, ptrR, errW, traceC]
    exact fun k _ => by rw [show (enterW 1 (startW m)).globs = (startW m).globs by rw [enterW_eq]]
  rintro ⟨w, top, lo⟩ hq
  obtain ⟨hg, hglob, ⟨hfmem, ⟨b, hb, hpos, hlen⟩, hvals⟩, hlo, hn, hfin⟩ := hq
  simp only [] at hg hglob hfmem hb hpos hlen hvals hlo hn hfin
  have hfo := hok.funcs _ hfmem
  have hat : top.blk < top.f.blocks.length := (List.getElem?_eq_some_iff.1 hb).1
  have hbk : blockOk top.f b = true := by
    have := funcOk_block hfo hat
    rwa [(List.getElem?_eq_some_iff.1 hb).2] at this
  obtain ⟨hp0, hp6, hi32, hins, hend⟩ := blockOk_parts hbk
  have hbm : b ∈ top.f.blocks := List.mem_of_getElem? hb
  have hvpos : ∀ v ∈ top.vals, 0 ≤ v := fun v hv => (hvals v hv).1
  have hsteps := hg.steps
  have hdn : deep.toNat ≤ 64 := by omega
  have hH : hof ((LRun 0 m inp w top lo ++ [(5, .box [.ptr 0 0]), (6, .box ((traceC (errW 0)).map .d))]) ++ fam 0 lo) = hadd 0 (.box (runC 0 m inp (.own 2 (lo.length + 1)) w)) (hadd 1 (.map .string m.globs.length (gmap m w.globs)) (hadd 2 (.vec 75 1 (lo.length + 1) (ptrR 0 (lo.length + 1)))
      (hadd 3 (.box (frC top (.own 4 top.vals.length))) (hadd 4 (.row 29 1 top.vals.length (valsR top.vals)) (hadd 5 (.box [.ptr 0 0]) (hadd 6 (.box ((traceC (errW 0)).map .d)) (hof (fam 0 lo)))))))) := rfl
  have hw1 : IntKind.i64.wrap ((w.steps : Int) + 1) = (w.steps : Int) + 1 := wrap_succ (by omega)
  have hw2 : IntKind.i64.wrap (lo.length : Int) = lo.length := wrap_in (by omega)
  have hw3 : IntKind.i64.wrap ((top.pos : Int) + 1) = (top.pos : Int) + 1 := wrap_succ (by omega)
  have hp : ptrR 0 (lo.length + 1) lo.length = [.ptr 3 0] := by simp [ptrR]
  have hd : ∀ i, 300 ≤ i → hdel (hof (fam 0 lo)) i = hof (fam 0 lo) := fun i hi => hdel_fam3 (by omega)
  have hd0 : ∀ i, i < 100 → hdel (hof (fam 0 lo)) i = hof (fam 0 lo) := fun i hi => hdel_fam (by omega)
  have hrun : runR m inp fuel.toNat deep.toNat = if R.1.bad ≠ 0 then R.1 else { R.1 with ended := true, code := R.2 } := by rw [← hR]; rfl
  simp only [hH]
  simp [runC, frC, hw1, hw2, hw3, hp, hb, hd]
  refine ⟨fun hf => DLe.of_eq ?_, fun hf => ⟨by omega, hat, fun hpe => ?_, fun hpe => ⟨by omega, fun h14 => ?_, fun h14 => ⟨fun hde => DLe.of_eq ?_, fun hde => ?_⟩⟩⟩⟩
  · have hs : w.steps = fuel.toNat := by omega
    have hbad := (stepW_bad (fuel := fuel.toNat) hg.bad).2 hs
    rw [goF_over hg hs, unwind_bad hbad] at hfin
    rw [hrun, ← hfin, if_pos hbad]
    simp [stepW, hs, traceC]
  · have hs : ¬ w.steps = fuel.toNat := by omega
    have hpeq : top.pos = b.ins.length := by omega
    have hgw := hg.step hs
    have hst : stepW fuel.toNat w = { w with steps := w.steps + 1 } := stepW_go hs
    have hfamH : ∀ (H : Heap), (∀ i, 100 ≤ i → i < 300 → hget H i = hget (hof (fam 0 lo)) i) → ∀ i o, (i, o) ∈ fam 0 lo → hget H i = some o := fun H hH i o hm => by
      obtain ⟨k, hk, he⟩ := fam_mem hm
      rw [hH i (by unfold fid vid at he; omega) (by unfold fid vid at he; omega)]
      exact hof_fam hm
    have hends := endB_parts hend
    have hvl : (top.vals.length : Int) = b.params + b.ins.length := by omega
    have hk2of : b.kind = 2 → 0 ≤ b.ta ∧ b.ta < b.params + b.ins.length ∧ goesB top.f b.to b.args (b.params + b.ins.length) = true ∧ goesB top.f b.els b.elses (b.params + b.ins.length) = true := fun h2 => by
      rcases hends with ⟨h, _⟩ | ⟨_, h⟩ | ⟨h, _⟩
      · omega
      · exact h
      · omega
    have htoB : ¬ b.kind = 3 → goesB top.f b.to b.args (b.params + b.ins.length) = true := fun h3 => by
      rcases hends with ⟨_, h⟩ | ⟨_, _, _, h, _⟩ | ⟨h, _⟩
      · exact h
      · exact h
      · omega
    by_cases hk3 : b.kind = 3
    · have hta : 0 ≤ b.ta ∧ b.ta < top.vals.length := by
        rcases hends with ⟨h, _⟩ | ⟨h, _⟩ | ⟨_, h⟩
        · omega
        · omega
        · omega
      have e := goF_ret (m := m) (inp := inp) (deep := deep.toNat) (n := lo.length + 1) (vals := top.vals) hg hs hb (by omega : b.ins.length ≤ top.pos) hk3
      rw [e] at hfin
      cases lo with
      | nil =>
        refine calle_k (end0_eff m inp (stepW fuel.toNat w) top b hk3 hta) (tauC 0 455) rfl [.ptr 3 0, .d (.agg (termC b)), .ptr 5 0] (by simp) (by simp) (by simp; rfl) (by simp [gOf, LRun, boxR, tauC])
          (HLe_call (c := 0) (B := boxR) (lo := []) (by simp [runC, hst]) (by simp [hst]) (by simp) (by simp [frC]) (by simp) (fun i o hm => by cases hm) (by simp [HLe_cons, boxR, gOf, LRun, tauC, fam, HLe])) ?_ (by simp [LRun, boxR, idsOk]) ?_
        · exact srcApart_call fun i o hi => (List.mem_append.1 hi).elim (fun h => (LRun_ids h).1) (fun h => by simp [boxR] at h; omega)
        simp [-tau2, LRun, boxR, tau_n, tau_0, tau_1, tau_2, tau_3, tau_4, tau_5, runC, frC, hd, hd0]
        have hR1 : (stepW fuel.toNat w, valAt top.vals b.ta) = R := hfin
        rw [hrun, ← hR1, if_neg (by simp [hgw.bad])]
        simp [traceC, hgw.bad]
      | cons s r =>
        obtain ⟨hsf, ⟨bs, hsb, hsp, hsl⟩, hsv⟩ := hlo s (by simp)
        have hsbk : blockOk s.f bs = true := by
          have := funcOk_block (hok.funcs _ hsf) (List.getElem?_eq_some_iff.1 hsb).1
          rwa [(List.getElem?_eq_some_iff.1 hsb).2] at this
        obtain ⟨_, hsp6, hsi32, _, _⟩ := blockOk_parts hsbk
        simp only [List.length_cons] at hn
        refine calle_k (end1_eff m inp (stepW fuel.toNat w) top s r b (by omega) (by omega) hk3 hta) (tauC 0 455) rfl [.ptr 3 0, .d (.agg (termC b)), .ptr 5 0] (by simp) (by simp) (by simp; rfl) (by simp [gOf, LRun, boxR, tauC])
          (HLe_call (c := 0) (B := boxR) (lo := s :: r) (by simp [runC, hst]) (by simp [hst]) (by simp) (by simp [frC]) (by simp) (hfamH _ (fun i h1 h2 => by simp only [hget_add]; repeat rw [if_neg (by omega)])) (by simp [HLe_cons, boxR, gOf, LRun, tauC, HLe])) (srcApart_call fun i o hi => ?_) ?_ ?_
        · rcases List.mem_append.1 hi with h | h
          · simp [LRun, LF, boxR] at h
            unfold fid vid at h
            omega
          · exact fam_ids h
        · rw [idsOk_append]
          exact ⟨by simp [idsOk, LRun, LF, boxR], idsOk_fam fun k hk => by
            obtain ⟨h1, h2⟩ := any_fam (b := 1000000) hk
            exact ⟨by rw [List.any_append, h1, Bool.or_true], by rw [List.any_append, h2, Bool.or_true]⟩⟩
        rw [hput_call (lo := r) (fun i o hm => hfamH _ (fun i h1 h2 => by simp only [hget_add]; repeat rw [if_neg (by omega)]) _ _ (by simp only [fam, List.mem_cons]; exact .inr (.inr hm))) (fun i o hi => by
          simp [LRun, LF, boxR] at hi
          unfold fid vid at *
          refine ⟨by omega, fun k hk => by omega⟩)]
        have f1 : ∀ k, 300 ≤ k → ¬ k = fid 0 r.length ∧ ¬ k = vid 0 r.length ∧ ¬ fid 0 r.length = k ∧ ¬ vid 0 r.length = k := fun k hk => by unfold fid vid; omega
        have f2 : ∀ k, k < 100 → ¬ k = fid 0 r.length ∧ ¬ k = vid 0 r.length ∧ ¬ fid 0 r.length = k ∧ ¬ vid 0 r.length = k := fun k hk => by unfold fid vid; omega
        simp [-tau2, LRun, LF, boxR, tau_n, tau_n2, tau_0, tau_1, tau_2, tau_3, tau_4, tau_5, tauC_fid, runC, frC, hd, hd0, fam]
        rw [(hdel_fam2 (b := 0) (l := r) (Nat.le_refl _)).2, (hdel_fam2 (b := 0) (l := r) (Nat.le_refl _)).1]
        simp only [hdel_fam (show 5 < 0 + 100 by decide), hdel_fam (show 4 < 0 + 100 by decide), hdel_fam (show 3 < 0 + 100 by decide), hdel_fam (show 2 < 0 + 100 by decide), hdel_fam (show 1 < 0 + 100 by decide), hdel_fam (show 0 < 0 + 100 by decide)]
        obtain ⟨g, hgd⟩ : ∃ g, srcF r.length [(0, .id 0), (1, .id 1), (2, .id 455), (3, .id (fid 0 r.length)), (4, .id 500455), (5, .id 5), (6, .id 6)] = g := ⟨_, rfl⟩
        have e0 : g 0 = .id 0 := by rw [← hgd, srcF_lit (by decide)]; rfl
        have e1 : g 1 = .id 1 := by rw [← hgd, srcF_lit (by decide)]; rfl
        have e2 : g 2 = .id 455 := by rw [← hgd, srcF_lit (by decide)]; rfl
        have e3 : g 3 = .id (fid 0 r.length) := by rw [← hgd, srcF_lit (by decide)]; rfl
        have e4 : g 4 = .id 500455 := by rw [← hgd, srcF_lit (by decide)]; rfl
        have e5 : g 5 = .id 5 := by rw [← hgd, srcF_lit (by decide)]; rfl
        have e6 : g 6 = .id 6 := by rw [← hgd, srcF_lit (by decide)]; rfl
        have ef := fun k (hk : k < r.length) => (srcF_fid (l := [(0, .id 0), (1, .id 1), (2, .id 455), (3, .id (fid 0 r.length)), (4, .id 500455), (5, .id 5), (6, .id 6)]) hk)
        rw [hgd] at ef
        have hfin' : unwind m inp fuel.toNat deep.toNat (goF m inp fuel.toNat deep.toNat (stepW fuel.toNat w) s.f s.blk s.pos (s.vals ++ [valAt top.vals b.ta]) (r.length + 1)) r = R := by
          rw [← hfin, unwind, if_neg (by simp [hgw.bad])]
        refine ⟨stepW fuel.toNat w, ⟨s.f, s.blk, s.pos, s.vals ++ [valAt top.vals b.ta]⟩, r, ⟨hgw, (by show ∀ v ∈ (stepW fuel.toNat w).globs, u64In v; rw [hst]; exact hglob), ⟨hsf, ⟨bs, hsb, hsp, by simp; omega⟩, ?_⟩, fun fr hfr => hlo fr (by simp [hfr]), by simp only []; omega, hfin'⟩, by rw [hst]; simp only []; omega, g, ?_⟩
        rotate_left
        · unfold SLeK SLe
          refine ⟨?_, ?_, ?_, ?_⟩
          · simp [e5, e6]
          · show HLe _ _ _ ((LRun 0 m inp (stepW fuel.toNat w) ⟨s.f, s.blk, s.pos, s.vals ++ [valAt top.vals b.ta]⟩ r ++ [(5, .box [.ptr 0 0]), (6, .box ((traceC (errW 0)).map .d))]) ++ fam 0 r)
            refine HLe_append.2 ⟨HLe_append.2 ⟨?_, ?_⟩, ?_⟩
            · refine HLe_run2 (b := 0) (cs3 := frC s (.own 500455 (s.vals.length + 1))) (row4 := valsR (s.vals ++ [valAt top.vals b.ta])) e0 e1 e2 e3 e4 rfl ?_ rfl (fun _ _ => rfl) rfl (fun i hi => ?_) ?_ ?_ ?_ (fun i hi => rfl)
              · simp [runC, e0, e1, e2]
              · unfold ptrR
                by_cases q : i = r.length
                · subst q
                  simp [e3]
                · rw [if_neg (by omega)]
                  simp [(ef i (by omega)).1]
              · simp [f1, f2]
                rfl
              · simp [frC, e4]
              · simp [f1]
            · simp [HLe_cons, e0, e5, e6, traceC, f2]
            · refine HLe_fam ef (fun i o hm => ?_)
              obtain ⟨k, hk, he⟩ := fam_mem hm
              simp only [hget_add]
              repeat rw [if_neg (by unfold fid vid at *; omega)]
              exact hof_fam hm
          · rw [← hgd]
            refine srcF_apart (fun i j k hi hj => ?_) (fun i k hi => ?_) (by omega)
            · simp at hi hj
              unfold fid at hi hj
              omega
            · simp at hi
              unfold fid at hi
              omega
          · rw [← hgd]
            refine srcF_end (by omega) (by decide) (fun i s hi => ?_)
            simp at hi; omega
        · intro v hv
          rcases List.mem_append.1 hv with hv | hv
          · exact hsv v hv
          · rw [List.mem_singleton.1 hv]; exact valAt_in hvals _
    · have key : ∃ (to : Nat) (l : List Int), ((b.kind = 2 ∧ valAt top.vals b.ta = 0 ∧ b.els = to ∧ b.elses = l) ∨ (¬ (b.kind = 2 ∧ valAt top.vals b.ta = 0) ∧ b.to = to ∧ b.args = l)) ∧ goesB top.f to l (b.params + b.ins.length) = true ∧
          goF m inp fuel.toNat deep.toNat w top.f top.blk top.pos top.vals (lo.length + 1) = goF m inp fuel.toNat deep.toNat (stepW fuel.toNat w) top.f to 0 (pickI top.vals l) (lo.length + 1) := by
        by_cases hk2 : b.kind = 2 ∧ valAt top.vals b.ta = 0
        · obtain ⟨_, _, _, hgo⟩ := hk2of hk2.1
          have g0 := (goes_there hfo hgo).1
          have e : b.els = (b.els.toNat : Nat) := by omega
          exact ⟨b.els.toNat, b.elses, .inl ⟨hk2.1, hk2.2, e, rfl⟩, by rw [← e]; exact hgo, goF_else hg hvpos hs hb (by omega) hk3 hk2⟩
        · have hgo := htoB hk3
          have g0 := (goes_there hfo hgo).1
          have e : b.to = (b.to.toNat : Nat) := by omega
          exact ⟨b.to.toNat, b.args, .inr ⟨hk2, e, rfl⟩, by rw [← e]; exact hgo, goF_to hg hvpos hs hb (by omega) hk3 hk2⟩
      obtain ⟨to, l, hto, hgo, hgof⟩ := key
      rw [hgof] at hfin
      obtain ⟨_, ⟨b', hb', hl'⟩, g2⟩ := goes_there hfo hgo
      have hbel := belowB_mem (goesB_belowB hgo)
      refine calle_k (end2_eff m inp (stepW fuel.toNat w) top lo b to l (by omega) hk3 (fun h => by have := hk2of h; omega) hto (fun v hv => by have := hbel v hv; omega) (by omega)) (tauC 0 455) rfl [.ptr 3 0, .d (.agg (termC b)), .ptr 5 0] (by simp) (by simp) (by simp; rfl) (by simp [gOf, LRun, boxR, tauC])
        (HLe_call (c := 0) (B := boxR) (lo := lo) (by simp [runC, hst]) (by simp [hst]) (by simp) (by simp [frC]) (by simp) (hfamH _ (fun i h1 h2 => by simp only [hget_add]; repeat rw [if_neg (by omega)])) (by simp [HLe_cons, boxR, gOf, LRun, tauC, HLe])) (srcApart_call fun i o hi => ?_) ?_ ?_
      · rcases List.mem_append.1 hi with h | h
        · simp [LRun, boxR] at h
          omega
        · exact fam_ids h
      · rw [idsOk_append]
        exact ⟨by simp [idsOk, LRun, boxR], idsOk_fam fun k hk => by
          obtain ⟨h1, h2⟩ := any_fam (b := 1000000) hk
          exact ⟨by rw [List.any_append, h1, Bool.or_true], by rw [List.any_append, h2, Bool.or_true]⟩⟩
      rw [hput_call (lo := lo) (hfamH _ (fun i h1 h2 => by simp only [hget_add]; repeat rw [if_neg (by omega)])) (fun i o hi => by
        simp [LRun, boxR] at hi
        unfold fid vid at *
        refine ⟨by omega, fun k hk => by omega⟩)]
      simp [-tau2, LRun, boxR, tau_n, tau_0, tau_1, tau_2, tau_3, tau_4, tau_5, runC, frC, hd, hd0]
      obtain ⟨g, hgd⟩ : ∃ g, srcF lo.length [(0, .id 0), (1, .id 1), (2, .id 2), (3, .id 3), (4, .id 455), (5, .id 5), (6, .id 6)] = g := ⟨_, rfl⟩
      have e0 : g 0 = .id 0 := by rw [← hgd, srcF_lit (by decide)]; rfl
      have e1 : g 1 = .id 1 := by rw [← hgd, srcF_lit (by decide)]; rfl
      have e2 : g 2 = .id 2 := by rw [← hgd, srcF_lit (by decide)]; rfl
      have e3 : g 3 = .id 3 := by rw [← hgd, srcF_lit (by decide)]; rfl
      have e4 : g 4 = .id 455 := by rw [← hgd, srcF_lit (by decide)]; rfl
      have e5 : g 5 = .id 5 := by rw [← hgd, srcF_lit (by decide)]; rfl
      have e6 : g 6 = .id 6 := by rw [← hgd, srcF_lit (by decide)]; rfl
      have ef := fun k (hk : k < lo.length) => (srcF_fid (l := [(0, .id 0), (1, .id 1), (2, .id 2), (3, .id 3), (4, .id 455), (5, .id 5), (6, .id 6)]) hk)
      rw [hgd] at ef
      refine ⟨stepW fuel.toNat w, ⟨top.f, to, 0, pickI top.vals l⟩, lo, ⟨hgw, (by show ∀ v ∈ (stepW fuel.toNat w).globs, u64In v; rw [hst]; exact hglob), ⟨hfmem, ⟨b', by simpa using hb', by simp, by simp only [pickI_length]; omega⟩, pickI_in hvals _⟩, hlo, hn, hfin⟩, by rw [hst]; simp only []; omega, g, ?_⟩
      unfold SLeK SLe
      refine ⟨?_, ?_, ?_, ?_⟩
      · simp [e5, e6]
      · show HLe _ _ _ ((LRun 0 m inp (stepW fuel.toNat w) ⟨top.f, to, 0, pickI top.vals l⟩ lo ++ [(5, .box [.ptr 0 0]), (6, .box ((traceC (errW 0)).map .d))]) ++ fam 0 lo)
        refine HLe_append.2 ⟨HLe_append.2 ⟨?_, ?_⟩, ?_⟩
        · refine HLe_run2 (b := 0) (row4 := valsR (pickI top.vals l)) e0 e1 e2 e3 e4 rfl ?_ rfl (fun _ _ => rfl) rfl (fun i hi => ?_) rfl ?_ ?_ (fun i hi => rfl)
          · simp [runC, e0, e1, e2]
          · rw [ptr_ren]
            exact ptr_le (b := 0) (c := 0) e3 (fun k hk => (ef k (by omega)).1) i hi
          · simp [frC, e4]
          · simp
        · simp [HLe_cons, e0, e5, e6, traceC]
        · refine HLe_fam ef (hfamH _ (fun i h1 h2 => ?_))
          simp only [hget_add]
          repeat rw [if_neg (by omega)]
      · rw [← hgd]
        refine srcF_apart (fun i j k hi hj => ?_) (fun i k hi => ?_) (by omega)
        · simp at hi hj; omega
        · simp at hi; omega
      · rw [← hgd]
        refine srcF_end (by omega) (by decide) (fun i s hi => ?_)
        simp at hi; omega
  · have hs : ¬ w.steps = fuel.toNat := by omega
    have hlt : top.pos < b.ins.length := by omega
    obtain ⟨x, hx⟩ : ∃ x, b.ins[top.pos]'hlt = x := ⟨_, rfl⟩
    have hx? : b.ins[top.pos]? = some x := by rw [List.getElem?_eq_getElem hlt, hx]
    rw [hx?, Option.getD_some] at h14
    have hxi : x ∈ allIns top.f := List.mem_flatMap.2 ⟨b, hbm, List.mem_of_getElem? hx?⟩
    have hxo : instOk x top.vals.length = true := by
      have := hins top.pos hlt
      rw [hx] at this
      rw [show (top.vals.length : Int) = b.params + top.pos by omega]
      exact this
    have hin : InstIn2 m x top.vals.length := instIn2_of hok hfmem hxi hxo h14
    have hgw := hg.step hs
    obtain ⟨c1, c2, c3⟩ := hg.gives hs inp x hvpos
    have hstepc := goF_plain (m := m) (inp := inp) (deep := deep.toNat) (n := lo.length + 1) hg hvpos hs hb hx? h14
    rw [hstepc] at hfin
    have heff := egives_eff m inp (stepW fuel.toNat w) ⟨top.f, top.blk, top.pos + 1, top.vals⟩ lo x (by omega) hin hvals hgw.globs (by have := hgw.read; have := hgw.steps; omega) (by have := hgw.out; have := hgw.steps; omega)
    obtain ⟨r, hr⟩ : ∃ r, givesW m inp x top.vals (stepW fuel.toNat w) = r := ⟨_, rfl⟩
    simp only [hr] at heff
    rw [hr] at hfin c1 c2 c3
    have hst : stepW fuel.toNat w = { w with steps := w.steps + 1 } := stepW_go hs
    have hfamH : ∀ (H : Heap), (∀ i, 100 ≤ i → i < 300 → hget H i = hget (hof (fam 0 lo)) i) → ∀ i o, (i, o) ∈ fam 0 lo → hget H i = some o := fun H hH i o hm => by
      obtain ⟨k, hk, he⟩ := fam_mem hm
      rw [hH i (by unfold fid vid at he; omega) (by unfold fid vid at he; omega)]
      exact hof_fam hm
    refine callk_k heff (tauC 0 _) rfl [.ptr 0 0, .ptr 3 0, .d (.agg (instC x))] (by simp) (by simp) (by simp [hx?]; rfl) (by simp [gOf, LRun, tauC])
      (HLe_call (c := 0) (B := []) (by simp [runC, hst]) (by simp [hst]) (by simp) (by simp [frC]) (by simp) (hfamH _ (fun i h1 h2 => by simp only [hget_add]; repeat rw [if_neg (by omega)])) trivial) (srcApart_call fun i o hi => (List.mem_append.1 hi).elim (fun h => (LRun_ids h).1) fam_ids) ?_ ?_ ?_
    · rw [idsOk_append]
      exact ⟨by simp [idsOk, LRun], idsOk_fam fun k hk => by
        obtain ⟨h1, h2⟩ := any_fam (b := 1000000) hk
        exact ⟨by rw [List.any_append, h1, Bool.or_true], by rw [List.any_append, h2, Bool.or_true]⟩⟩
    · rw [hput_call (hfamH _ (fun i h1 h2 => by simp only [hget_add]; repeat rw [if_neg (by omega)])) (fun i o hi => LRun_out hi)]
      simp [-tau2, LRun, tau_0, tau_1, tau_2, tau_3, tau_4, frC]
    rw [hput_call (hfamH _ (fun i h1 h2 => by simp only [hget_add]; repeat rw [if_neg (by omega)])) (fun i o hi => LRun_out hi)]
    simp [-tau2, LRun, tau_0, tau_1, tau_2, tau_3, tau_4, runC, frC, hd, hd0]
    have hkx : x.k < 18446744073709551616 := hko.1 _ hfmem _ hbm _ (List.mem_of_getElem? hx?)
    obtain ⟨u1, u2⟩ := gives_in (m := m) (inp := inp) (x := x) (w := stepW fuel.toNat w) hkx hvals (by rw [hst]; exact hglob)
    rw [hr] at u1 u2
    obtain ⟨g, hgd⟩ : ∃ g, srcF lo.length [(0, .id 0), (1, .id 1), (2, .id 2), (3, .id 3), (4, .id 482), (5, .id 5), (6, .id 6)] = g := ⟨_, rfl⟩
    have e0 : g 0 = .id 0 := by rw [← hgd, srcF_lit (by decide)]; rfl
    have e1 : g 1 = .id 1 := by rw [← hgd, srcF_lit (by decide)]; rfl
    have e2 : g 2 = .id 2 := by rw [← hgd, srcF_lit (by decide)]; rfl
    have e3 : g 3 = .id 3 := by rw [← hgd, srcF_lit (by decide)]; rfl
    have e4 : g 4 = .id 482 := by rw [← hgd, srcF_lit (by decide)]; rfl
    have e5 : g 5 = .id 5 := by rw [← hgd, srcF_lit (by decide)]; rfl
    have e6 : g 6 = .id 6 := by rw [← hgd, srcF_lit (by decide)]; rfl
    have ef := fun k (hk : k < lo.length) => (srcF_fid (l := [(0, .id 0), (1, .id 1), (2, .id 2), (3, .id 3), (4, .id 482), (5, .id 5), (6, .id 6)]) hk)
    rw [hgd] at ef
    refine ⟨by omega, r.1, ⟨top.f, top.blk, top.pos + 1, top.vals ++ [r.2]⟩, lo, ⟨c1, u1, ⟨hfmem, ⟨b, hb, by simp only []; omega, by simp; omega⟩, ?_⟩, hlo, hn, hfin⟩, by omega, g, ?_⟩
    rotate_left
    · unfold SLeK SLe
      refine ⟨?_, ?_, ?_, ?_⟩
      · simp [e5, e6]
      · show HLe _ _ _ ((LRun 0 m inp r.1 ⟨top.f, top.blk, top.pos + 1, top.vals ++ [r.2]⟩ lo ++ [(5, .box [.ptr 0 0]), (6, .box ((traceC (errW 0)).map .d))]) ++ fam 0 lo)
        refine HLe_append.2 ⟨HLe_append.2 ⟨?_, ?_⟩, ?_⟩
        · refine HLe_run2 (b := 0) e0 e1 e2 e3 e4 rfl ?_ rfl (fun _ _ => rfl) rfl (fun i hi => ?_) rfl ?_ (row4 := appRow top.vals.length (valsR top.vals) fun i => List.take 1 (List.drop i [DV.u64 r.2])) ?_ (fun i hi => ?_)
          · simp [runC, e0, e1, e2]
          · rw [ptr_ren]
            exact ptr_le (b := 0) (c := 0) e3 (fun k hk => (ef k (by omega)).1) i hi
          · simp [frC, e4]
          · simp
          · exact valsR_snoc _ _ i (by simpa using hi)
        · simp [HLe_cons, e0, e5, e6, traceC]
        · refine HLe_fam ef (hfamH _ (fun i h1 h2 => ?_))
          simp only [hget_add]
          repeat rw [if_neg (by omega)]
      · rw [← hgd]
        refine srcF_apart (fun i j k hi hj => ?_) (fun i k hi => ?_) (by omega)
        · simp at hi hj; omega
        · simp at hi; omega
      · rw [← hgd]
        refine srcF_end (by omega) (by decide) (fun i s hi => ?_)
        simp at hi; omega
    · intro v hv
      rcases List.mem_append.1 hv with hv | hv
      · exact hvals v hv
      · rw [List.mem_singleton.1 hv]; exact u2
  · have hs : ¬ w.steps = fuel.toNat := by omega
    have hlt : top.pos < b.ins.length := by omega
    have hx? : b.ins[top.pos]? = some (b.ins[top.pos]'hlt) := List.getElem?_eq_getElem hlt
    rw [hx?, Option.getD_some] at h14
    have e := goF_deep (m := m) (inp := inp) (vals := top.vals) (n := lo.length + 1) (deep := deep.toNat) hg hs hb hx? h14 (by omega)
    rw [e, unwind_bad (by simp)] at hfin
    rw [hrun, ← hfin, if_pos (by simp)]
    simp [stepW_go hs, traceC]
  · have hs : ¬ w.steps = fuel.toNat := by omega
    have hlt : top.pos < b.ins.length := by omega
    obtain ⟨x, hx⟩ : ∃ x, b.ins[top.pos]'hlt = x := ⟨_, rfl⟩
    have hx? : b.ins[top.pos]? = some x := by rw [List.getElem?_eq_getElem hlt, hx]
    rw [hx?, Option.getD_some] at h14
    have hxi : x ∈ allIns top.f := List.mem_flatMap.2 ⟨b, hbm, List.mem_of_getElem? hx?⟩
    have hxo : instOk x top.vals.length = true := by
      have := hins top.pos hlt
      rw [hx] at this
      rw [show (top.vals.length : Int) = b.params + top.pos by omega]
      exact this
    have hgw := hg.step hs
    have hst : stepW fuel.toNat w = { w with steps := w.steps + 1 } := stepW_go hs
    obtain ⟨f', hf', hfn, hfp⟩ := hok.call (mem_insM hfmem hxi) h14
    have hff : findF m x.name = some f' := by rw [← hfn]; exact findF_uniq hok hf'
    have hth := hthere x.name (List.mem_flatMap.2 ⟨top.f, hfmem, List.mem_map.2 ⟨x, List.mem_filter.2 ⟨hxi, isNamed_iff.2 (.inr (.inr h14))⟩, rfl⟩⟩)
    have hbl : 0 < f'.blocks.length := by
      unfold thereB at hth
      rw [hff] at hth
      have : f'.blocks.length ≠ 0 := by simpa using hth
      omega
    have hfo' : funcOf m x.name = f' := by unfold funcOf; rw [hff]; rfl
    have hargs : ∀ v ∈ x.args, 0 ≤ v ∧ v < top.vals.length := by
      intro v hv
      obtain ⟨j, hj, rfl⟩ := List.getElem_of_mem hv
      have hu := instOk_below hxo
      have hue : uses x = x.args := by unfold uses; rw [if_neg (by omega), if_neg (by omega), if_pos h14]
      rw [hue] at hu
      exact belowB_at hu hj
    have hal := instOk_args hxo
    have hfamH : ∀ (H : Heap), (∀ i, 100 ≤ i → i < 300 → hget H i = hget (hof (fam 0 lo)) i) → ∀ i o, (i, o) ∈ fam 0 lo → hget H i = some o := fun H hH i o hm => by
      obtain ⟨k, hk, he⟩ := fam_mem hm
      rw [hH i (by unfold fid vid at he; omega) (by unfold fid vid at he; omega)]
      exact hof_fam hm
    refine callor_k (ds := [.cref [.str top.f.name, .int top.f.bind, .int top.f.params, blocksD top.f.blocks, .int top.blk, .int ((top.pos : Int) + 1), .sl 1 top.vals.length fun k => u64C (top.vals[k]?.getD 0)] 0, intsD x.args]) _ _ (by simp) (by simp) (by simp [hx?]; rfl) (some_own top.vals x.args top.blk ((top.pos : Int) + 1) top.f hargs (by omega)) (fun i hi => rfl) ?_
    simp [hx?]
    have heff := call_eff m inp x.name (stepW fuel.toNat w) f' ⟨top.f, top.blk, top.pos + 1, top.vals⟩ lo (pickI top.vals x.args) (by omega) hff
    rw [pickI_length] at heff
    refine calle_k heff (tauE 0 486 485) rfl [.ptr 0 0, .d (.str x.name), .own 485 x.args.length] (by simp) (by simp) (by simp) (by simp [gOf, LRun, tauE])
      (HLe_callE (c := 0) (by simp [runC, hst]) (by simp [hst]) (by simp) (by simp [frC]) (by simp) (by simp; rfl) (fun i hi => rfl) (hfamH _ (fun i h1 h2 => by simp only [hget_add]; repeat rw [if_neg (by omega)]))) ?_ ?_ ?_
    · refine srcApart_gOf fun i j o o' hi hj he => ?_
      have key : ∀ i o, (i, o) ∈ (LRun 1000000 m inp (stepW fuel.toNat w) ⟨top.f, top.blk, top.pos + 1, top.vals⟩ lo ++ [(1000005, AObj.row 29 1 x.args.length (valsR (pickI top.vals x.args)))]) ++ fam 1000000 lo → 1000000 ≤ i ∧ i ≤ 1000300 := by
        intro i o hi
        rcases List.mem_append.1 hi with h | h
        · rcases List.mem_append.1 h with h | h
          · have := LRun_ids h; omega
          · simp at h; omega
        · obtain ⟨k, hk, he⟩ := fam_mem h
          unfold fid vid at he
          omega
      have k1 := key i o hi
      have k2 := key j o' hj
      by_cases q1 : i = 1000005 <;> by_cases q2 : j = 1000005
      · omega
      · rw [q1, tauE_5, tauE_big k2.1 q2] at he; omega
      · rw [q2, tauE_5, tauE_big k1.1 q1] at he; omega
      · rw [tauE_big k1.1 q1, tauE_big k2.1 q2] at he; omega
    · rw [idsOk_append]
      exact ⟨by simp [idsOk, LRun], idsOk_fam fun k hk => by
        obtain ⟨h1, h2⟩ := any_fam (b := 1000000) hk
        exact ⟨by rw [List.any_append, h1, Bool.or_true], by rw [List.any_append, h2, Bool.or_true]⟩⟩
    rw [hput_frame (fun i o hm => hfamH _ (fun i h1 h2 => by simp only [hget_add]; repeat rw [if_neg (by omega)]) _ _ (fam_ren (fun k _ => tauE_fid) i o hm)) (fun i o j o' hi hj he => by
      obtain ⟨k, hk, h3⟩ := fam_mem hj
      have h4 : 1000100 ≤ j ∧ j ≤ 1000300 := by unfold fid vid at h3; omega
      rw [tauE_big (i := j) (by omega) (by omega)] at he
      rcases List.mem_append.1 hi with h | h
      · have := LRun_ids h
        rw [tauE_big (i := i) this.1 (by omega)] at he
        omega
      · simp at h
        rw [h.1, tauE_5] at he
        omega)]
    simp [-tau2, LRun, tauE_n, tauE_n2, tauE_0, tauE_1, tauE_2, tauE_3, tauE_4, tauE_5, runC, frC, hd, hd0]
    obtain ⟨g, hgd⟩ : ∃ g, srcF lo.length [(0, .id 0), (1, .id 1), (2, .id 500486), (3, .id 486), (4, .id 485), (5, .id 5), (6, .id 6), (fid 0 lo.length, .id 3), (vid 0 lo.length, .id 4)] = g := ⟨_, rfl⟩
    have e0 : g 0 = .id 0 := by rw [← hgd, srcF_lit (by decide)]; rfl
    have e1 : g 1 = .id 1 := by rw [← hgd, srcF_lit (by decide)]; rfl
    have e2 : g 2 = .id 500486 := by rw [← hgd, srcF_lit (by decide)]; rfl
    have e3 : g 3 = .id 486 := by rw [← hgd, srcF_lit (by decide)]; rfl
    have e4 : g 4 = .id 485 := by rw [← hgd, srcF_lit (by decide)]; rfl
    have e5 : g 5 = .id 5 := by rw [← hgd, srcF_lit (by decide)]; rfl
    have e6 : g 6 = .id 6 := by rw [← hgd, srcF_lit (by decide)]; rfl
    have e7 : g (fid 0 lo.length) = .id 3 := by rw [← hgd, srcF_out (by unfold fid; omega)]; simp [srcs]
    have e8 : g (vid 0 lo.length) = .id 4 := by rw [← hgd, srcF_out (by unfold vid; omega)]; simp [srcs]
    have ef := fun k (hk : k < lo.length) => (srcF_fid (l := [(0, .id 0), (1, .id 1), (2, .id 500486), (3, .id 486), (4, .id 485), (5, .id 5), (6, .id 6), (fid 0 lo.length, .id 3), (vid 0 lo.length, .id 4)]) hk)
    rw [hgd] at ef
    have hbf := funcOk_first (hok.funcs _ hf') hbl
    have hcall := goF_call (m := m) (inp := inp) (deep := deep.toNat) (n := lo.length + 1) hg hvpos hs hb hx? h14 (by omega) rfl
    rw [hcall, hfo'] at hfin
    have hfin' : unwind m inp fuel.toNat deep.toNat (goF m inp fuel.toNat deep.toNat (enterW (lo.length + 2) (stepW fuel.toNat w)) f' 0 0 (pickI top.vals x.args) (lo.length + 2)) (⟨top.f, top.blk, top.pos + 1, top.vals⟩ :: lo) = R := by
      rw [← hfin]
      obtain ⟨r, hr⟩ : ∃ r, goF m inp fuel.toNat deep.toNat (enterW (lo.length + 1 + 1) (stepW fuel.toNat w)) f' 0 0 (pickI top.vals x.args) (lo.length + 1 + 1) = r := ⟨_, rfl⟩
      rw [hr]
      rw [unwind]
      by_cases hbad : r.1.bad ≠ 0
      · rw [if_pos hbad, if_pos hbad, unwind_bad hbad]
      · rw [if_neg hbad, if_neg hbad]
    have hst2 : (enterW (lo.length + 2) (stepW fuel.toNat w)).steps = w.steps + 1 := by rw [enterW_steps, hst]
    have hgl2 : (enterW (lo.length + 2) (stepW fuel.toNat w)).globs = w.globs := by rw [enterW_eq, hst]
    refine ⟨enterW (lo.length + 2) (stepW fuel.toNat w), ⟨f', 0, 0, pickI top.vals x.args⟩, ⟨top.f, top.blk, top.pos + 1, top.vals⟩ :: lo, ⟨hgw.enter _, (by show ∀ v ∈ (enterW (lo.length + 2) (stepW fuel.toNat w)).globs, u64In v; rw [hgl2]; exact hglob), ⟨hf', ⟨_, List.getElem?_eq_getElem hbl, by simp, by simp only [pickI_length]; rw [hbf]; omega⟩, pickI_in hvals _⟩, ?_, by simp only [List.length_cons]; omega, hfin'⟩, by rw [hst2]; omega, g, ?_⟩
    rotate_left
    · unfold SLeK SLe
      refine ⟨?_, ?_, ?_, ?_⟩
      · simp [e5, e6]
      · show HLe _ _ _ ((LRun 0 m inp (enterW (lo.length + 2) (stepW fuel.toNat w)) ⟨f', 0, 0, pickI top.vals x.args⟩ (⟨top.f, top.blk, top.pos + 1, top.vals⟩ :: lo) ++ [(5, .box [.ptr 0 0]), (6, .box ((traceC (errW 0)).map .d))]) ++ fam 0 (⟨top.f, top.blk, top.pos + 1, top.vals⟩ :: lo))
        refine HLe_append.2 ⟨HLe_append.2 ⟨?_, ?_⟩, ?_⟩
        · refine HLe_run2 (b := 0) e0 e1 e2 e3 e4 rfl ?_ rfl (fun k _ => ?_) rfl (fun i hi => ?_) rfl ?_ (row4 := valsR (pickI top.vals x.args)) ?_ (fun i hi => rfl)
          · simp [runC, e0, e1, e2, enterW_steps, hst]
          · rw [hgl2, hst]
          · show cellsLe _ _ (AV.ren.renL (tau2 486 (tauE 0 486 485)) (ptrN 1000000 (lo.length + 1) i)) _
            rw [ptr_renE]
            simp only [List.length_cons] at hi ⊢
            unfold ptrR
            by_cases q1 : i < lo.length
            · rw [if_pos (by omega), if_neg (by omega), if_neg (by omega)]
              simp [(ef i q1).1]
            · by_cases q2 : i = lo.length
              · subst q2
                rw [if_pos (by omega), if_pos rfl, if_neg (by omega)]
                simp [e7]
              · rw [if_neg (by omega), if_pos (by omega)]
                simp [e3]
          · simp [frC, e4]
          · simp
        · simp [HLe_cons, e0, e5, e6, traceC]
        · simp only [fam]
          refine ⟨?_, ?_, ?_⟩
          · simp [e7, e8, frC]
          · simp [e8]
          · refine HLe_fam ef (hfamH _ (fun i h1 h2 => ?_))
            simp only [hget_add]
            repeat rw [if_neg (by omega)]
      · rw [← hgd]
        refine srcF_apart (fun i j k hi hj => ?_) (fun i k hi => ?_) (by omega)
        · simp at hi hj; omega
        · simp at hi; omega
      · rw [← hgd]
        refine srcF_end (by omega) (by decide) (fun i s hi => ?_)
        simp at hi
        unfold fid vid at hi
        omega
    · intro fr hfr
      rcases List.mem_cons.1 hfr with h | h
      · subst h
        exact ⟨hfmem, ⟨b, hb, by simp only []; omega, by simp only []; omega⟩, hvals⟩
      · exact hlo fr h

end Go.Proofs.Ytpfokkfomgmibaa
