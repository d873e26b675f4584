/- Texts of one kind, one behind the other (merged by program; the bodies of functions are printed by program). -/
import Derived.Test.YtgadlpdbkohlbaaGreatPME
import Derived.Shelf.SlicesE.DeleteFunc
/- Contracts by the evaluator: the program's layer 5, names that are there. -/
namespace Go.Proofs.YtgadlpdbkohlbaaGreat
open Go.RowKit
def qa7 (fs : List Func) (s : ByteArray) : Option Int := (fs.reverse.find? fun f => decide (f.name = s)).map (·.params)
theorem z2k (fs : List Func) (f : Func) (s : ByteArray) : qa7 (fs ++ [f]) s = if f.name = s then some f.params else qa7 fs s := by
 unfold qa7
 rw [List.reverse_append]
 simp only [List.reverse_cons, List.reverse_nil, List.nil_append, List.singleton_append, List.find?_cons]
 split
 ·rename_i h; simp at h; simp [h]
 ·rename_i h; simp at h; simp [h]
def hasG (gs : List Glob) (s : ByteArray) : Bool := gs.any fun g => decide (g.name = s)
theorem z5w (gs : List Glob) (g : Glob) (s : ByteArray) : hasG (gs ++ [g]) s = (hasG gs s || decide (g.name = s)) := by simp [hasG]
def mapP (fs : List Func) : Value → Option Value
 | .string s => (qa7 fs s).map (Value.int .i64)
 | _ => none
def mapG (gs : List Glob) : Value → Option Value
 | .string s => if hasG gs s then some (.bool true) else none
 | _ => none
@[simp] theorem mapP_str (fs : List Func) (s : ByteArray) : mapP fs (.string s) = (qa7 fs s).map (Value.int .i64) := rfl
@[simp] theorem mapG_str (gs : List Glob) (s : ByteArray) : mapG gs (.string s) = if hasG gs s then some (.bool true) else none := rfl
@[simp] theorem bool_getD (b : Bool) : (if b = true then some (Value.bool true) else none).getD (.bool false) = .bool b := by cases b <;> rfl
theorem qy2 (s t : ByteArray) : keq (.string s) (.string t) = decide (s = t) := by
 rw [Bool.eq_iff_iff]
 simp only [keq, decide_eq_true_eq]
 exact z4x s t
theorem z6j {fs : List Func} {k : Nat} (hk : k < fs.length) (v : Value) (hv : kdOk .string v = true) : mset (mapP (fs.take k)) (.string fs[k].name) (.int .i64 fs[k].params) v = mapP (fs.take (k + 1)) v := by
 cases v <;> simp [kdOk] at hv
 rename_i s
 rw [List.take_succ_eq_append_getElem hk]
 simp only [mset, qy2, mapP_str, z2k]
 by_cases h : fs[k].name = s
 ·simp [h]
 ·simp [h, Ne.symm h]
theorem z6i {gs : List Glob} {k : Nat} (hk : k < gs.length) (v : Value) (hv : kdOk .string v = true) : mset (mapG (gs.take k)) (.string gs[k].name) (.bool true) v = mapG (gs.take (k + 1)) v := by
 cases v <;> simp [kdOk] at hv
 rename_i s
 rw [List.take_succ_eq_append_getElem hk]
 simp only [mset, qy2, mapG_str, z5w]
 by_cases h : gs[k].name = s
 ·simp [h]
 ·simp [h, Ne.symm h]
def insM (m : Module) : List Inst := m.funcs.flatMap qk
def q6q (m : Module) (i : Inst) : Bool := (i.op == 14 && (qa7 m.funcs i.name).isNone) || ((i.op == 12 || i.op == 13) && !hasG m.globs i.name)
def oddI (m : Module) (i : Inst) : Bool := i.op == 14 && (qa7 m.funcs i.name).getD 0 != i.args.length
def qi6 (m : Module) : Int := if (insM m).any (q6q m) then 8 else if (insM m).any (oddI m) then 1 else 0
structure KO where
 k : Nat
 o : Bool
def InvF (m : Module) (s : KO) : Prop := s.k ≤ m.funcs.length ∧ s.o = ((m.funcs.take s.k).flatMap qk).any (oddI m) ∧ ((m.funcs.take s.k).flatMap qk).any (q6q m) = false
def InvJ (m : Module) (f : Func) (odd : Bool) (j : Nat) (s : KO) : Prop := s.o = (odd || ((qk f).take j).any (oddI m)) ∧ ((qk f).take j).any (q6q m) = false
theorem InvF.start (m : Module) : InvF m ⟨0, false⟩ := ⟨Nat.zero_le _, rfl, rfl⟩
theorem InvJ.start (m : Module) (f : Func) (odd : Bool) : InvJ m f odd 0 ⟨0, odd⟩ := ⟨by simp, rfl⟩
theorem InvF.next {m : Module} {k : Nat} {odd : Bool} {s : KO} (h : InvF m ⟨k, odd⟩) (hk : k < m.funcs.length) (hj : InvJ m m.funcs[k] odd (qk m.funcs[k]).length s) : InvF m ⟨k + 1, s.o⟩ := by
 obtain ⟨_, h2, h3⟩ := h
 obtain ⟨g1, g2⟩ := hj
 rw [List.take_of_length_le (Nat.le_refl _)] at g1 g2
 have e : (m.funcs.take (k + 1)).flatMap qk = (m.funcs.take k).flatMap qk ++ qk m.funcs[k] := by
  rw [List.take_succ_eq_append_getElem hk, List.flatMap_append]
  simp
 exact ⟨hk, by simp only at h2 ⊢; rw [e, List.any_append, g1, h2], by simp only at h3 ⊢; rw [e, List.any_append, g2, h3]; rfl⟩
theorem InvJ.next {m : Module} {f : Func} {odd : Bool} {j : Nat} {s : KO} (h : InvJ m f odd j s) (hj : j < (qk f).length) (hm : q6q m (qk f)[j] = false) : InvJ m f odd (j + 1) ⟨0, s.o || oddI m (qk f)[j]⟩ := by
 obtain ⟨h1, h2⟩ := h
 unfold InvJ
 rw [List.take_succ_eq_append_getElem hj, List.any_append, List.any_append, h2, h1]
 simp [hm, Bool.or_assoc]
theorem z2x {m : Module} {k j : Nat} (hk : k < m.funcs.length) (hj : j < (qk m.funcs[k]).length) (hm : q6q m (qk m.funcs[k])[j] = true) : qi6 m = 8 := by
 unfold qi6
 rw [if_pos]
 exact List.any_eq_true.2 ⟨_, List.mem_flatMap.2 ⟨_, List.getElem_mem hk, List.getElem_mem hj⟩, hm⟩
theorem z73 {m : Module} {odd : Bool} (h : InvF m ⟨m.funcs.length, odd⟩) : qi6 m = if odd = true then 1 else 0 := by
 obtain ⟨_, h2, h3⟩ := h
 simp only [List.take_of_length_le (Nat.le_refl _)] at h2 h3
 unfold qi6 insM
 rw [h3, ← h2]
 simp
set_option maxRecDepth 10000 in
set_option maxHeartbeats 1000000 in
theorem z2z (m : Module) : APure Tryz.prog 59 [.agg (q8 m)] (.int (qi6 m)) := by
 refine qb _ _ Tryz.func59 (by kernel_rfl) z7u z89 rfl rfl (fun hx => ?_)
 have hlf := qhm hx 0 rfl
 have hlg := qhm hx 1 rfl
 clear hx
 simp [qu7, qvv]
 refine qe (κ := Nat × Nat) (fun k => k.1 ≤ m.funcs.length) (fun k => m.funcs.length - k.1) (fun k => [(sl 20, .int k.1)]) (fun k => [(1, .box [.int 0]), (2, .map .string k.2 (mapP (m.funcs.take k.1))), (3, .map .string 0 (mapG [])), (4, .box [.mp 2]), (5, .box [.mp 3])]) 12 (0, 0) (srcs [(1, .id 1), (2, .id 2), (3, .id 3), (4, .id 4), (5, .id 5)]) (by simp) ?_ ?_
 ·simp
  exact ⟨fun v _ => by cases v <;> rfl, fun v _ => by cases v <;> rfl⟩
 rintro ⟨k, n⟩ hk
 simp at hk
 simp
 refine ⟨fun hlt => ⟨hlt, ?_⟩, fun hge => ?_⟩
 ·rw [getD_some hlt]
  refine ⟨k + 1, hlt, by omega, (if (qa7 (List.take k m.funcs) m.funcs[k].name).isSome = true then n else n + 1), srcs [(1, .id 1), (2, .id 2), (3, .id 3), (4, .id 4), (5, .id 5)], ?_⟩
  simp [SLeK]
  exact ⟨q6 (q5 (by omega)), fun v hv => z6j hlt v hv⟩
 obtain rfl : k = m.funcs.length := by omega
 rw [List.take_of_length_le (Nat.le_refl _)]
 refine qe (κ := Nat × Nat) (fun k => k.1 ≤ m.globs.length) (fun k => m.globs.length - k.1) (fun k => [(sl 33, .int k.1)]) (fun k => [(1, .box [.int 0]), (2, .map .string n (mapP m.funcs)), (3, .map .string k.2 (mapG (m.globs.take k.1))), (4, .box [.mp 2]), (5, .box [.mp 3])]) 17 (0, 0) (srcs [(1, .id 1), (2, .id 2), (3, .id 3), (4, .id 4), (5, .id 5)]) (by simp) (by simp) ?_
 rintro ⟨k, n'⟩ hk
 simp at hk
 simp
 refine ⟨fun hlt => ⟨hlt, ?_⟩, fun hge => ?_⟩
 ·rw [getD_some hlt]
  refine ⟨k + 1, hlt, by omega, (if hasG (List.take k m.globs) m.globs[k].name = true then n' else n' + 1), srcs [(1, .id 1), (2, .id 2), (3, .id 3), (4, .id 4), (5, .id 5)], ?_⟩
  simp [SLeK]
  exact ⟨q6 (q5 (by omega)), fun v hv => z6i hlt v hv⟩
 obtain rfl : k = m.globs.length := by omega
 rw [List.take_of_length_le (Nat.le_refl _)]
 refine qe (κ := KO) (InvF m) (fun k => m.funcs.length - k.k) (fun k => [(sl 44, .int k.k)])
  (fun k => [(18, .box [.d (.lit (.bool k.o))]), (1, .box [.int 0]), (2, .map .string n (mapP m.funcs)), (3, .map .string n' (mapG m.globs)), (4, .box [.mp 2]), (5, .box [.mp 3])]) 24 ⟨0, false⟩ (srcs [(18, .id 18), (1, .id 1), (2, .id 2), (3, .id 3), (4, .id 4), (5, .id 5)]) (InvF.start m) (by simp) ?_
 rintro ⟨k, odd⟩ hinv
 simp
 refine ⟨fun hlt => ⟨hlt, ?_⟩, fun hge => ?_⟩
 ·rw [getD_some hlt]
  refine q4 (ds := [.agg (qm m.funcs[k])]) _ (by simp) (by simp) (fun _ => rfl) (fun _ => qpx m.funcs[k]) ?_
  simp
  refine rng_s (qpw m.funcs[k]) (κ := KO) (InvJ m m.funcs[k] odd) []
   (fun o => [(18, .box [.d (.lit (.bool o.o))]), (1, .box [.int 0]), (2, .map .string n (mapP m.funcs)), (3, .map .string n' (mapG m.globs)), (4, .box [.mp 2]), (5, .box [.mp 3])]) 31 [18, 1, 2, 3, 4, 5] ⟨0, odd⟩ (srcs [(18, .id 18), (1, .id 1), (2, .id 2), (3, .id 3), (4, .id 4), (5, .id 5)]) (by simp) (by simp) (by simp [T.pinned, AV.pinned]) (by simp) (InvJ.start _ _ _) (by simp) ?_ ?_
  ·rintro j hj ⟨_, o⟩ hij
   have hj' : j < (qk m.funcs[k]).length := by simpa using hj
   have hmiss := fun h => z2x (m := m) hlt hj' h
   have hnext := fun h => hij.next (m := m) hj' h
   simp
   generalize (qk m.funcs[k])[j] = i at *
   refine ⟨fun h => ⟨h, fun h' => ⟨h, h'⟩⟩, fun h => ⟨h, fun h' => ⟨h, h'⟩⟩, fun h => ?_, fun h => q6 ?_, fun h1 h2 => ?_⟩
   ·by_cases h14 : i.op = 14
    ·exact .inr (h h14)
    ·exact .inl h14
   ·rw [hmiss]
    unfold q6q
    rcases h with ⟨h1, h2⟩ | ⟨h1, h2⟩
    ·simp [h1, h2]
    ·rcases h1 with h1 | h1 <;> simp [h1, h2]
   ·refine ⟨fun h => ⟨h, fun h' => ⟨h, h'⟩⟩, _, hnext ?_, srcs [(18, .id 18), (1, .id 1), (2, .id 2), (3, .id 3), (4, .id 4), (5, .id 5)], ?_⟩
    ·unfold q6q
     rw [Bool.or_eq_false_iff]
     constructor
     ·by_cases h14 : i.op = 14
      ·have := h1 h14
       simp [h14, Option.isSome_iff_ne_none] at this ⊢
       exact this
      ·simp [h14]
     ·by_cases h12 : i.op = 12 ∨ i.op = 13
      ·simp [h2 h12]
      ·simp only [not_or] at h12
       simp [h12.1, h12.2]
    ·simp [RngE]
     refine qc ?_
     congr 1
  ·rintro s hs
   rw [List.length_map] at hs
   simp
   refine ⟨⟨k + 1, s.o⟩, hinv.next hlt hs, by simp; omega, srcs [(18, .id 18), (1, .id 1), (2, .id 2), (3, .id 3), (4, .id 4), (5, .id 5)], ?_⟩
   simp [SLeK]
   exact q6 (q5 (by omega))
 ·obtain rfl : k = m.funcs.length := by have := hinv.1; simp only at this; omega
  rw [z73 hinv]
  exact ⟨fun h => by subst h; exact DLe.refl _, fun h => by subst h; exact DLe.refl _⟩
end Go.Proofs.YtgadlpdbkohlbaaGreat
/- Contracts by the evaluator: the program's layer 5, is a module right? -/
namespace Go.Proofs.YtgadlpdbkohlbaaGreat
open Go.RowKit
def hasN (l : List ByteArray) (s : ByteArray) : Bool := l.any fun x => decide (x = s)
def qjp : List ByteArray → Nat
 | [] => 0
 | x :: l => qjp l + if hasN l x then 0 else 1
def q72 (l : List ByteArray) : Nat := qjp l.reverse
theorem q8u (l l' : List ByteArray) (s : ByteArray) : hasN (l ++ l') s = (hasN l s || hasN l' s) := by simp [hasN]
theorem quy (l : List ByteArray) (s : ByteArray) : hasN l.reverse s = hasN l s := by simp [hasN]
theorem qjq (l : List ByteArray) (x : ByteArray) : q72 (l ++ [x]) = if hasN l x = true then q72 l else q72 l + 1 := by
 unfold q72
 rw [List.reverse_append]
 simp only [List.reverse_cons, List.reverse_nil, List.nil_append, List.singleton_append, qjp, quy]
 split <;> rfl
def mapN (l : List ByteArray) : Value → Option Value
 | .string s => if hasN l s then some (.bool true) else none
 | _ => none
@[simp] theorem z0m (l : List ByteArray) (s : ByteArray) : mapN l (.string s) = if hasN l s then some (.bool true) else none := rfl
theorem qho {l : List ByteArray} {x : ByteArray} (v : Value) (hv : kdOk .string v = true) : mset (mapN l) (.string x) (.bool true) v = mapN (l ++ [x]) v := by
 cases v <;> simp [kdOk] at hv
 rename_i s
 simp only [mset, qy2, z0m, q8u]
 by_cases h : x = s
 ·simp [h, hasN]
 ·have e : hasN [x] s = false := by simp [hasN, h]
  rw [e, Bool.or_false, if_neg (by simp [Ne.symm h])]
def q3c (m : Module) : List ByteArray := m.funcs.map (·.name)
def q59 (m : Module) : List ByteArray := m.globs.map (·.name)
def qn (m : Module) : List ByteArray := q3c m ++ q59 m
def q5z (m : Module) : Int :=
 if 16 < m.funcs.length ∨ 16 < m.globs.length then 4
 else if (m.funcs.all qr && m.globs.all qbl) = false then 10
 else if q72 (qn m) < m.funcs.length + m.globs.length then 9
 else qi6 m
set_option maxRecDepth 10000 in
set_option maxHeartbeats 1000000 in
theorem qpk (m : Module) (hi : ∀ f ∈ m.funcs, ∀ b ∈ f.blocks, ∀ i ∈ b.ins, i.args.length ≤ 17592186044416) : APure Tryz.prog 34 [.agg (q8 m)] (.int (q5z m)) := by
 refine qb _ _ Tryz.func34 (by kernel_rfl) z3d z3v rfl rfl (fun _ => ?_)
 simp [qpc, qqp]
 refine ⟨fun h => q6 ?_, fun hf hg => ?_⟩
 ·unfold q5z
  rw [if_pos (by omega)]
 refine qe (κ := Nat) (fun k => k ≤ m.funcs.length ∧ ∀ j (h : j < m.funcs.length), j < k → qr m.funcs[j] = true) (fun k => m.funcs.length - k) (fun k => [(sl 22, .int k)]) (fun k => [(12, .map .string (q72 ((q3c m).take k)) (mapN ((q3c m).take k)))]) 18 0 (srcs [(12, .id 12)]) (by simp) ?_ ?_
 ·simp
  exact ⟨rfl, fun v _ => by cases v <;> rfl⟩
 rintro k ⟨hk, hall⟩
 simp
 refine ⟨fun hlt => ⟨hlt, ?_⟩, fun hge => ?_⟩
 ·rw [getD_some hlt]
  refine q4 (ds := [.agg (qm m.funcs[k])]) _ (by simp) (by simp) (fun _ => rfl) (fun _ => quv m.funcs[k] (hi _ (List.getElem_mem hlt))) ?_
  simp
  refine ⟨fun h => q6 ?_, fun h => ?_⟩
  ·unfold q5z
   rw [if_neg (by omega), if_pos (by rw [qtr hlt h]; rfl)]
  ·have e : (q3c m).take (k + 1) = (q3c m).take k ++ [m.funcs[k].name] := by
    unfold q3c
    rw [List.take_succ_eq_append_getElem (by simpa using hlt)]
    simp
   refine ⟨k + 1, ⟨hlt, fun j hj hj' => ?_⟩, by omega, srcs [(12, .id 12)], ?_⟩
   ·rcases Nat.lt_or_ge j k with h1 | h1
    ·exact hall j hj h1
    ·obtain rfl : j = k := by omega
     exact h
   ·simp [SLeK]
    rw [e]
    refine ⟨q6 (q5 (by omega)), ?_, fun v hv => qho v hv⟩
    rw [qjq]
 have hff := qlh fun j hj => hall j hj (by omega)
 obtain rfl : k = m.funcs.length := by omega
 rw [show (q3c m).take m.funcs.length = q3c m by rw [List.take_of_length_le (by simp [q3c])]]
 refine qe (κ := Nat) (fun k => k ≤ m.globs.length ∧ ∀ j (h : j < m.globs.length), j < k → qbl m.globs[j] = true) (fun k => m.globs.length - k) (fun k => [(sl 36, .int k)]) (fun k => [(12, .map .string (q72 (q3c m ++ (q59 m).take k)) (mapN (q3c m ++ (q59 m).take k)))]) 23 0 (srcs [(12, .id 12)]) (by simp) (by simp) ?_
 rintro k ⟨hk', hall'⟩
 simp
 refine ⟨fun hlt => ⟨hlt, ?_⟩, fun hge' => ?_⟩
 ·rw [getD_some hlt]
  refine q4 (ds := [.agg (q67 m.globs[k])]) _ (by simp) (by simp) (fun _ => rfl) (fun _ => z5t m.globs[k]) ?_
  simp
  refine ⟨fun h => q6 ?_, fun h => ?_⟩
  ·unfold q5z
   rw [if_neg (by omega), if_pos (by rw [qtr hlt h]; simp)]
  ·have e : (q59 m).take (k + 1) = (q59 m).take k ++ [m.globs[k].name] := by
    unfold q59
    rw [List.take_succ_eq_append_getElem (by simpa using hlt)]
    simp
   refine ⟨k + 1, ⟨hlt, fun j hj hj' => ?_⟩, by omega, srcs [(12, .id 12)], ?_⟩
   ·rcases Nat.lt_or_ge j k with h1 | h1
    ·exact hall' j hj h1
    ·obtain rfl : j = k := by omega
     exact h
   ·simp [SLeK]
    rw [e, ← List.append_assoc]
    refine ⟨q6 (q5 (by omega)), ?_, fun v hv => qho v hv⟩
    rw [qjq]
 have hgg := qlh fun j hj => hall' j hj (by omega)
 obtain rfl : k = m.globs.length := by omega
 rw [show (q59 m).take m.globs.length = q59 m by rw [List.take_of_length_le (by simp [q59])]]
 rw [qq (by omega)]
 have hc : ∀ x y z : Int, q5z m = if q72 (q3c m ++ q59 m) < m.funcs.length + m.globs.length then 9 else qi6 m := by
  intro _ _ _
  unfold q5z
  rw [if_neg (by omega), if_neg (by rw [hff, hgg]; simp)]
  rfl
 have hc := hc 0 0 0
 refine ⟨fun h => q6 ?_, fun h => ?_⟩
 ·rw [hc, if_pos (by omega)]
 ·refine q4 (ds := [.agg (q8 m)]) _ (by simp) (by simp) (fun _ => rfl) (fun _ => z2z m) ?_
  simp
  rw [hc, if_neg (by omega)]
  exact DLe.refl _
end Go.Proofs.YtgadlpdbkohlbaaGreat
/- Plain laws of layer 5: what it means that a module is right. -/
namespace Go.Proofs.YtgadlpdbkohlbaaGreat
open Go.RowKit
theorem qs0 (l : List ByteArray) (s : ByteArray) : hasN l s = true ↔ s ∈ l := by
 unfold hasN
 rw [List.any_eq_true]
 constructor
 ·rintro ⟨x, hx, h⟩
  simp only [decide_eq_true_eq] at h
  exact h ▸ hx
 ·intro h
  exact ⟨s, h, by simp⟩
theorem qm4 : ∀ l : List ByteArray, qjp l ≤ l.length
  | [] => Nat.le_refl _
  | x :: l => by
    have := qm4 l
    simp only [qjp, List.length_cons]
    split <;> omega
theorem qpn : ∀ l : List ByteArray, qjp l = l.length ↔ l.Nodup
  | [] => by simp [qjp]
  | x :: l => by
    have h1 := qm4 l
    have h2 := qpn l
    simp only [qjp, List.length_cons, List.nodup_cons, ← qs0]
    by_cases hx : hasN l x = true
    · rw [if_pos hx]
      constructor
      · intro h; omega
      · intro h; exact absurd hx h.1
    · rw [if_neg hx]
      constructor
      · intro h; exact ⟨hx, h2.1 (by omega)⟩
      · intro h; have := h2.2 h.2; omega
theorem z6p (l : List ByteArray) : l.reverse.Nodup ↔ l.Nodup := by
 unfold List.Nodup
 rw [List.pairwise_reverse]
 exact List.Pairwise.iff fun {_ _} => ⟨fun h => Ne.symm h, fun h => Ne.symm h⟩
theorem qav (l : List ByteArray) : q72 l < l.length ↔ ¬ l.Nodup := by
 unfold q72
 have h1 := qm4 l.reverse
 have h2 := qpn l.reverse
 rw [List.length_reverse] at h1 h2
 rw [← z6p, ← h2]
 omega
theorem qq5 {fs : List Func} {s : ByteArray} : qa7 fs s = none ↔ ∀ f ∈ fs, f.name ≠ s := by
 unfold qa7
 simp
theorem qmv {fs : List Func} {s : ByteArray} {p : Int} (h : qa7 fs s = some p) : ∃ f ∈ fs, f.name = s ∧ f.params = p := by
 unfold qa7 at h
 simp only [Option.map_eq_some_iff] at h
 obtain ⟨f, h1, h2⟩ := h
 have h3 := List.find?_some h1
 have h4 := List.mem_of_find?_eq_some h1
 exact ⟨f, by simpa using h4, by simpa using h3, h2⟩
theorem qq6 {fs : List Func} {s : ByteArray} {f : Func} (hf : f ∈ fs) (hs : f.name = s) : ∃ p, qa7 fs s = some p := by
 cases h : qa7 fs s with
 | some p => exact ⟨p, rfl⟩
 | none => exact absurd hs (qq5.1 h f hf)
theorem q4j {gs : List Glob} {s : ByteArray} : hasG gs s = true ↔ ∃ g ∈ gs, g.name = s := by simp [hasG]
structure ModOk (m : Module) : Prop where
 nf : m.funcs.length ≤ 16
 ng : m.globs.length ≤ 16
 funcs : ∀ f ∈ m.funcs, qr f = true
 globs : ∀ g ∈ m.globs, qbl g = true
 names : (qn m).Nodup
 miss : ∀ i ∈ insM m, q6q m i = false
 odd : ∀ i ∈ insM m, oddI m i = false
theorem z2y {m : Module} : qi6 m = 0 ↔ (∀ i ∈ insM m, q6q m i = false) ∧ ∀ i ∈ insM m, oddI m i = false := by
 unfold qi6
 by_cases h1 : (insM m).any (q6q m) = true
 ·rw [if_pos h1]
  constructor
  ·intro h; omega
  ·rintro ⟨h, _⟩
   obtain ⟨i, hi, hm⟩ := List.any_eq_true.1 h1
   rw [h i hi] at hm; cases hm
 ·rw [if_neg h1]
  have h1' : ∀ i ∈ insM m, q6q m i = false := fun i hi => by
   cases hm : q6q m i with
   | false => rfl
   | true => exact absurd (List.any_eq_true.2 ⟨i, hi, hm⟩) h1
  by_cases h2 : (insM m).any (oddI m) = true
  ·rw [if_pos h2]
   constructor
   ·intro h; omega
   ·rintro ⟨_, h⟩
    obtain ⟨i, hi, hm⟩ := List.any_eq_true.1 h2
    rw [h i hi] at hm; cases hm
  ·rw [if_neg h2]
   exact ⟨fun _ => ⟨h1', fun i hi => by
    cases hm : oddI m i with
    | false => rfl
    | true => exact absurd (List.any_eq_true.2 ⟨i, hi, hm⟩) h2⟩, fun _ => rfl⟩
theorem q5e (m : Module) : (qn m).length = m.funcs.length + m.globs.length := by simp [qn, q3c, q59]
theorem q34 {m : Module} : q5z m = 0 ↔ ModOk m := by
 unfold q5z
 by_cases h1 : 16 < m.funcs.length ∨ 16 < m.globs.length
 ·rw [if_pos h1]
  exact ⟨fun h => by omega, fun h => by have := h.nf; have := h.ng; omega⟩
 rw [if_neg h1]
 by_cases h2 : (m.funcs.all qr && m.globs.all qbl) = false
 ·rw [if_pos h2]
  refine ⟨fun h => by omega, fun h => ?_⟩
  rw [List.all_eq_true.2 h.funcs, List.all_eq_true.2 h.globs] at h2
  cases h2
 rw [if_neg h2]
 have h2' : m.funcs.all qr = true ∧ m.globs.all qbl = true := by simpa using h2
 by_cases h3 : q72 (qn m) < m.funcs.length + m.globs.length
 ·rw [if_pos h3]
  refine ⟨fun h => by omega, fun h => ?_⟩
  rw [← q5e] at h3
  exact absurd h.names ((qav _).1 h3)
 rw [if_neg h3, z2y]
 have h3' : (qn m).Nodup := by
  rw [← q5e] at h3
  exact Classical.not_not.1 fun hn => h3 ((qav _).2 hn)
 exact ⟨fun h => ⟨by omega, by omega, List.all_eq_true.1 h2'.1, List.all_eq_true.1 h2'.2, h3', h.1, h.2⟩, fun h => ⟨h.miss, h.odd⟩⟩
theorem ModOk.fnodup {m : Module} (h : ModOk m) : (q3c m).Nodup := (List.nodup_append.1 h.names).1
theorem q37 {m : Module} {i : Inst} (h : q6q m i = false) : (i.op = 14 → ∃ p, qa7 m.funcs i.name = some p) ∧ (i.op = 12 ∨ i.op = 13 → hasG m.globs i.name = true) := by
  unfold q6q at h
  rw [Bool.or_eq_false_iff] at h
  obtain ⟨h1, h2⟩ := h
  constructor
  · intro h14
    cases hl : qa7 m.funcs i.name with
    | some p => exact ⟨p, rfl⟩
    | none => rw [hl, h14] at h1; simp at h1
  · intro h'
    cases hg : hasG m.globs i.name with
    | true => rfl
    | false =>
      rw [hg] at h2
      rcases h' with h' | h' <;> rw [h'] at h2 <;> simp at h2
theorem ql7 {m : Module} {i : Inst} (h1 : i.op = 14 → ∃ p, qa7 m.funcs i.name = some p) (h2 : i.op = 12 ∨ i.op = 13 → hasG m.globs i.name = true) : q6q m i = false := by
 unfold q6q
 rw [Bool.or_eq_false_iff]
 constructor
 ·by_cases h14 : i.op = 14
  ·obtain ⟨p, hp⟩ := h1 h14
   simp [hp]
  ·simp [h14]
 ·by_cases h12 : i.op = 12 ∨ i.op = 13
  ·simp [h2 h12]
  ·simp only [not_or] at h12
   simp [h12.1, h12.2]
theorem q3o {m : Module} {f : Func} {i : Inst} (hf : f ∈ m.funcs) (hi : i ∈ qk f) : i ∈ insM m := List.mem_flatMap.2 ⟨f, hf, hi⟩
theorem qy8 {l : List Inst} {s : ByteArray} (h : s ∈ qo l) : ∃ i ∈ l, q4k i.op = true ∧ i.name = s := by
 unfold qo at h
 obtain ⟨i, h1, h2⟩ := List.mem_map.1 h
 obtain ⟨h3, h4⟩ := List.mem_filter.1 h1
 exact ⟨i, h3, by simpa using h4, h2⟩
theorem q8x {op : Int} : q4k op = true ↔ op = 12 ∨ op = 13 ∨ op = 14 := by
 unfold q4k
 simp
 omega
theorem ModOk.there {m : Module} (h : ModOk m) {f : Func} (hf : f ∈ m.funcs) {s : ByteArray} (hs : s ∈ qo (qk f)) : (∃ g ∈ m.funcs, g.name = s) ∨ ∃ g ∈ m.globs, g.name = s := by
 obtain ⟨i, hi, hn, rfl⟩ := qy8 hs
 obtain ⟨h1, h2⟩ := q37 (h.miss i (q3o hf hi))
 rcases q8x.1 hn with h' | h' | h'
 ·exact .inr (q4j.1 (h2 (.inl h')))
 ·exact .inr (q4j.1 (h2 (.inr h')))
 ·obtain ⟨p, hp⟩ := h1 h'
  obtain ⟨g, hg, hgn, _⟩ := qmv hp
  exact .inl ⟨g, hg, hgn⟩
theorem qmb {α : Type} {p : α → Bool} {xs : List α} : q44 p xs < 0 ↔ ∀ x ∈ xs, p x = false := by
  have h := qdb p xs
  constructor
  · intro hn x hx
    cases hp : p x with
    | false => rfl
    | true =>
      have : xs.any p = true := List.any_eq_true.2 ⟨x, hx, hp⟩
      rw [this] at h
      simp at h
      omega
  · intro hall
    have : xs.any p = false := by
      rw [List.any_eq_false]
      intro x hx
      rw [hall x hx]; simp
    rw [this] at h
    simp at h
    omega
theorem qmc {xs : List Func} (h : (xs.map (·.name)).Nodup) {k : Nat} (hk : k < xs.length) : q44 (fun f => decide (f.name = xs[k].name)) xs = k := by
 refine q49 hk (fun i hi hik => ?_) (by simp)
 simp only [decide_eq_false_iff_not]
 intro e
 have := List.pairwise_iff_getElem.1 h i k (by simpa using hi) (by simpa using hk) hik
 simp only [List.getElem_map] at this
 exact this e
end Go.Proofs.YtgadlpdbkohlbaaGreat
/- Plain laws of layer 5: a right module with one function more, or less. -/
namespace Go.Proofs.YtgadlpdbkohlbaaGreat
open Go.RowKit
theorem qhq {fs : List Func} (hn : (fs.map (·.name)).Nodup) {f g : Func} (hf : f ∈ fs) (hg : g ∈ fs) (h : f.name = g.name) : f = g := by
 obtain ⟨i, hi, rfl⟩ := List.getElem_of_mem hf
 obtain ⟨j, hj, rfl⟩ := List.getElem_of_mem hg
 have h1 := qmc hn hi
 have h2 := qmc hn hj
 rw [h] at h1
 have : i = j := by omega
 subst this
 rfl
theorem qq7 {fs : List Func} (hn : (fs.map (·.name)).Nodup) {f : Func} (hf : f ∈ fs) : qa7 fs f.name = some f.params := by
 obtain ⟨p, hp⟩ := qq6 hf rfl
 obtain ⟨g, hg, h1, h2⟩ := qmv hp
 rw [hp, ← h2, qhq hn hg hf h1]
theorem ModOk.call {m : Module} (h : ModOk m) {i : Inst} (hi : i ∈ insM m) (h14 : i.op = 14) : ∃ g ∈ m.funcs, g.name = i.name ∧ g.params = i.args.length := by
 obtain ⟨p, hp⟩ := (q37 (h.miss i hi)).1 h14
 have ho := h.odd i hi
 obtain ⟨g, hg, h1, h2⟩ := qmv hp
 refine ⟨g, hg, h1, ?_⟩
 unfold oddI at ho
 rw [hp, h14] at ho
 simp at ho
 omega
theorem ModOk.mk' {m : Module} (nf : m.funcs.length ≤ 16) (ng : m.globs.length ≤ 16) (funcs : ∀ f ∈ m.funcs, qr f = true) (globs : ∀ g ∈ m.globs, qbl g = true) (names : (qn m).Nodup)
  (hc : ∀ f ∈ m.funcs, ∀ i ∈ qk f, i.op = 14 → ∃ g ∈ m.funcs, g.name = i.name ∧ g.params = i.args.length) (hg : ∀ f ∈ m.funcs, ∀ i ∈ qk f, i.op = 12 ∨ i.op = 13 → ∃ g ∈ m.globs, g.name = i.name) : ModOk m := by
 have hn : (m.funcs.map (·.name)).Nodup := (List.nodup_append.1 names).1
 have hcall : ∀ i ∈ insM m, i.op = 14 → qa7 m.funcs i.name = some (i.args.length : Int) := by
  intro i hi h14
  obtain ⟨f, hf, hi⟩ := List.mem_flatMap.1 hi
  obtain ⟨g, hg1, hg2, hg3⟩ := hc f hf i hi h14
  rw [← hg2, qq7 hn hg1, hg3]
 refine ⟨nf, ng, funcs, globs, names, fun i hi => ql7 (fun h => ⟨_, hcall i hi h⟩) (fun h => ?_), fun i hi => ?_⟩
 ·obtain ⟨f, hf, hi⟩ := List.mem_flatMap.1 hi
  exact q4j.2 (hg f hf i hi h)
 ·unfold oddI
  by_cases h14 : i.op = 14
  ·rw [hcall i hi h14]
   simp
  ·simp [h14]
end Go.Proofs.YtgadlpdbkohlbaaGreat
/- Plain laws of layer 5: what it means that a function is right. -/
namespace Go.Proofs.YtgadlpdbkohlbaaGreat
open Go.RowKit
theorem q2g {f : Func} (h : qr f = true) : f.blocks.all (qj f) = true := by
  unfold qr at h
  cases hb : f.blocks with
  | nil => rfl
  | cons b r =>
    rw [hb] at h
    simp only [Bool.and_eq_true] at h
    exact h.2.2
theorem q1v {f : Func} (h : qr f = true) : f.blocks.length ≤ 16 := by
 unfold qr at h
 simp only [Bool.and_eq_true, decide_eq_true_eq] at h
 exact h.1.2
theorem q9t {f : Func} (h : qr f = true) (hl : 0 < f.blocks.length) : f.blocks[0].params = f.params := by
  unfold qr at h
  obtain ⟨name, bind, params, blocks⟩ := f
  cases blocks with
  | nil => simp at hl
  | cons b r =>
    simp only [Bool.and_eq_true, beq_iff_eq] at h
    exact h.2.1
theorem q31 {f : Func} (h : qr f = true) {k : Nat} (hk : k < f.blocks.length) : qj f f.blocks[k] = true := List.all_eq_true.1 (q2g h) _ (List.getElem_mem hk)
theorem q80 {f : Func} {b : Block} (h : qj f b = true) : 0 ≤ b.params ∧ b.params ≤ 6 ∧ b.ins.length ≤ 32 ∧ (∀ k (hk : k < b.ins.length), qt b.ins[k] (b.params + k) = true) ∧ endB f b = true := by
 unfold qj at h
 simp only [Bool.and_eq_true, decide_eq_true_eq] at h
 obtain ⟨⟨⟨⟨h1, h2⟩, h3⟩, h4⟩, h5⟩ := h
 exact ⟨h1, h2, h3, (q8v _ _).1 h4, h5⟩
theorem qjs {i : Inst} {n : Int} (h : qt i n = true) : q3r (uses i) n = true := by
 unfold qt at h
 simp only [Bool.and_eq_true] at h
 exact h.1.1.1.1.1.1.2
theorem q8w {i : Inst} {n : Int} (h : qt i n = true) : i.args.length ≤ 6 := by
 unfold qt at h
 simp only [Bool.and_eq_true, decide_eq_true_eq] at h
 exact h.1.2
theorem qmj {f : Func} {to : Int} {l : List Int} {n : Int} (h : q4a f to l n = true) : 0 ≤ to ∧ to < f.blocks.length ∧ (l.length : Int) = (f.blocks[to.toNat]?.getD default).params := by
 by_cases hn : (to < 0 ∨ (f.blocks.length : Int) ≤ to) ∨ ¬ (l.length : Int) = (f.blocks[to.toNat]?.getD default).params
 ·rw [qmi hn] at h; cases h
 ·exact ⟨by omega, by omega, by omega⟩
theorem z4r {f : Func} (h : qr f = true) : (qk f).length ≤ 512 := by
  have hb := q1v h
  have key : ∀ l : List Block, (∀ b ∈ l, b.ins.length ≤ 32) → (l.flatMap (·.ins)).length ≤ l.length * 32 := by
    intro l
    induction l with
    | nil => intro _; simp
    | cons b l ih =>
      intro hl
      have h1 := hl b (by simp)
      have h2 := ih fun c hc => hl c (by simp [hc])
      simp only [List.flatMap_cons, List.length_append, List.length_cons]
      omega
  have := key f.blocks fun b hb => by
    obtain ⟨k, hk, rfl⟩ := List.getElem_of_mem hb
    exact (q80 (q31 h hk)).2.2.1
  unfold qk
  omega
end Go.Proofs.YtgadlpdbkohlbaaGreat
/- Contracts by the evaluator: the document's layer 5, names. -/
namespace Go.Proofs.YtgadlpdbkohlbaaGreat
open Go.RowKit
set_option maxRecDepth 10000 in
theorem q56 (m : Module) (s : ByteArray) : APure Tryz.prog 21 [.agg (q8 m), .str s] (.int (q44 (fun f => decide (f.name = s)) m.funcs)) := by
 refine qb _ _ Tryz.func21 (by kernel_rfl) qb6 qbe rfl rfl (fun hx => ?_)
 have hl := qhm hx 0 rfl
 clear hx
 simp [q4z, q5g]
 refine qe (κ := Nat) (fun k => k ≤ m.funcs.length ∧ ∀ i (h : i < m.funcs.length), i < k → decide (m.funcs[i].name = s) = false) (fun k => m.funcs.length - k) (fun k => [(sl 5, .int k)]) (fun _ => []) 0 0 (srcs []) (by simp) (by simp) ?_
 rintro k ⟨hk, hb⟩
 simp
 refine ⟨fun hlt => ⟨hlt, ?_⟩, fun hge => q6 (q4q fun i hi => hb i hi (by omega)).symm⟩
 rw [getD_some hlt]
 refine ⟨fun h => q6 (q49 hlt hb (by simp [h])).symm, fun h => ⟨k + 1, ⟨hlt, fun i hi h1 => ?_⟩, by omega, srcs [], ?_⟩⟩
 ·rcases Nat.lt_or_ge i k with h2 | h2
  ·simpa using hb i hi h2
  ·obtain rfl : i = k := by omega
   exact h
 ·simp [SLeK]
  exact q6 (q5 (by omega))
set_option maxRecDepth 10000 in
theorem qaz (m : Module) (s : ByteArray) : APure Tryz.prog 22 [.agg (q8 m), .str s] (.int (q44 (fun f => decide (f.name = s)) m.globs)) := by
 refine qb _ _ Tryz.func22 (by kernel_rfl) qb7 qbf rfl rfl (fun hx => ?_)
 have hl := qhm hx 1 rfl
 clear hx
 simp [q50, q5h]
 refine qe (κ := Nat) (fun k => k ≤ m.globs.length ∧ ∀ i (h : i < m.globs.length), i < k → decide (m.globs[i].name = s) = false) (fun k => m.globs.length - k) (fun k => [(sl 5, .int k)]) (fun _ => []) 0 0 (srcs []) (by simp) (by simp) ?_
 rintro k ⟨hk, hb⟩
 simp
 refine ⟨fun hlt => ⟨hlt, ?_⟩, fun hge => q6 (q4q fun i hi => hb i hi (by omega)).symm⟩
 rw [getD_some hlt]
 refine ⟨fun h => q6 (q49 hlt hb (by simp [h])).symm, fun h => ⟨k + 1, ⟨hlt, fun i hi h1 => ?_⟩, by omega, srcs [], ?_⟩⟩
 ·rcases Nat.lt_or_ge i k with h2 | h2
  ·simpa using hb i hi h2
  ·obtain rfl : i = k := by omega
   exact h
 ·simp [SLeK]
  exact q6 (q5 (by omega))
theorem qod (l l' : List Inst) : qo (l ++ l') = qo l ++ qo l' := by simp [qo]
set_option maxRecDepth 10000 in
theorem qk7 (f : Func) (hl : (qk f).length ≤ 8796093022208) : APure Tryz.prog 31 [.agg (qm f)] (q2k (qo (qk f))) := by
 refine qb _ _ Tryz.func31 (by kernel_rfl) qfi qg0 rfl rfl (fun hx => ?_)
 have hbl := qhm hx 3 rfl
 clear hx
 simp [q8e, q94]
 refine qe (κ := Nat) (fun k => k ≤ f.blocks.length) (fun k => f.blocks.length - k) (fun k => [(sl 4, .int k), (sl 3, .own 0 (qo ((f.blocks.take k).flatMap (·.ins))).length)])
  (fun k => [(0, .row 9 1 (qo ((f.blocks.take k).flatMap (·.ins))).length fun i => strC ((qo ((f.blocks.take k).flatMap (·.ins)))[i]?.getD ⟨#[]⟩))]) 1 0 (srcs [(0, .nil)]) (by simp) (by simp [qo]) ?_
 rintro k hk
 simp
 refine ⟨fun hlt => ?_, fun hge => by rw [List.take_of_length_le hge]; exact DLe.refl _⟩
 obtain ⟨b, hb⟩ : ∃ b, b = f.blocks[k] := ⟨_, rfl⟩
 have hbk : f.blocks[k]?.getD default = b := by rw [getD_some hlt, hb]
 have hcnt := qzy hlt
 rw [← hb] at hcnt
 have hcl : cnt f (k + 1) ≤ (qk f).length := by
  have e : qk f = (f.blocks.take (k + 1)).flatMap (·.ins) ++ (f.blocks.drop (k + 1)).flatMap (·.ins) := by
   rw [← List.flatMap_append, List.take_append_drop]
   rfl
  rw [e, List.length_append]
  unfold cnt
  omega
 obtain ⟨l, hl0⟩ : ∃ l, l = qo ((f.blocks.take k).flatMap (·.ins)) := ⟨_, rfl⟩
 have hll : l.length ≤ cnt f k := by rw [hl0]; exact q3i _
 rw [← hl0]
 refine qe (κ := Nat) (fun m => m ≤ b.ins.length) (fun m => b.ins.length - m) (fun m => [(sl 5, .int m), (sl 3, .own 0 (l ++ qo (b.ins.take m)).length)])
  (fun m => [(0, .row 9 1 (l ++ qo (b.ins.take m)).length fun i => strC ((l ++ qo (b.ins.take m))[i]?.getD ⟨#[]⟩))]) 1 0 (srcs [(0, .id 0)]) (by simp) (by simp [qo]) ?_
 rintro m hm
 simp [hlt, ← hb]
 refine ⟨fun hml => ⟨hml, ?_⟩, fun hge => ?_⟩
 ·refine q4 (ds := [.agg (qp b.ins[m])]) _ (by simp) (by simp) (fun _ => by simp [hml]; rfl) (fun _ => qi5 b.ins[m]) ?_
  simp [hlt, ← hb, hml]
  have hlm : (qo (b.ins.take m)).length ≤ m := Nat.le_trans (q3i _) (by simp; omega)
  refine ⟨fun h => ?_, fun h => ?_⟩
  ·refine ⟨by omega, m + 1, by omega, by omega, srcs [(0, .id 34)], ?_⟩
   simp [SLeK, qn1 hml h]
   refine ⟨⟨q6 (q5 (by omega)), by omega⟩, by omega, fun i hi => ?_⟩
   have h1 := q1t (l := l ++ qo (b.ins.take m)) (x := b.ins[m].name) (i := i) (by rw [List.length_append]; exact hi)
   rw [List.length_append, List.append_assoc] at h1
   exact h1
  ·refine ⟨m + 1, by omega, by omega, srcs [(0, .id 0)], ?_⟩
   simp [SLeK, qqc hml h]
   exact q6 (q5 (by omega))
 ·refine ⟨k + 1, by omega, by omega, srcs [(0, .id 0)], ?_⟩
  have e : qo ((f.blocks.take (k + 1)).flatMap (·.ins)) = l ++ qo b.ins := by
   rw [List.take_succ_eq_append_getElem hlt, List.flatMap_append, qod, ← hl0, ← hb]
   simp
  rw [List.take_of_length_le hge]
  simp [SLeK, e]
  exact q6 (q5 (by omega))
end Go.Proofs.YtgadlpdbkohlbaaGreat
/- Contracts by the evaluator: the document's layer 5, is a module right? -/
namespace Go.Proofs.YtgadlpdbkohlbaaGreat
open Go.RowKit
def fnT (m : Module) (k : Nat) : List ByteArray := (q3c m).take k
def gnT (m : Module) (k : Nat) : List ByteArray := q3c m ++ (q59 m).take k
@[simp] theorem fnT_zero (m : Module) : fnT m 0 = [] := rfl
theorem z06 {m : Module} {k : Nat} (hk : k < m.funcs.length) : fnT m (k + 1) = fnT m k ++ [m.funcs[k].name] := by
 unfold fnT q3c
 rw [List.take_succ_eq_append_getElem (by simpa using hk)]
 simp
theorem z5k {m : Module} {k : Nat} (hk : m.funcs.length ≤ k) : fnT m k = gnT m 0 := by
 unfold fnT gnT
 rw [List.take_of_length_le (by simpa [q3c] using hk)]
 simp
theorem qpq (m : Module) (k : Nat) : (fnT m k).length ≤ k := by
 unfold fnT
 simp
 omega
theorem z08 {m : Module} {k : Nat} (hk : k < m.globs.length) : gnT m (k + 1) = gnT m k ++ [m.globs[k].name] := by
 unfold gnT q59
 rw [List.take_succ_eq_append_getElem (by simpa using hk)]
 simp
theorem z5u {m : Module} {k : Nat} (hk : m.globs.length ≤ k) : gnT m k = qn m := by
 unfold gnT qn
 rw [List.take_of_length_le (by simpa [q59] using hk)]
theorem qps (m : Module) (k : Nat) : (gnT m k).length ≤ m.funcs.length + k := by
 unfold gnT q3c
 simp
 omega
set_option maxRecDepth 10000 in
theorem qsl (m : Module) (hf : m.funcs.length ≤ 16) (hg : m.globs.length ≤ 16) : APure Tryz.prog 20 [.agg (q8 m)] (q2k (qn m)) := by
 refine qb _ _ Tryz.func20 (by kernel_rfl) qdu qe7 rfl rfl (fun _ => ?_)
 simp [q7d, q7q]
 refine qe (κ := Nat) (fun k => k ≤ m.funcs.length) (fun k => m.funcs.length - k) (fun k => [(sl 4, .int k), (sl 3, .own 0 (fnT m k).length)]) (fun k => [(0, .row 9 1 (fnT m k).length fun i => strC ((fnT m k)[i]?.getD ⟨#[]⟩))]) 1 0 (srcs [(0, .nil)]) (by simp) (by simp) ?_
 rintro k hk
 simp
 refine ⟨fun hlt => ⟨hlt, ?_⟩, fun hge => ?_⟩
 ·have hlm := qpq m k
  refine ⟨by omega, k + 1, by omega, by omega, srcs [(0, .id 14)], ?_⟩
  simp [SLeK, z06 hlt, getD_some hlt]
  exact ⟨q6 (q5 (by omega)), fun i hi => q1t hi⟩
 rw [z5k hge]
 refine qe (κ := Nat) (fun k => k ≤ m.globs.length) (fun k => m.globs.length - k) (fun k => [(sl 5, .int k), (sl 3, .own 0 (gnT m k).length)]) (fun k => [(0, .row 9 1 (gnT m k).length fun i => strC ((gnT m k)[i]?.getD ⟨#[]⟩))]) 1 0 (srcs [(0, .id 0)]) (by simp) (by simp) ?_
 rintro j hj
 simp
 refine ⟨fun hlt => ⟨hlt, ?_⟩, fun hge => ?_⟩
 ·have hlm := qps m j
  refine ⟨by omega, j + 1, by omega, by omega, srcs [(0, .id 14)], ?_⟩
  simp [SLeK, z08 hlt, getD_some hlt]
  exact ⟨q6 (q5 (by omega)), fun i hi => q1t hi⟩
 ·rw [z5u hge]
  exact DLe.refl _
def InvS (m : Module) (l : List Inst) (o : Bool) : Prop := o = l.any (oddI m) ∧ l.any (q6q m) = false
theorem InvS.start (m : Module) : InvS m [] false := ⟨rfl, rfl⟩
theorem InvS.snoc {m : Module} {l : List Inst} {o : Bool} {i : Inst} (h : InvS m l o) (hm : q6q m i = false) : InvS m (l ++ [i]) (o || oddI m i) := by
 obtain ⟨h1, h2⟩ := h
 refine ⟨?_, ?_⟩
 ·rw [List.any_append, ← h1]; simp
 ·rw [List.any_append, h2]; simp [hm]
theorem InvS.all {m : Module} {o : Bool} (h : InvS m (insM m) o) : qi6 m = if o = true then 1 else 0 := by
 obtain ⟨h1, h2⟩ := h
 unfold qi6
 rw [h2, ← h1]
 simp
theorem qni {m : Module} {i : Inst} (hi : i ∈ insM m) (h : q6q m i = true) : qi6 m = 8 := by
 unfold qi6
 rw [if_pos (List.any_eq_true.2 ⟨i, hi, h⟩)]
theorem qrx {fs : List Func} {s : ByteArray} (h : 0 ≤ q44 (fun f => decide (f.name = s)) fs) : ∃ k, ∃ hk : k < fs.length, q44 (fun f => decide (f.name = s)) fs = k ∧ fs[k].name = s := by
 unfold q44 at h ⊢
 split at h
 ·rename_i i hi
  obtain ⟨hi, hp, _⟩ := List.findIdx?_eq_some_iff_getElem.1 hi
  exact ⟨i, hi, rfl, by simpa using hp⟩
 ·omega
theorem z6l {m : Module} {x : Inst} (h14 : x.op = 14) (h : q44 (fun f => decide (f.name = x.name)) m.funcs < 0) : q6q m x = true := by
 have : qa7 m.funcs x.name = none := qq5.2 fun f hf => by simpa using qmb.1 h f hf
 unfold q6q
 simp [h14, this]
theorem qve {m : Module} {x : Inst} (h12 : x.op = 12 ∨ x.op = 13) (h : q44 (fun f => decide (f.name = x.name)) m.globs < 0) : q6q m x = true := by
 have : hasG m.globs x.name = false := by
  rw [← Bool.not_eq_true, q4j]
  rintro ⟨g, hg, e⟩
  have := qmb.1 h g hg
  simp [e] at this
 unfold q6q
 rcases h12 with h | h <;> simp [h, this]
theorem z3l {m : Module} {x : Inst} (h14 : x.op = 14) (h : 0 ≤ q44 (fun f => decide (f.name = x.name)) m.funcs) : q6q m x = false := by
 obtain ⟨a, ha, hae, hname⟩ := qrx h
 obtain ⟨p, hp⟩ := qq6 (List.getElem_mem ha) hname
 exact ql7 (fun _ => ⟨p, hp⟩) (fun h => by omega)
theorem z3m {m : Module} {x : Inst} (h12 : x.op = 12 ∨ x.op = 13) (h : 0 ≤ q44 (fun f => decide (f.name = x.name)) m.globs) : q6q m x = false := by
 refine ql7 (fun h => by omega) (fun _ => q4j.2 ?_)
 have h' : ¬ q44 (fun f : Glob => decide (f.name = x.name)) m.globs < 0 := by omega
 rw [qmb] at h'
 simpa using h'
theorem odd_call {m : Module} {x : Inst} (hn : (m.funcs.map (·.name)).Nodup) (h14 : x.op = 14) {a : Nat} (ha : a < m.funcs.length) (hname : m.funcs[a].name = x.name) : oddI m x = !decide (m.funcs[a].params = x.args.length) := by
 have hq : qa7 m.funcs x.name = some m.funcs[a].params := by rw [← hname]; exact qq7 hn (List.getElem_mem ha)
 unfold oddI
 rw [hq]
 simp [h14, bne]
 rfl
theorem odd_no {m : Module} {x : Inst} (h14 : x.op ≠ 14) : oddI m x = false := by
 unfold oddI
 simp [h14]
set_option maxRecDepth 10000 in
set_option maxHeartbeats 1000000 in
theorem q84 (m : Module) (hi : ∀ f ∈ m.funcs, ∀ b ∈ f.blocks, ∀ i ∈ b.ins, i.args.length ≤ 17592186044416) : APure Tryz.prog 8 [.agg (q8 m)] (.int (q5z m)) := by
  refine qb _ _ Tryz.func8 (by kernel_rfl) qdq qe3 rfl rfl (fun _ => ?_)
  simp [q79, q7m]
  refine ⟨fun h => q6 ?_, fun hf hg => ?_⟩
  · unfold q5z
    rw [if_pos (by omega)]
  refine qe (κ := Nat) (fun k => k ≤ m.funcs.length ∧ ∀ j (h : j < m.funcs.length), j < k → qr m.funcs[j] = true) (fun k => m.funcs.length - k) (fun k => [(sl 3, .int k)]) (fun _ => []) 0 0 (srcs []) (by simp) (by simp) ?_
  rintro k ⟨hk, hall⟩
  simp
  refine ⟨fun hlt => ⟨hlt, ?_⟩, fun hge => ?_⟩
  · rw [getD_some hlt]
    refine q4 (ds := [.agg (qm m.funcs[k])]) _ (by simp) (by simp) (fun _ => rfl) (fun _ => qk6 m.funcs[k] (hi _ (List.getElem_mem hlt))) ?_
    simp
    refine ⟨fun h => q6 ?_, fun h => ?_⟩
    · unfold q5z
      rw [if_neg (by omega), if_pos (by rw [qtr hlt h]; rfl)]
    · refine ⟨k + 1, ⟨hlt, fun j hj hj' => ?_⟩, by omega, srcs [], ?_⟩
      · rcases Nat.lt_or_ge j k with h1 | h1
        · exact hall j hj h1
        · obtain rfl : j = k := by omega
          exact h
      · simp [SLeK]
        exact q6 (q5 (by omega))
  have hff := qlh fun j hj => hall j hj (by omega)
  refine qe (κ := Nat) (fun k => k ≤ m.globs.length ∧ ∀ j (h : j < m.globs.length), j < k → qbl m.globs[j] = true) (fun k => m.globs.length - k) (fun k => [(sl 5, .int k)]) (fun _ => []) 0 0 (srcs []) (by simp) (by simp) ?_
  rintro k' ⟨hk', hall'⟩
  simp
  refine ⟨fun hlt => ⟨hlt, ?_⟩, fun hge' => ?_⟩
  · rw [getD_some hlt]
    refine q4 (ds := [.str m.globs[k'].name]) _ (by simp) (by simp) (fun _ => rfl) (fun _ => qcm m.globs[k'].name) ?_
    simp
    refine ⟨fun h1 h2 h3 h4 => ⟨⟨⟨⟨h1, h2⟩, h3⟩, h4⟩, fun h5 => ⟨⟨⟨⟨h1, h2⟩, h3⟩, h4⟩, h5⟩⟩, fun h1 h2 h3 => ⟨⟨⟨h1, h2⟩, h3⟩, fun h4 => ⟨⟨⟨h1, h2⟩, h3⟩, h4⟩⟩, fun h => q6 ?_, ?_⟩
    · have hno : qbl m.globs[k'] = false := by
        unfold qbl
        rcases h with ((h | h) | h) | ⟨h, h' | h'⟩
        · simp [h]
        · simp; intro _ h2; omega
        · simp; intro _ h2 h3; omega
        · simp [h]; intro _ _ _ h5; exact absurd h5 h'
        · simp [h, h']
      unfold q5z
      rw [if_neg (by omega), if_pos (by rw [qtr hlt hno]; simp)]
    · intro h1 h2 h3 h4
      refine ⟨k' + 1, ⟨hlt, fun j hj hj' => ?_⟩, by omega, srcs [], ?_⟩
      · rcases Nat.lt_or_ge j k' with h5 | h5
        · exact hall' j hj h5
        · obtain rfl : j = k' := by omega
          unfold qbl
          cases hh : m.globs[j].here with
          | true => simp [h1, h2, h3]
          | false =>
            obtain ⟨h6, h7⟩ := h4 hh
            simp [h1, h2, h3, h6, h7]
      · simp [SLeK]
        exact q6 (q5 (by omega))
  have hgg := qlh fun j hj => hall' j hj (by omega)
  have hc : q5z m = if q72 (qn m) < m.funcs.length + m.globs.length then 9 else qi6 m := by
    unfold q5z
    rw [if_neg (by omega), if_neg (by rw [hff, hgg]; simp)]
  have hnl : (qn m).length = m.funcs.length + m.globs.length := by simp [qn, q3c, q59]
  rw [← hnl] at hc
  refine q4 (ds := [.agg (q8 m)]) _ (by simp) (by simp) (fun _ => rfl) (fun _ => qsl m (by omega) (by omega)) ?_
  simp
  obtain ⟨ns, hns⟩ : ∃ ns, qn m = ns := ⟨_, rfl⟩
  rw [hns] at hc hnl
  simp only [hns]
  refine qe (κ := Nat) (fun k => k ≤ ns.length ∧ ∀ a b (ha : a < ns.length) (hb : b < ns.length), b < a → a < k → ns[a] ≠ ns[b]) (fun k => ns.length - k) (fun k => [(sl 9, .int k)]) (fun _ => []) 0 0 (srcs []) (by simp) (by simp) ?_
  rintro i ⟨hil, hnd⟩
  simp
  refine ⟨fun hlt => ?_, fun hge'' => ?_⟩
  · refine qe (κ := Nat) (fun k => k ≤ i ∧ ∀ b (hb : b < ns.length), b < k → ns[i] ≠ ns[b]) (fun k => i - k) (fun k => [(sl 10, .int k)]) (fun _ => []) 0 0 (srcs []) (by simp) (by simp) ?_
    rintro p ⟨hpi, hpb⟩
    simp
    refine ⟨fun hpl => ?_, fun hge3 => ?_⟩
    · have hpl' : p < ns.length := by omega
      refine ⟨hlt, hpl', ?_⟩
      refine ⟨fun he => q6 ?_, fun hne => ?_⟩
      · have he' : ns[i] = ns[p] := by simpa [hlt, hpl'] using he
        rw [hc, if_pos]
        rw [qav]
        intro hnn
        have := List.pairwise_iff_getElem.1 hnn p i hpl' hlt hpl
        exact this he'.symm
      · have hne' : ns[i] ≠ ns[p] := by simpa [hlt, hpl'] using hne
        refine ⟨p + 1, ⟨by omega, fun b hb hbp => ?_⟩, by omega, srcs [], ?_⟩
        · rcases Nat.lt_or_ge b p with h5 | h5
          · exact hpb b hb h5
          · obtain rfl : b = p := by omega
            exact hne'
        · simp [SLeK]
          exact q6 (q5 (by omega))
    · refine ⟨i + 1, ⟨by omega, fun a b ha hb hba hai => ?_⟩, by omega, srcs [], ?_⟩
      · rcases Nat.lt_or_ge a i with h5 | h5
        · exact hnd a b ha hb hba h5
        · obtain rfl : a = i := by omega
          exact hpb b hb (by omega)
      · simp [SLeK]
        exact q6 (q5 (by omega))
  have hnod : ns.Nodup := by
    refine List.pairwise_iff_getElem.2 fun b a hb ha hba => ?_
    exact Ne.symm (hnd a b ha hb hba (by omega))
  rw [if_neg (by rw [qav]; exact fun h => h hnod)] at hc
  rw [← hns] at hnod
  have hfn : (m.funcs.map (·.name)).Nodup := (List.nodup_append.1 hnod).1
  rw [hc]
  refine qe (κ := KO) (fun s => s.k ≤ m.funcs.length ∧ InvS m ((m.funcs.take s.k).flatMap qk) s.o) (fun s => m.funcs.length - s.k) (fun s => [(sl 12, .int s.k), (sl 11, .d (.lit (.bool s.o)))]) (fun _ => []) 0 ⟨0, false⟩ (srcs []) ⟨Nat.zero_le _, InvS.start m⟩ (by simp) ?_
  rintro ⟨fi, o⟩ ⟨hfi, hin⟩
  simp
  refine ⟨fun hflt => ?_, fun hfge => ?_⟩
  · obtain ⟨f, hfe⟩ : ∃ f, m.funcs[fi] = f := ⟨_, rfl⟩
    have hfm : f ∈ m.funcs := by rw [← hfe]; exact List.getElem_mem hflt
    have hfk : m.funcs[fi]?.getD default = f := by rw [getD_some hflt, hfe]
    have hfok := List.all_eq_true.1 hff f hfm
    have hbmax := q1v hfok
    obtain ⟨L, hL⟩ : ∃ L, (m.funcs.take fi).flatMap qk = L := ⟨_, rfl⟩
    simp only [hL] at hin
    have hsub : ∀ i ∈ qk f, i ∈ insM m := fun i hi => List.mem_flatMap.2 ⟨f, hfm, hi⟩
    refine qe (κ := KO) (fun s => s.k ≤ f.blocks.length ∧ InvS m (L ++ (f.blocks.take s.k).flatMap (·.ins)) s.o) (fun s => f.blocks.length - s.k) (fun s => [(sl 13, .int s.k), (sl 11, .d (.lit (.bool s.o)))]) (fun _ => []) 0 ⟨0, o⟩ (srcs []) ⟨Nat.zero_le _, by simpa using hin⟩ (by simp) ?_
    rintro ⟨bi, o2⟩ ⟨hbi, hin2⟩
    simp [hfk]
    refine ⟨hflt, fun hblt => ?_, fun hbge => ?_⟩
    · obtain ⟨b, hbe⟩ : ∃ b, f.blocks[bi] = b := ⟨_, rfl⟩
      have hbk : f.blocks[bi]?.getD default = b := by rw [getD_some hblt, hbe]
      have himax : b.ins.length ≤ 32 := by rw [← hbe]; exact (q80 (q31 hfok hblt)).2.2.1
      obtain ⟨L2, hL2⟩ : ∃ L2, L ++ (f.blocks.take bi).flatMap (·.ins) = L2 := ⟨_, rfl⟩
      simp only [hL2] at hin2
      have hsub2 : ∀ i ∈ b.ins, i ∈ insM m := fun i hi => hsub i (List.mem_flatMap.2 ⟨b, by rw [← hbe]; exact List.getElem_mem hblt, hi⟩)
      refine qe (κ := KO) (fun s => s.k ≤ b.ins.length ∧ InvS m (L2 ++ b.ins.take s.k) s.o) (fun s => b.ins.length - s.k) (fun s => [(sl 14, .int s.k), (sl 11, .d (.lit (.bool s.o)))]) (fun _ => []) 0 ⟨0, o2⟩ (srcs []) ⟨Nat.zero_le _, by simpa using hin2⟩ (by simp) ?_
      rintro ⟨ii, o3⟩ ⟨hii, hin3⟩
      simp [hfk, hbk]
      refine ⟨hflt, hblt, fun hilt => ⟨hflt, hblt, hilt, ?_⟩, fun hige => ?_⟩
      · obtain ⟨x, hxe⟩ : ∃ x, b.ins[ii] = x := ⟨_, rfl⟩
        have hxk : b.ins[ii]?.getD default = x := by rw [getD_some hilt, hxe]
        have hxm : x ∈ insM m := hsub2 x (by rw [← hxe]; exact List.getElem_mem hilt)
        have htk : L2 ++ b.ins.take (ii + 1) = L2 ++ b.ins.take ii ++ [x] := by
          rw [List.take_succ_eq_append_getElem hilt, hxe, List.append_assoc]
        simp only [hxk]
        simp only at hin3
        refine ⟨fun h14 => ?_, fun hn14 => ?_⟩
        · refine q4 (ds := [.agg (q8 m), .str x.name]) _ (by simp) (by simp) (fun _ => by simp; rfl) (fun _ => q56 m x.name) ?_
          simp
          refine ⟨fun hneg => q6 (qni hxm (z6l h14 hneg)).symm, fun hpos => ⟨fun h => ⟨h, hpos, ?_⟩, ?_⟩⟩
          · obtain ⟨a, ha, hae, _⟩ := qrx hpos
            rw [hae]
            exact_mod_cast ha
          refine q4 (ds := [.agg (q8 m), .str x.name]) _ (by simp) (by simp) (fun _ => by simp; rfl) (fun _ => qaz m x.name) ?_
          simp
          refine ⟨fun h12 hneg => q6 (qni hxm (qve h12 hneg)).symm, ?_⟩
          intro hgl
          obtain ⟨a, ha, hae, hname⟩ := qrx hpos
          refine ⟨⟨ii + 1, o3 || oddI m x⟩, ⟨by simp; omega, ?_⟩, by simp; omega, srcs [], ?_⟩
          · simp only []
            rw [htk]
            exact hin3.snoc (z3l h14 hpos)
          · simp [SLeK, hae]
            rw [getD_some ha, odd_call hfn h14 ha hname]
            exact ⟨q6 (q5 (by omega)), DLe.refl _⟩
        · refine q4 (ds := [.agg (q8 m), .str x.name]) _ (by simp) (by simp) (fun _ => by simp; rfl) (fun _ => qaz m x.name) ?_
          simp
          refine ⟨fun h12 hneg => q6 (qni hxm (qve h12 hneg)).symm, ?_⟩
          intro hgl
          have hmx : q6q m x = false := by
            by_cases h12 : x.op = 12 ∨ x.op = 13
            · exact z3m h12 (hgl h12)
            · exact ql7 (fun h => absurd h hn14) (fun h => absurd h h12)
          refine ⟨⟨ii + 1, o3 || oddI m x⟩, ⟨by simp; omega, ?_⟩, by simp; omega, srcs [], ?_⟩
          · simp only []
            rw [htk]
            exact hin3.snoc hmx
          · rw [odd_no hn14]
            simp [SLeK]
            exact q6 (q5 (by omega))
      · refine ⟨⟨bi + 1, o3⟩, ⟨by simp; omega, ?_⟩, by simp; omega, srcs [], ?_⟩
        · simp only at hin3 ⊢
          rw [List.take_of_length_le hige] at hin3
          rw [List.take_succ_eq_append_getElem hblt, List.flatMap_append, ← List.append_assoc, hL2, hbe]
          simpa using hin3
        · simp [SLeK]
          exact q6 (q5 (by omega))
    · refine ⟨⟨fi + 1, o2⟩, ⟨by simp; omega, ?_⟩, by simp; omega, srcs [], ?_⟩
      · simp only at hin2 ⊢
        rw [List.take_of_length_le hbge] at hin2
        rw [List.take_succ_eq_append_getElem hflt, List.flatMap_append, hL, hfe]
        simpa [qk] using hin2
      · simp [SLeK]
        exact q6 (q5 (by omega))
  · simp only at hin
    rw [List.take_of_length_le hfge] at hin
    rw [InvS.all hin]
    exact ⟨fun h => q6 (by rw [if_pos h]), fun h => q6 (by rw [h]; rfl)⟩
end Go.Proofs.YtgadlpdbkohlbaaGreat
namespace Go.Proofs.YtgadlpdbkohlbaaGreat
open Go.RowKit
def q55 (m : Module) (s : ByteArray) : Option Func := m.funcs.find? fun f => decide (f.name = s)
theorem qha {α : Type} (p : α → Bool) : ∀ xs : List α, (∃ k, ∃ hk : k < xs.length, q44 p xs = k ∧ xs.find? p = some xs[k]) ∨ (q44 p xs = -1 ∧ xs.find? p = none)
  | [] => .inr ⟨rfl, rfl⟩
  | x :: xs => by
    by_cases hx : p x = true
    · exact .inl ⟨0, by simp, q49 (k := 0) (by simp) (fun i _ hi => by omega) hx, by simp [hx]⟩
    · have hx' : p x = false := by simpa using hx
      rcases qha p xs with ⟨k, hk, h1, h2⟩ | ⟨h1, h2⟩
      · refine .inl ⟨k + 1, by simpa using hk, ?_, by simp [hx', h2]⟩
        unfold q44 at h1 ⊢
        rw [List.findIdx?_cons, hx']
        cases hf : xs.findIdx? p with
        | none => rw [hf] at h1; simp at h1
        | some i => rw [hf] at h1; simp at h1 ⊢; omega
      · refine .inr ⟨?_, by simp [hx', h2]⟩
        unfold q44 at h1 ⊢
        rw [List.findIdx?_cons, hx']
        cases hf : xs.findIdx? p with
        | none => simp
        | some i => rw [hf] at h1; simp at h1
theorem qhk (m : Module) (s : ByteArray) : (∃ k, ∃ hk : k < m.funcs.length, q44 (fun f => decide (f.name = s)) m.funcs = k ∧ q55 m s = some m.funcs[k]) ∨ (q44 (fun f => decide (f.name = s)) m.funcs = -1 ∧ q55 m s = none) := qha _ _
def findG (m : Module) (s : ByteArray) : Option Glob := m.globs.find? fun g => decide (g.name = s)
theorem z6e (m : Module) (s : ByteArray) : (∃ k, ∃ hk : k < m.globs.length, q44 (fun f : Glob => decide (f.name = s)) m.globs = k ∧ findG m s = some m.globs[k]) ∨ (q44 (fun f : Glob => decide (f.name = s)) m.globs = -1 ∧ findG m s = none) := qha _ _
theorem qis {m : Module} (h : ModOk m) {f : Func} (hf : f ∈ m.funcs) : q55 m f.name = some f := by
  unfold q55
  cases hx : m.funcs.find? fun g => decide (g.name = f.name) with
  | none =>
    have := List.find?_eq_none.1 hx f hf
    simp at this
  | some g =>
    have h1 := List.mem_of_find?_eq_some hx
    have h2 : g.name = f.name := by simpa using List.find?_some hx
    rw [qhq h.fnodup h1 hf h2]
def qco (l : List Func) : List ByteArray := l.flatMap fun f => qo (qk f)
theorem qk9 (l l' : List Func) : qco (l ++ l') = qco l ++ qco l' := by simp [qco]
def qvc : ByteArray := ⟨#[109, 97, 105, 110]⟩
def q40 (m : Module) (s : ByteArray) : Bool := match q55 m s with
  | some f => decide (f.blocks.length ≠ 0)
  | none => match findG m s with
    | some g => g.here
    | none => false
def qf8 (m : Module) : Bool := match q55 m qvc with
 | some f => decide (f.blocks.length ≠ 0) && decide (f.params = 0)
 | none => false
def q65 (m : Module) : Int := if q5z m ≠ 0 then q5z m else if qf8 m = true then (if (qco m.funcs).all (q40 m) = true then 0 else 8) else 11
theorem qgf {m : Module} : q65 m = 0 ↔ ModOk m ∧ qf8 m = true ∧ ∀ s ∈ qco m.funcs, q40 m s = true := by
 unfold q65
 split
 ·rename_i h
  exact ⟨fun h' => absurd h' h, fun h' => absurd (q34.2 h'.1) h⟩
 ·rename_i h
  have hok := q34.1 (Classical.not_not.1 h)
  split
  ·rename_i hm
   split
   ·rename_i ha
    exact ⟨fun _ => ⟨hok, hm, List.all_eq_true.1 ha⟩, fun _ => rfl⟩
   ·rename_i ha
    exact ⟨fun h' => (by cases h'), fun h' => absurd (List.all_eq_true.2 h'.2.2) ha⟩
  ·rename_i hm
   exact ⟨fun h' => (by cases h'), fun h' => absurd h'.2.1 hm⟩
structure Small (m : Module) : Prop where
 len : m.funcs.length + m.globs.length ≤ 1048576
 ins : ∀ f ∈ m.funcs, (qk f).length ≤ 1048576
 blks : ∀ f ∈ m.funcs, f.blocks.length ≤ 1048576
 args : ∀ f ∈ m.funcs, ∀ b ∈ f.blocks, ∀ i ∈ b.ins, i.args.length ≤ 17592186044416
def q5u (n : Int) : Int := IntKind.u64.wrap n
def powI : Nat → Int
 | 0 => 1
 | n + 1 => q5u (powI n + powI n)
def q4l (op a b : Int) : Int :=
 if op = 2 then q5u (a + b) else if op = 3 then q5u (a - b) else if op = 4 then q5u (a * b)
 else if op = 5 then q5u (((a % 2 ^ IntKind.u64.bits).toNat &&& (b % 2 ^ IntKind.u64.bits).toNat : Nat) : Int)
 else if op = 6 then q5u (((a % 2 ^ IntKind.u64.bits).toNat ||| (b % 2 ^ IntKind.u64.bits).toNat : Nat) : Int)
 else if op = 7 then q5u (((a % 2 ^ IntKind.u64.bits).toNat ^^^ (b % 2 ^ IntKind.u64.bits).toNat : Nat) : Int)
 else if op = 8 then q5u (a * powI (b.tmod 64).toNat)
 else if op = 9 then q5u (a.tdiv (powI (b.tmod 64).toNat))
 else if op = 10 ∧ a < b ∨ op = 11 ∧ a = b then 1 else 0
structure Wd where
 ended : Bool
 code : Int
 out : ByteArray
 read : Nat
 steps : Nat
 deep : Nat
 globs : List Int
 bad : Int
def qks (l : List Int) (i : Int) : Int := l[i.toNat]?.getD 0
def qyg (vals l : List Int) : List Int := l.map (qks vals)
def globI (m : Module) (s : ByteArray) : Int := q44 (fun g : Glob => decide (g.name = s)) m.globs
def byteS (v : Int) : ByteArray := z2s [IntKind.u8.wrap (v.tmod 256)]
def z38 (fuel : Nat) (w : Wd) : Wd := if w.steps = fuel then { w with bad := 12 } else { w with steps := w.steps + 1 }
def z5s (m : Module) (inp : ByteArray) (x : Inst) (vals : List Int) (w : Wd) : Wd × Int :=
 if x.op = 1 then (w, x.k)
 else if x.op = 12 then (w, qks w.globs (globI m x.name))
 else if x.op = 13 then ({ w with globs := w.globs.set (globI m x.name).toNat (qks vals x.a) }, 0)
 else if x.op = 15 then (if inp.size ≤ w.read then (w, 256) else ({ w with read := w.read + 1 }, q5u ((inp[w.read]?).getD 0).toNat))
 else if x.op = 16 then ({ w with out := w.out ++ byteS (qks vals x.a) }, 0)
 else (w, q4l x.op (qks vals x.a) (qks vals x.b))
def funcOf (m : Module) (s : ByteArray) : Func := (q55 m s).getD default
def enterW (n : Nat) (w : Wd) : Wd := if w.deep < n then { w with deep := n } else w
def goR (m : Module) (inp : ByteArray) (fuel deep : Nat) : Nat → Wd → Func → Nat → Nat → List Int → Nat → Wd × Int
  | 0, w, _, _, _, _, _ => (w, 0)
  | g + 1, w, f, at', i, vals, n =>
    let b := f.blocks[at']?.getD default
    let w1 := z38 fuel w
    if w1.bad ≠ 0 then (w1, 0)
    else if i < b.ins.length then
      let x := b.ins[i]?.getD default
      if x.op = 14 then
        if n = deep then ({ w1 with bad := 13 }, 0)
        else
          let r := goR m inp fuel deep g (enterW (n + 1) w1) (funcOf m x.name) 0 0 (qyg vals x.args) (n + 1)
          if r.1.bad ≠ 0 then (r.1, 0) else goR m inp fuel deep g r.1 f at' (i + 1) (vals ++ [r.2]) n
      else
        let r := z5s m inp x vals w1
        goR m inp fuel deep g r.1 f at' (i + 1) (vals ++ [r.2]) n
    else if b.kind = 3 then (w1, qks vals b.ta)
    else if b.kind = 2 ∧ qks vals b.ta = 0 then goR m inp fuel deep g w1 f b.els.toNat 0 (qyg vals b.elses) n
    else goR m inp fuel deep g w1 f b.to.toNat 0 (qyg vals b.args) n
structure Good (m : Module) (fuel : Nat) (w : Wd) : Prop where
 bad : w.bad = 0
 steps : w.steps ≤ fuel
 out : w.out.size ≤ w.steps
 globs : w.globs.length = m.globs.length
 pos : ∀ v ∈ w.globs, 0 ≤ v
 read : w.read ≤ w.steps
 ended : w.ended = false
 code : w.code = 0
def goF (m : Module) (inp : ByteArray) (fuel deep : Nat) (w : Wd) (f : Func) (at' i : Nat) (vals : List Int) (n : Nat) : Wd × Int := goR m inp fuel deep (fuel + 1) w f at' i vals n
section
variable {m : Module} {inp : ByteArray} {fuel deep : Nat} {w : Wd} {f : Func} {at' i : Nat} {vals : List Int} {n : Nat}
end
theorem qux {f : Func} {to : Int} {l : List Int} {n : Int} (h : q4a f to l n = true) : q3r l n = true := by
 have := qmj h
 rw [ql3 this.1 this.2.1 this.2.2] at h
 exact h
theorem z68 {i : Inst} {n : Int} (h : qt i n = true) : 1 ≤ i.op ∧ i.op ≤ 16 := by
 unfold qt at h
 simp only [Bool.and_eq_true, decide_eq_true_eq] at h
 obtain ⟨⟨⟨⟨⟨⟨⟨⟨h1, h2⟩, _⟩, _⟩, _⟩, _⟩, _⟩, _⟩, _⟩ := h
 exact ⟨h1, h2⟩
def qoy (m : Module) : Prop := ∀ f ∈ m.funcs, ∀ b ∈ f.blocks, ∀ i ∈ b.ins, i.args.length ≤ 17592186044416
theorem qdk {m : Module} (h : ModOk m) : Small m where
 len := by have h1 := h.nf; have h2 := h.ng; omega
 ins := fun f hf => Nat.le_trans (z4r (h.funcs f hf)) (by omega)
 blks := fun f hf => Nat.le_trans (q1v (h.funcs f hf)) (by omega)
 args := fun f hf b hb i hi => by
  have hbk := List.all_eq_true.1 (q2g (h.funcs f hf)) b hb
  obtain ⟨_, _, _, hins, _⟩ := q80 hbk
  obtain ⟨k, hk, rfl⟩ := List.getElem_of_mem hi
  have := q8w (hins k hk)
  omega
end Go.Proofs.YtgadlpdbkohlbaaGreat
namespace Go.Proofs.YtgadlpdbkohlbaaGreat
open Go.RowKit
structure WR (w w2 : Wd) : Prop where
 out : w2.out = w.out
 read : w2.read = w.read
 globs : w2.globs = w.globs
 steps : w2.steps ≤ w.steps
 deep : w2.deep ≤ w.deep
section
variable {m m2 : Module} {inp : ByteArray} {fuel deep : Nat} {w w2 : Wd}
end
abbrev St4 := Func → Nat → Nat → List Int → Func → Nat → Nat → List Int → Prop
structure Valid (m : Module) (f : Func) (at' i : Nat) (vals : List Int) (b : Block) : Prop where
 mem : f ∈ m.funcs
 blk : f.blocks[at']? = some b
 len : (vals.length : Int) = b.params + i
 le : i ≤ b.ins.length
def Pos (l : List Int) : Prop := ∀ v ∈ l, 0 ≤ v
structure SimOk (m m2 : Module) (inp : ByteArray) (fuel deep : Nat) (R : St4) : Prop where
 entry : ∀ (f : Func) (args : List Int), f ∈ m.funcs → 0 < f.blocks.length → (args.length : Int) = f.params → R f 0 0 args (funcOf m2 f.name) 0 0 args
 plain : ∀ {w w2 : Wd} {f : Func} {at' i : Nat} {vals : List Int} {f2 : Func} {at2 i2 : Nat} {vals2 : List Int} {n : Nat} {b : Block} {x : Inst}, R f at' i vals f2 at2 i2 vals2 → Valid m f at' i vals b → Pos vals → Pos vals2 → Good m fuel w → Good m2 fuel w2 → WR w w2 → b.ins[i]? = some x → ¬ x.op = 14 → ¬ w.steps = fuel →
  ∃ w2' i2' vals2', Good m2 fuel w2' ∧ Pos vals2' ∧ WR (z5s m inp x vals (z38 fuel w)).1 w2' ∧ R f at' (i + 1) (vals ++ [(z5s m inp x vals (z38 fuel w)).2]) f2 at2 i2' vals2' ∧ goF m2 inp fuel deep w2 f2 at2 i2 vals2 n = goF m2 inp fuel deep w2' f2 at2 i2' vals2' n
 call : ∀ {w w2 : Wd} {f : Func} {at' i : Nat} {vals : List Int} {f2 : Func} {at2 i2 : Nat} {vals2 : List Int} {n : Nat} {b : Block} {x : Inst}, R f at' i vals f2 at2 i2 vals2 → Valid m f at' i vals b → Pos vals → Pos vals2 → Good m fuel w → Good m2 fuel w2 → WR w w2 → b.ins[i]? = some x → x.op = 14 → ¬ w.steps = fuel → ¬ n = deep →
  (∃ b2 x2, f2.blocks[at2]? = some b2 ∧ b2.ins[i2]? = some x2 ∧ x2.op = 14 ∧ x2.name = x.name ∧ qyg vals2 x2.args = qyg vals x.args ∧ ∀ v, 0 ≤ v → R f at' (i + 1) (vals ++ [v]) f2 at2 (i2 + 1) (vals2 ++ [v])) ∨
  (∀ r, goF m inp fuel deep (enterW (n + 1) (z38 fuel w)) (funcOf m x.name) 0 0 (qyg vals x.args) (n + 1) = r → r.1.bad = 0 →
   ∃ w2' i2' vals2', Good m2 fuel w2' ∧ Pos vals2' ∧ WR r.1 w2' ∧ R f at' (i + 1) (vals ++ [r.2]) f2 at2 i2' vals2' ∧ goF m2 inp fuel deep w2 f2 at2 i2 vals2 n = goF m2 inp fuel deep w2' f2 at2 i2' vals2' n)
 ret : ∀ {w w2 : Wd} {f : Func} {at' i : Nat} {vals : List Int} {f2 : Func} {at2 i2 : Nat} {vals2 : List Int} {n : Nat} {b : Block}, R f at' i vals f2 at2 i2 vals2 → Valid m f at' i vals b → Pos vals → Pos vals2 → Good m fuel w → Good m2 fuel w2 → WR w w2 → i = b.ins.length → b.kind = 3 → ¬ w.steps = fuel →
  ∃ w2', Good m2 fuel w2' ∧ WR (z38 fuel w) w2' ∧ goF m2 inp fuel deep w2 f2 at2 i2 vals2 n = (w2', qks vals b.ta)
 jump : ∀ {w w2 : Wd} {f : Func} {at' i : Nat} {vals : List Int} {f2 : Func} {at2 i2 : Nat} {vals2 : List Int} {n : Nat} {b : Block}, R f at' i vals f2 at2 i2 vals2 → Valid m f at' i vals b → Pos vals → Pos vals2 → Good m fuel w → Good m2 fuel w2 → WR w w2 → i = b.ins.length → ¬ b.kind = 3 → ¬ w.steps = fuel →
  ∀ to args, (if b.kind = 2 ∧ qks vals b.ta = 0 then to = b.els ∧ args = b.elses else to = b.to ∧ args = b.args) →
  ∃ w2' at2' vals2', Good m2 fuel w2' ∧ Pos vals2' ∧ WR (z38 fuel w) w2' ∧ R f to.toNat 0 (qyg vals args) f2 at2' 0 vals2' ∧ goF m2 inp fuel deep w2 f2 at2 i2 vals2 n = goF m2 inp fuel deep w2' f2 at2' 0 vals2' n
end Go.Proofs.YtgadlpdbkohlbaaGreat
namespace Go.Proofs.YtgadlpdbkohlbaaGreat
def nuAt (nu : List Int) (v : Int) : Int := nu[v.toNat]?.getD 0
def q5n (l nu : List Int) : List Int := l.map (nuAt nu)
@[simp] theorem turnsL_length (l nu : List Int) : (q5n l nu).length = l.length := by simp [q5n]
theorem z3s {l nu : List Int} {k : Nat} (h : k < l.length) : (q5n l nu)[k]?.getD 0 = nu[(l[k]).toNat]?.getD 0 := by simp [q5n, nuAt, h]
def AllIn (dom : Int → Prop) (l : List Int) : Prop := ∀ k (h : k < l.length), dom l[k]
def inL (nu : List Int) (v : Int) : Prop := 0 ≤ v ∧ v < nu.length
def upTo (n : Int) (v : Int) : Prop := 0 ≤ v ∧ v < n
def qi (g : Int → Int) (i : Inst) : Inst :=
 { i with a := if q69 i.op then g i.a else i.a, b := if q73 i.op then g i.b else i.b, args := i.args.map g }
structure InstIn (dom : Int → Prop) (i : Inst) : Prop where
 a : q69 i.op = true → dom i.a
 b : q73 i.op = true → dom i.b
 args : AllIn dom i.args
theorem AllIn.mono {d d' : Int → Prop} (h : ∀ v, d v → d' v) {l : List Int} (hl : AllIn d l) : AllIn d' l := fun k hk => h _ (hl k hk)
theorem InstIn.mono {d d' : Int → Prop} (h : ∀ v, d v → d' v) {i : Inst} (hi : InstIn d i) : InstIn d' i := ⟨fun e => h _ (hi.a e), fun e => h _ (hi.b e), hi.args.mono h⟩
theorem qjv {d : Int → Prop} {g g' : Int → Int} (h : ∀ v, d v → g v = g' v) {l : List Int} (hl : AllIn d l) : l.map g = l.map g' := by
 apply List.map_congr_left
 intro v hv
 obtain ⟨k, hk, rfl⟩ := List.getElem_of_mem hv
 exact h _ (hl k hk)
theorem qb1 {d : Int → Prop} {g g' : Int → Int} (h : ∀ v, d v → g v = g' v) {i : Inst} (hi : InstIn d i) : qi g i = qi g' i := by
 unfold qi
 have e1 : (if q69 i.op = true then g i.a else i.a) = if q69 i.op = true then g' i.a else i.a := by
  split
  ·rename_i e; exact h _ (hi.a e)
  ·rfl
 have e2 : (if q73 i.op = true then g i.b else i.b) = if q73 i.op = true then g' i.b else i.b := by
  split
  ·rename_i e; exact h _ (hi.b e)
  ·rfl
 rw [e1, e2, qjv h hi.args]
theorem z2l (i : Inst) : qi (fun v => v) i = i := by
 unfold qi
 cases i
 simp
def nuL (g : Int → Int) (n : Nat) : List Int := (List.range n).map fun v : Nat => g (v : Int)
@[simp] theorem z2o (g : Int → Int) (n : Nat) : (nuL g n).length = n := by simp [nuL]
theorem qn2 {g : Int → Int} {n k : Nat} (h : k < n) : (nuL g n)[k]?.getD 0 = g k := by simp [nuL, h]
theorem ql9 {g : Int → Int} {n : Nat} {v : Int} (h0 : 0 ≤ v) (h : v < n) : nuAt (nuL g n) v = g v := by
 obtain ⟨k, rfl⟩ := Int.eq_ofNat_of_zero_le h0
 unfold nuAt
 rw [show (k : Int).toNat = k from rfl]
 exact qn2 (by omega)
def qs7 (p : Int) (args : List Int) (first v : Int) : Int := if v < p then args[v.toNat]?.getD 0 else first + v - p
def q6e (p : Int) (args : List Int) (first ta len v : Int) : Int := if v < first then v else if v = first then qs7 p args first ta else v - 1 + len
def qce (b : Block) (at_ : Int) : Inst := b.ins[at_.toNat]?.getD default
def q60 (b leaf : Block) (at_ : Int) : Bool :=
 decide (0 ≤ at_) && decide (at_ < b.ins.length) && decide ((qce b at_).op = 14) && decide (((qce b at_).args.length : Int) = leaf.params) && decide (leaf.kind = 3) && decide ((b.ins.length : Int) - 1 + leaf.ins.length ≤ 32)
def inG (b leaf : Block) (at_ : Int) : Int → Int := qs7 leaf.params (qce b at_).args (b.params + at_)
def q3n (b leaf : Block) (at_ : Int) : Int → Int := q6e leaf.params (qce b at_).args (b.params + at_) leaf.ta leaf.ins.length
def putB (b leaf : Block) (at_ : Int) : Block :=
 { b with
  ins := b.ins.take at_.toNat ++ leaf.ins.map (qi (inG b leaf at_)) ++ (b.ins.drop (at_.toNat + 1)).map (qi (q3n b leaf at_))
  ta := if b.kind = 1 then b.ta else q3n b leaf at_ b.ta
  args := b.args.map (q3n b leaf at_)
  elses := b.elses.map (q3n b leaf at_) }
structure NumsOk (b : Block) : Prop where
 p0 : 0 ≤ b.params
 p6 : b.params ≤ 6
 n32 : b.ins.length ≤ 32
 ins : ∀ k (h : k < b.ins.length), InstIn (upTo (b.params + k)) b.ins[k]
 args6 : ∀ k (h : k < b.ins.length), b.ins[k].args.length ≤ 6
 ta : ¬ b.kind = 1 → upTo (b.params + b.ins.length) b.ta
 args : AllIn (upTo (b.params + b.ins.length)) b.args
 elses : AllIn (upTo (b.params + b.ins.length)) b.elses
 args17 : b.args.length ≤ 17592186044416
 elses17 : b.elses.length ≤ 17592186044416
end Go.Proofs.YtgadlpdbkohlbaaGreat
namespace Go.Proofs.YtgadlpdbkohlbaaGreat
def cntF (ak ln i : Nat) : Nat := if i ≤ ak then i else i - 1 + ln
theorem qzx {ak ln i : Nat} (h : i ≤ ak) : cntF ak ln i = i := if_pos h
theorem qm2 {ak ln i : Nat} (h : ak < i) : cntF ak ln i = i - 1 + ln := if_neg (by omega)
theorem z56 {ak ln i : Nat} (h : ¬ i = ak) : cntF ak ln (i + 1) = cntF ak ln i + 1 := by
 unfold cntF
 split <;> split <;> omega
theorem cnt_at {ak ln : Nat} : cntF ak ln (ak + 1) = ak + ln := by rw [qm2 (by omega)]; omega
theorem qkf {d : Int → Prop} {g : Int → Int} {nu l : List Int} (h : ∀ v, d v → nuAt nu v = g v) (hl : AllIn d l) : q5n l nu = l.map g := qjv h hl
section
variable {b leaf : Block} {ak P : Nat}
theorem qrh {v : Int} (hP : b.params = (P : Int)) (h : v < P + ak) : q3n b leaf ak v = v := by
 unfold q3n q6e; rw [if_pos (by omega)]
theorem z4o (hP : b.params = (P : Int)) {i : Nat} (h : ¬ i = ak) : (P : Int) + cntF ak leaf.ins.length i = q3n b leaf ak ((P + i : Nat) : Int) := by
 unfold q3n q6e
 by_cases h1 : i < ak
 ·rw [if_pos (by omega), qzx (by omega)]; omega
 ·rw [if_neg (by omega), if_neg (by omega), qm2 (by omega)]; omega
theorem after_at (hP : b.params = (P : Int)) : q3n b leaf ak ((P + ak : Nat) : Int) = inG b leaf ak leaf.ta := by
 unfold q3n q6e inG
 rw [if_neg (by omega), if_pos (by omega)]
theorem in_lo {v : Nat} (h : (v : Int) < leaf.params) : inG b leaf ak v = (qce b ak).args[v]?.getD 0 := by
 unfold inG qs7; rw [if_pos h]; rfl
theorem in_hi (hP : b.params = (P : Int)) {Q j : Nat} (hQ : leaf.params = (Q : Int)) : inG b leaf ak ((Q + j : Nat) : Int) = ((P + (ak + j) : Nat) : Int) := by
 unfold inG qs7; rw [if_neg (by omega), hP, hQ]; omega
theorem qj5 (hk : ak < b.ins.length) : (putB b leaf ak).ins.length = cntF ak leaf.ins.length b.ins.length := by
 rw [qm2 hk]
 simp [putB]
 omega
theorem put_lo (hk : ak < b.ins.length) {i : Nat} (h : i < ak) : (putB b leaf ak).ins[i]?.getD default = b.ins[i] := by
 have h1 : i < b.ins.length := by omega
 simp only [putB]
 rw [show (ak : Int).toNat = ak from rfl, List.append_assoc, List.getElem?_append_left (by simp; omega), List.getElem?_take_of_lt h, List.getElem?_eq_getElem h1]
 rfl
theorem put_hi (hk : ak < b.ins.length) {i : Nat} (h : ak < i) (hi : i < b.ins.length) : (putB b leaf ak).ins[cntF ak leaf.ins.length i]?.getD default = qi (q3n b leaf ak) b.ins[i] := by
 rw [qm2 h]
 simp only [putB]
 rw [show (ak : Int).toNat = ak from rfl, List.getElem?_append_right (by simp; omega)]
 simp only [List.length_append, List.length_take, List.length_map, List.getElem?_map, List.getElem?_drop]
 rw [show ak + 1 + (i - 1 + leaf.ins.length - (min ak b.ins.length + leaf.ins.length)) = i by omega, List.getElem?_eq_getElem hi]
 rfl
theorem z0s (hk : ak < b.ins.length) {j : Nat} (h : j < leaf.ins.length) : (putB b leaf ak).ins[ak + j]?.getD default = qi (inG b leaf ak) leaf.ins[j] := by
 simp only [putB]
 rw [show (ak : Int).toNat = ak from rfl, List.append_assoc, List.getElem?_append_right (by simp; omega), List.getElem?_append_left (by simp; omega)]
 simp only [List.length_take, List.getElem?_map]
 rw [show ak + j - min ak b.ins.length = j by omega, List.getElem?_eq_getElem h]
 rfl
theorem put_turn (hb : NumsOk b) (hP : b.params = (P : Int)) (hk : ak < b.ins.length) {i : Nat} (h : ¬ i = ak) (hi : i < b.ins.length) :
  (putB b leaf ak).ins[cntF ak leaf.ins.length i]?.getD default = qi (nuAt (nuL (q3n b leaf ak) (P + i + 1))) b.ins[i] := by
 have hin := hb.ins i hi
 rw [hP] at hin
 have e : qi (nuAt (nuL (q3n b leaf ak) (P + i + 1))) b.ins[i] = qi (q3n b leaf ak) b.ins[i] := qb1 (fun v hv => ql9 hv.1 (by have := hv.2; omega)) hin
 rw [e]
 by_cases h1 : i < ak
 ·rw [qzx (by omega), put_lo hk h1]
  conv => lhs; rw [← z2l b.ins[i]]
  exact qb1 (fun v hv => (qrh hP (by have := hv.2; omega)).symm) hin
 ·exact put_hi hk (by omega) hi
theorem qsi (hl : NumsOk leaf) {Q : Nat} (hQ : leaf.params = (Q : Int)) (hk : ak < b.ins.length) {j : Nat} (h : j < leaf.ins.length) :
  (putB b leaf ak).ins[ak + j]?.getD default = qi (nuAt (nuL (inG b leaf ak) (Q + j + 1))) leaf.ins[j] := by
 have hin := hl.ins j h
 rw [hQ] at hin
 rw [z0s hk h]
 exact (qb1 (fun v hv => ql9 hv.1 (by have := hv.2; omega)) hin).symm
theorem put_end {l : List Int} (hP : b.params = (P : Int)) (hl : AllIn (upTo (b.params + b.ins.length)) l) : q5n l (nuL (q3n b leaf ak) (P + b.ins.length)) = l.map (q3n b leaf ak) :=
 qkf (fun v hv => ql9 hv.1 (by have := hv.2; omega)) hl
theorem put_args (hP : b.params = (P : Int)) {l : List Int} (hl : AllIn (upTo (b.params + ak)) l) : q5n l (nuL (q3n b leaf ak) (P + ak)) = l := by
 have e := qkf (g := fun v => v) (nu := nuL (q3n b leaf ak) (P + ak)) (fun v hv => by rw [ql9 hv.1 (by have := hv.2; omega)]; exact qrh hP (by have := hv.2; omega)) hl
 rw [e]; simp
theorem qs6 {g : Int → Int} {n : Nat} {v : Int} (h : upTo n v) : inL (nuL g n) v := ⟨h.1, by rw [z2o]; exact h.2⟩
end
end Go.Proofs.YtgadlpdbkohlbaaGreat
namespace Go.Proofs.YtgadlpdbkohlbaaGreat
theorem qtw {l : List Int} {n : Int} (h : q3r l n = true) : AllIn (upTo n) l := by
 intro k hk
 unfold q3r at h
 rw [List.all_eq_true] at h
 have := h _ (List.getElem_mem hk)
 simpa [upTo] using this
theorem qv5 {i : Inst} {n : Int} (h : qt i n = true) : InstIn (upTo n) i ∧ i.args.length ≤ 6 := by
 unfold qt at h
 simp only [Bool.and_eq_true, decide_eq_true_eq] at h
 obtain ⟨⟨⟨⟨⟨⟨⟨⟨h1, h2⟩, hb⟩, hA⟩, hB⟩, hK⟩, hN⟩, h6⟩, hNm⟩ := h
 have hb := qtw hb
 refine ⟨⟨fun e => ?_, fun e => ?_, ?_⟩, h6⟩
 ·rw [q27] at e
  by_cases h2 : 2 ≤ i.op ∧ i.op ≤ 11
  ·have := hb 0 (by unfold uses; rw [if_pos h2]; simp)
   simpa [uses, h2] using this
  ·have h3 : i.op = 13 ∨ i.op = 16 := by omega
   have e : uses i = [i.a] := by unfold uses; rw [if_neg h2, if_pos h3]
   rw [e] at hb
   exact hb 0 (by simp)
 ·rw [q4b] at e
  have := hb 1 (by unfold uses; rw [if_pos e]; simp)
  simpa [uses, e] using this
 ·by_cases h14 : i.op = 14
  ·have : uses i = i.args := by unfold uses; rw [if_neg (by omega), if_neg (by omega), if_pos h14]
   rw [this] at hb
   exact hb
  ·have : i.args.length = 0 := by simpa [h14] using hN
   intro k hk
   omega
theorem qf4 {f : Func} {to : Int} {args : List Int} {n : Int} (hf : ∀ b ∈ f.blocks, b.params ≤ 6) (h : q4a f to args n = true) : AllIn (upTo n) args ∧ args.length ≤ 6 := by
  unfold q4a at h
  simp only [Bool.and_eq_true, decide_eq_true_eq] at h
  obtain ⟨⟨h0, h1⟩, h2⟩ := h
  refine ⟨qtw h2, ?_⟩
  cases hb : f.blocks[to.toNat]? with
  | none => rw [hb] at h1; cases h1
  | some b =>
    rw [hb] at h1
    have := hf b (List.mem_of_getElem? hb)
    simp at h1
    omega
theorem all_nil {d : Int → Prop} {l : List Int} (h : l.length = 0) : AllIn d l := fun k hk => by omega
theorem qtz {f : Func} {b : Block} (hf : ∀ b ∈ f.blocks, b.params ≤ 6) (h : qj f b = true) : NumsOk b ∧ b.args.length ≤ 6 ∧ b.elses.length ≤ 6 := by
 unfold qj at h
 simp only [Bool.and_eq_true, decide_eq_true_eq] at h
 obtain ⟨⟨⟨⟨h1, h2⟩, h3⟩, h4⟩, h5⟩ := h
 rw [q8v] at h4
 have hends : (¬ b.kind = 1 → upTo (b.params + b.ins.length) b.ta) ∧ (AllIn (upTo (b.params + b.ins.length)) b.args ∧ b.args.length ≤ 6) ∧ (AllIn (upTo (b.params + b.ins.length)) b.elses ∧ b.elses.length ≤ 6) := by
  by_cases k1 : b.kind = 1
  ·rw [qh6 k1] at h5
   simp only [Bool.and_eq_true, beq_iff_eq] at h5
   obtain ⟨⟨⟨g1, g2⟩, g3⟩, g4⟩ := h5
   exact ⟨fun h => absurd k1 h, qf4 hf g1, all_nil g4, by omega⟩
  ·by_cases k2 : b.kind = 2
   ·rw [qrt k2] at h5
    simp only [Bool.and_eq_true, decide_eq_true_eq] at h5
    obtain ⟨⟨g1, g2⟩, g3⟩ := h5
    exact ⟨fun _ => g1, qf4 hf g2, qf4 hf g3⟩
   ·rw [qad k1 k2] at h5
    simp only [Bool.and_eq_true, beq_iff_eq, decide_eq_true_eq] at h5
    obtain ⟨⟨⟨⟨⟨g0, g1⟩, g2⟩, g3⟩, g4⟩, g5⟩ := h5
    exact ⟨fun _ => g1, ⟨all_nil g3, by omega⟩, all_nil g5, by omega⟩
 obtain ⟨e1, ⟨e2, e3⟩, e4, e5⟩ := hends
 exact ⟨⟨h1, h2, h3, fun k hk => (qv5 (h4 k hk)).1, fun k hk => (qv5 (h4 k hk)).2, e1, e2, e4, by omega, by omega⟩, e3, e5⟩
theorem q35 {f : Func} (h : qr f = true) : ∀ b ∈ f.blocks, qj f b = true := by
  unfold qr at h
  simp only [Bool.and_eq_true] at h
  obtain ⟨_, h⟩ := h
  intro b hb
  cases hbl : f.blocks with
  | nil => rw [hbl] at hb; cases hb
  | cons b0 r =>
    rw [hbl] at h
    simp only [Bool.and_eq_true, List.all_eq_true] at h
    exact h.2 b (hbl ▸ hb)
end Go.Proofs.YtgadlpdbkohlbaaGreat
namespace Go.Proofs.YtgadlpdbkohlbaaGreat
open Go.RowKit
theorem q66 {l : List Int} {n : Int} : q3r l n = true ↔ ∀ v ∈ l, 0 ≤ v ∧ v < n := by
 unfold q3r
 rw [List.all_eq_true]
 exact ⟨fun h v hv => by simpa using h v hv, fun h v hv => by simpa using h v hv⟩
theorem z1f (g : Int → Int) (x : Inst) : uses (qi g x) = (uses x).map g := by
 unfold uses qi
 simp only
 split
 ·rename_i h
  rw [if_pos ((q27 _).2 (.inl h)), if_pos ((q4b _).2 h)]
  rfl
 ·split
  ·rename_i h
   rw [if_pos ((q27 _).2 (.inr h))]
   rfl
  ·split
   ·rfl
   ·rfl
theorem qq9 {x : Inst} {n n' : Int} {g : Int → Int} (h : qt x n = true) (hg : ∀ v, 0 ≤ v → v < n → 0 ≤ g v ∧ g v < n') : qt (qi g x) n' = true := by
 unfold qt at h ⊢
 simp only [Bool.and_eq_true, decide_eq_true_eq] at h ⊢
 obtain ⟨⟨⟨⟨⟨⟨⟨⟨h1, h2⟩, hb⟩, hA⟩, hB⟩, hK⟩, hN⟩, h6⟩, hNm⟩ := h
 refine ⟨⟨⟨⟨⟨⟨⟨⟨h1, h2⟩, ?_⟩, ?_⟩, ?_⟩, hK⟩, ?_⟩, ?_⟩, hNm⟩
 ·rw [z1f, q66]
  intro v hv
  obtain ⟨u, hu, rfl⟩ := List.mem_map.1 hv
  have := q66.1 hb u hu
  exact hg u this.1 this.2
 ·cases h1 : q69 x.op
  ·simpa [qi, h1] using hA
  ·simp [qi, h1]
 ·cases h1 : q73 x.op
  ·simpa [qi, h1] using hB
  ·simp [qi, h1]
 ·simpa [qi] using hN
 ·simpa [qi] using h6
theorem q5a {f : Func} {to : Int} {l : List Int} {n : Int} : q4a f to l n = true ↔ 0 ≤ to ∧ (∃ b, f.blocks[to.toNat]? = some b ∧ (l.length : Int) = b.params) ∧ ∀ v ∈ l, 0 ≤ v ∧ v < n := by
 constructor
 ·intro h
  obtain ⟨h1, h2, h3⟩ := qmj h
  have hlt : to.toNat < f.blocks.length := by omega
  rw [List.getElem?_eq_getElem hlt] at h3
  exact ⟨h1, ⟨_, List.getElem?_eq_getElem hlt, h3⟩, q66.1 (qux h)⟩
 ·rintro ⟨h1, ⟨b, h2, h3⟩, h4⟩
  have hlt := (List.getElem?_eq_some_iff.1 h2).1
  rw [ql3 h1 (by omega) (by rw [h2]; exact h3)]
  exact q66.2 h4
def SameParams (f f' : Func) : Prop := f'.blocks.length = f.blocks.length ∧ ∀ (k : Nat) (b : Block), f.blocks[k]? = some b → ∃ b' : Block, f'.blocks[k]? = some b' ∧ b'.params = b.params
theorem q68 {f f' : Func} (hs : SameParams f f') {to : Int} {l l' : List Int} {n n' : Int} (h : q4a f to l n = true) (hl : l'.length = l.length) (hb : (∀ v ∈ l, 0 ≤ v ∧ v < n) → ∀ v ∈ l', 0 ≤ v ∧ v < n') : q4a f' to l' n' = true := by
 obtain ⟨h1, ⟨b, h2, h3⟩, h4⟩ := q5a.1 h
 obtain ⟨b', h5, h6⟩ := hs.2 _ b h2
 exact q5a.2 ⟨h1, ⟨b', h5, by rw [h6, hl]; exact h3⟩, hb h4⟩
theorem q82 {f : Func} {b : Block} : endB f b = true ↔
  (b.kind = 1 ∧ q4a f b.to b.args (b.params + b.ins.length) = true ∧ b.ta = 0 ∧ b.els = 0 ∧ b.elses = []) ∨
  (b.kind = 2 ∧ (0 ≤ b.ta ∧ b.ta < b.params + b.ins.length) ∧ q4a f b.to b.args (b.params + b.ins.length) = true ∧ q4a f b.els b.elses (b.params + b.ins.length) = true) ∨
  (b.kind = 3 ∧ (0 ≤ b.ta ∧ b.ta < b.params + b.ins.length) ∧ b.to = 0 ∧ b.args = [] ∧ b.els = 0 ∧ b.elses = []) := by
 by_cases k1 : b.kind = 1
 ·rw [qh6 k1]
  simp [k1, and_assoc]
 ·by_cases k2 : b.kind = 2
  ·rw [qrt k2]
   simp [k2, and_assoc]
  ·rw [qad k1 k2]
   simp [k1, k2, and_assoc]
theorem qh {f : Func} {b : Block} : qj f b = true ↔ 0 ≤ b.params ∧ b.params ≤ 6 ∧ b.ins.length ≤ 32 ∧ (∀ k (hk : k < b.ins.length), qt b.ins[k] (b.params + k) = true) ∧ endB f b = true := by
 refine ⟨q80, fun ⟨h0, h6, h32, hi, he⟩ => ?_⟩
 rw [qez h0 h6 h32 hi]
 exact he
theorem qu0 {f f' : Func} (hs : SameParams f f') {b : Block} (h : qj f b = true) : qj f' b = true := by
 rw [qh] at h ⊢
 obtain ⟨h0, h6, h32, hi, he⟩ := h
 refine ⟨h0, h6, h32, hi, ?_⟩
 rw [q82] at he ⊢
 rcases he with ⟨e1, e2, e3⟩ | ⟨e1, e2, e3, e4⟩ | he
 ·exact .inl ⟨e1, q68 hs e2 rfl id, e3⟩
 ·exact .inr (.inl ⟨e1, e2, q68 hs e3 rfl id, q68 hs e4 rfl id⟩)
 ·exact .inr (.inr he)
theorem end_map {f f' : Func} (hs : SameParams f f') {b b' : Block} {g : Int → Int} (h : endB f b = true) (hk : b'.kind = b.kind) (hto : b'.to = b.to) (hels : b'.els = b.els) (hta : b'.ta = if b.kind = 1 then b.ta else g b.ta)
  (ha : b'.args = b.args.map g) (he : b'.elses = b.elses.map g) (hg : ∀ v, 0 ≤ v → v < b.params + b.ins.length → 0 ≤ g v ∧ g v < b'.params + b'.ins.length) : endB f' b' = true := by
 have hmap : ∀ l : List Int, (∀ v ∈ l, 0 ≤ v ∧ v < b.params + b.ins.length) → ∀ v ∈ l.map g, 0 ≤ v ∧ v < b'.params + b'.ins.length := fun l hl v hv => by
  obtain ⟨u, hu, rfl⟩ := List.mem_map.1 hv
  exact hg u (hl u hu).1 (hl u hu).2
 rw [q82] at h ⊢
 rw [hk, hto, hels, hta, ha, he]
 rcases h with ⟨e1, e2, e3, e4, e5⟩ | ⟨e1, e2, e3, e4⟩ | ⟨e1, e2, e3, e4, e5, e6⟩
 ·exact .inl ⟨e1, q68 hs e2 (by simp) (hmap _), by rw [if_pos e1]; exact e3, e4, by rw [e5]; rfl⟩
 ·exact .inr (.inl ⟨e1, by rw [if_neg (by omega)]; exact hg _ e2.1 e2.2, q68 hs e3 (by simp) (hmap _), q68 hs e4 (by simp) (hmap _)⟩)
 ·exact .inr (.inr ⟨e1, by rw [if_neg (by omega)]; exact hg _ e2.1 e2.2, e3, by rw [e4]; rfl, e5, by rw [e6]; rfl⟩)
section
variable {f f' : Func} {b l : Block} {ak P Q : Nat} {x : Inst}
theorem z0g (hP : b.params = (P : Int)) (hQ : l.params = (Q : Int)) (hx : b.ins[ak]? = some x) (hxo : qt x (P + ak) = true) (h14 : x.op = 14) (hlen : x.args.length = Q) {j : Nat} {v : Int} (h0 : 0 ≤ v) (hv : v < Q + j) : 0 ≤ inG b l ak v ∧ inG b l ak v < P + ak + j := by
 have hat : qce b ak = x := by unfold qce; rw [show (ak : Int).toNat = ak from rfl, hx]; rfl
 unfold inG qs7
 rw [hat, hP, hQ]
 split
 ·rename_i h
  have hlt : v.toNat < x.args.length := by omega
  have hu : uses x = x.args := by unfold uses; rw [if_neg (by omega), if_neg (by omega), if_pos h14]
  have := q66.1 (qjs hxo) x.args[v.toNat] (by rw [hu]; exact List.getElem_mem hlt)
  rw [List.getElem?_eq_getElem hlt]
  simp only [Option.getD_some]
  omega
 ·omega
theorem qlg (hP : b.params = (P : Int)) (hQ : l.params = (Q : Int)) (hx : b.ins[ak]? = some x) (hxo : qt x (P + ak) = true) (h14 : x.op = 14) (hlen : x.args.length = Q) (hta : 0 ≤ l.ta ∧ l.ta < Q + l.ins.length) {i : Nat} (hi : ak < i) {v : Int} (h0 : 0 ≤ v) (hv : v < P + i) :
  0 ≤ q3n b l ak v ∧ q3n b l ak v < P + ((i - 1 + l.ins.length : Nat) : Int) := by
 unfold q3n q6e
 split
 ·omega
 ·split
  ·have := z0g (j := l.ins.length) hP hQ hx hxo h14 hlen hta.1 hta.2
   unfold inG at this
   rw [hP] at this ⊢
   omega
  ·rw [hP] at *; omega
theorem z6x (hs : SameParams f f') (hb : qj f b = true) {g : Func} (hl : qj g l = true) (hk3 : l.kind = 3) (hP : b.params = (P : Int)) (hQ : l.params = (Q : Int)) (hx : b.ins[ak]? = some x) (h14 : x.op = 14) (hlen : x.args.length = Q) (h32 : b.ins.length - 1 + l.ins.length ≤ 32) :
  qj f' (putB b l ak) = true := by
 obtain ⟨h0, h6, _, hi, he⟩ := qh.1 hb
 obtain ⟨l0, l6, _, li, le⟩ := qh.1 hl
 have hak : ak < b.ins.length := (List.getElem?_eq_some_iff.1 hx).1
 have hxo : qt x (P + ak) = true := by
  have := hi ak hak
  rw [(List.getElem?_eq_some_iff.1 hx).2, hP] at this
  exact this
 have hta : 0 ≤ l.ta ∧ l.ta < Q + l.ins.length := by
  rw [q82] at le
  rw [← hQ]
  rcases le with ⟨e, _⟩ | ⟨e, _⟩ | ⟨_, e, _⟩
  ·omega
  ·omega
  ·exact e
 have hL : (putB b l ak).ins.length = b.ins.length - 1 + l.ins.length := by rw [qj5 hak, qm2 hak]
 have hat : ∀ {k : Nat} (hk : k < (putB b l ak).ins.length) {y : Inst}, (putB b l ak).ins[k]?.getD default = y → (putB b l ak).ins[k] = y := fun {k} hk {y} h => by rw [List.getElem?_eq_getElem hk] at h; exact h
 refine qh.2 ⟨h0, h6, by omega, fun k hk => ?_, ?_⟩
 ·have hp : (putB b l ak).params = b.params := rfl
  rw [hp]
  by_cases h1 : k < ak
  ·rw [hat hk (put_lo hak h1)]
   exact hi k (by omega)
  ·by_cases h2 : k < ak + l.ins.length
   ·obtain ⟨j, rfl⟩ : ∃ j, k = ak + j := ⟨k - ak, by omega⟩
    have hj : j < l.ins.length := by omega
    rw [hat hk (z0s hak hj)]
    have := li j hj
    rw [hQ] at this
    refine qq9 this fun v h0 hv => ?_
    have := z0g (b := b) (j := j) hP hQ hx hxo h14 hlen h0 hv
    rw [hP]; omega
   ·obtain ⟨i, hi1, hi2, hik⟩ : ∃ i, ak < i ∧ i < b.ins.length ∧ k = i - 1 + l.ins.length := ⟨k + 1 - l.ins.length, by omega, by omega, by omega⟩
    have hc : cntF ak l.ins.length i = k := by rw [qm2 hi1, hik]
    have := put_hi (leaf := l) hak hi1 hi2
    rw [hc] at this
    rw [hat hk this]
    have hio := hi i hi2
    rw [hP] at hio ⊢
    refine qq9 hio fun v h0 hv => ?_
    have := qlg hP hQ hx hxo h14 hlen hta hi1 h0 hv
    omega
 ·refine end_map (g := q3n b l ak) hs he rfl rfl rfl rfl rfl rfl fun v h0 hv => ?_
  have := qlg hP hQ hx hxo h14 hlen hta hak h0 (by rw [hP] at hv; exact hv)
  rw [hL]
  rw [show (putB b l ak).params = b.params from rfl, hP]
  exact this
end
theorem z2d {f f' : Func} (hf : qr f = true) (hn : f'.name = f.name) (hb : f'.bind = f.bind) (hp : f'.params = f.params) (h16 : f'.blocks.length ≤ 16) {b : Block} (h0 : f'.blocks[0]? = some b) (hbp : b.params = f.params) (hall : f'.blocks.all (qj f') = true) : qr f' = true := by
  unfold qr at hf ⊢
  simp only [Bool.and_eq_true, decide_eq_true_eq] at hf
  obtain ⟨⟨⟨⟨⟨⟨h1, h2⟩, h3⟩, h4⟩, h5⟩, _⟩, _⟩ := hf
  rw [hn, hb, hp, h1, decide_eq_true h2, decide_eq_true h3, decide_eq_true h4, decide_eq_true h5, decide_eq_true h16]
  cases hbl : f'.blocks with
  | nil => rw [hbl] at h0; cases h0
  | cons c r =>
    rw [hbl] at h0 hall
    simp only [List.getElem?_cons_zero] at h0
    injection h0 with h0
    subst h0
    simp only [Bool.true_and, Bool.and_eq_true, beq_iff_eq]
    exact ⟨hbp, hall⟩
theorem qxr {f f' : Func} (hf : qr f = true) (hs : SameParams f f') (hall : f'.blocks.all (qj f') = true) (hn : f'.name = f.name) (hb : f'.bind = f.bind) (hp : f'.params = f.params) (hl : 0 < f.blocks.length) : qr f' = true := by
 obtain ⟨b', h1, h2⟩ := hs.2 0 _ (List.getElem?_eq_getElem hl)
 exact z2d hf hn hb hp (by rw [hs.1]; exact q1v hf) h1 (h2.trans (q9t hf hl)) hall
end Go.Proofs.YtgadlpdbkohlbaaGreat
namespace Go.Proofs.YtgadlpdbkohlbaaGreat
open Go.RowKit
def mapM (F : Func → Func) (m : Module) : Module := { m with funcs := m.funcs.map F }
def FromF (f : Func) (x : Inst) : Prop := x.op = 12 ∨ x.op = 13 ∨ x.op = 14 → ∃ y ∈ qk f, y.op = x.op ∧ y.name = x.name ∧ y.args.length = x.args.length
structure MapF (m : Module) (F : Func → Func) : Prop where
 name : ∀ f ∈ m.funcs, (F f).name = f.name
 params : ∀ f ∈ m.funcs, (F f).params = f.params
 ok : ∀ f ∈ m.funcs, qr (F f) = true
 blocks : ∀ f ∈ m.funcs, ((F f).blocks.length = 0 ↔ f.blocks.length = 0)
 ins : ∀ f ∈ m.funcs, ∀ x ∈ qk (F f), FromF f x
theorem MapF.names {m : Module} {F : Func → Func} (h : MapF m F) : qn (mapM F m) = qn m := by
 unfold qn q3c q59 mapM
 rw [List.map_map]
 congr 1
 exact List.map_congr_left fun f hf => h.name f hf
theorem MapF.okM {m : Module} {F : Func → Func} (h : MapF m F) (hok : ModOk m) : ModOk (mapM F m) := by
 have key : ∀ f ∈ (mapM F m).funcs, ∃ f0 ∈ m.funcs, F f0 = f := fun f hf => List.mem_map.1 hf
 refine .mk' (by simpa [mapM] using hok.nf) hok.ng (fun f hf => ?_) hok.globs (by rw [h.names]; exact hok.names) (fun f hf y hy h14 => ?_) (fun f hf y hy h12 => ?_)
 ·obtain ⟨f0, hf0, rfl⟩ := key f hf
  exact h.ok f0 hf0
 ·obtain ⟨f0, hf0, rfl⟩ := key f hf
  obtain ⟨x, hx, e1, e2, e3⟩ := h.ins f0 hf0 y hy (.inr (.inr h14))
  obtain ⟨g, hg, hgn, hgp⟩ := hok.call (q3o hf0 hx) (by omega)
  exact ⟨F g, List.mem_map.2 ⟨g, hg, rfl⟩, by rw [h.name g hg, hgn, e2], by rw [h.params g hg, hgp, e3]⟩
 ·obtain ⟨f0, hf0, rfl⟩ := key f hf
  obtain ⟨x, hx, e1, e2, e3⟩ := h.ins f0 hf0 y hy (by omega)
  obtain ⟨g, hg, hgn⟩ := q4j.1 ((q37 (hok.miss x (q3o hf0 hx))).2 (by omega))
  exact ⟨g, hg, by rw [hgn, e2]⟩
theorem MapF.find {m : Module} {F : Func → Func} (h : MapF m F) (s : ByteArray) : q55 (mapM F m) s = (q55 m s).map F := by
  unfold q55 mapM
  have : ∀ l : List Func, (∀ f ∈ l, (F f).name = f.name) → (l.map F).find? (fun f => decide (f.name = s)) = (l.find? fun f => decide (f.name = s)).map F := by
    intro l
    induction l with
    | nil => intro _; rfl
    | cons f l ih =>
      intro hl
      simp only [List.map_cons, List.find?_cons, hl f (by simp)]
      by_cases e : f.name = s
      · simp [e]
      · simp only [decide_eq_false e]
        exact ih fun g hg => hl g (by simp [hg])
  exact this _ h.name
theorem MapF.there {m : Module} {F : Func → Func} (h : MapF m F) (s : ByteArray) : q40 (mapM F m) s = q40 m s := by
  unfold q40
  rw [h.find]
  cases hf : q55 m s with
  | none => rfl
  | some f =>
    have := h.blocks f (List.mem_of_find?_eq_some hf)
    simp only [Option.map_some]
    rw [decide_eq_decide]
    omega
theorem MapF.funcOf {m : Module} {F : Func → Func} (h : MapF m F) (hok : ModOk m) {f : Func} (hf : f ∈ m.funcs) : funcOf (mapM F m) f.name = F f := by
 unfold Go.Proofs.YtgadlpdbkohlbaaGreat.funcOf
 rw [h.find, qis hok hf]
 rfl
theorem qus {f f' : Func} (h : qr f = true) (h1 : f'.name = f.name) (h2 : f'.bind = f.bind) (h3 : f'.params = f.params) (h4 : f'.blocks.length ≤ f.blocks.length) (h5 : f'.blocks.length = 0 ↔ f.blocks.length = 0)
    (h6 : ∀ (b : Block), f'.blocks[0]? = some b → b.params = f.params) (h7 : ∀ b ∈ f'.blocks, qj f' b = true) : qr f' = true := by
  unfold qr at h ⊢
  obtain ⟨name, bind, params, blocks⟩ := f
  obtain ⟨name', bind', params', blocks'⟩ := f'
  simp only at *
  subst h1 h2 h3
  simp only [Bool.and_eq_true, decide_eq_true_eq] at h ⊢
  obtain ⟨⟨⟨⟨⟨⟨a1, a2⟩, a3⟩, a4⟩, a5⟩, a6⟩, a7⟩ := h
  refine ⟨⟨⟨⟨⟨⟨a1, a2⟩, a3⟩, a4⟩, a5⟩, by omega⟩, ?_⟩
  cases blocks' with
  | nil =>
    cases blocks with
    | nil => exact a7
    | cons b l => simp at h5
  | cons b' l' =>
    simp only [Bool.and_eq_true]
    exact ⟨by simpa using h6 b' rfl, List.all_eq_true.2 h7⟩
end Go.Proofs.YtgadlpdbkohlbaaGreat
namespace Go.Proofs.YtgadlpdbkohlbaaGreat
open Go.RowKit
def atO (l : List (Option Int)) (i : Int) : Option Int := if 0 ≤ i then (l[i.toNat]?).getD none else none
def foldV (l : List (Option Int)) (x : Inst) : Option Int :=
 if x.op = 1 then some x.k
 else if 2 ≤ x.op ∧ x.op ≤ 11 then (match atO l x.a, atO l x.b with
  | some p, some q => some (q4l x.op p q)
  | _, _ => none) else none
def foldL : List (Option Int) → List Inst → List (Option Int)
 | l, [] => l
 | l, x :: xs => foldL (l ++ [foldV l x]) xs
def q4w (b : Block) : List (Option Int) := List.replicate b.params.toNat none
def q1h (b : Block) : List (Option Int) := foldL (q4w b) b.ins
def qxo (k : Option Int) (x : Inst) : Inst := match k with
 | some v => ⟨1, 0, 0, v.toNat, ⟨#[]⟩, []⟩
 | none => x
def q1n (b : Block) : List Inst := List.zipWith qxo ((q1h b).drop b.params.toNat) b.ins
def q57 (b : Block) : Block :=
 if b.kind = 2 then (match atO (q1h b) b.ta with
  | some v => if v = 0 then ⟨b.params, q1n b, 1, 0, b.els, b.elses, 0, []⟩ else ⟨b.params, q1n b, 1, 0, b.to, b.args, 0, []⟩
  | none => { b with ins := q1n b })
 else { b with ins := q1n b }
def qhd (f : Func) : Func := { f with blocks := f.blocks.map q57 }
def qxm (m : Module) : Module := mapM qhd m
theorem qcb : ∀ (xs ys : List Inst) (l : List (Option Int)), foldL l (xs ++ ys) = foldL (foldL l xs) ys
 | [], _, _ => rfl
 | x :: xs, ys, l => qcb xs ys (l ++ [foldV l x])
theorem q6n : ∀ (xs : List Inst) (l : List (Option Int)), (foldL l xs).length = l.length + xs.length
  | [], _ => rfl
  | x :: xs, l => by
    show (foldL (l ++ [foldV l x]) xs).length = _
    rw [q6n xs, List.length_append, List.length_singleton, List.length_cons]
    omega
theorem quk : ∀ (xs : List Inst) (l : List (Option Int)) {i : Nat}, i < l.length → (foldL l xs)[i]? = l[i]?
  | [], _, _, _ => rfl
  | x :: xs, l, i, h => by
    show (foldL (l ++ [foldV l x]) xs)[i]? = _
    rw [quk xs _ (by rw [List.length_append]; omega), List.getElem?_append_left h]
theorem qiu {xs : List Inst} {l : List (Option Int)} {k : Nat} {x : Inst} (h : xs[k]? = some x) : foldL l (xs.take (k + 1)) = foldL l (xs.take k) ++ [foldV (foldL l (xs.take k)) x] := by
 have hk := (List.getElem?_eq_some_iff.1 h).1
 rw [List.take_succ_eq_append_getElem hk, (List.getElem?_eq_some_iff.1 h).2, qcb]
 rfl
theorem ql2 {xs : List Inst} {l : List (Option Int)} {k : Nat} {x : Inst} (h : xs[k]? = some x) : (foldL l xs)[l.length + k]? = some (foldV (foldL l (xs.take k)) x) := by
 have hk := (List.getElem?_eq_some_iff.1 h).1
 have e : foldL l xs = foldL (foldL l (xs.take (k + 1))) (xs.drop (k + 1)) := by rw [← qcb, List.take_append_drop]
 have hl : (foldL l (xs.take k)).length = l.length + k := by rw [q6n, List.length_take]; omega
 rw [e, qiu h, quk _ _ (by rw [List.length_append, hl]; simp), List.getElem?_append_right (by omega), hl]
 simp
@[simp] theorem q3s (b : Block) : (q4w b).length = b.params.toNat := by simp [q4w]
theorem q8t (b : Block) : (q1h b).length = b.params.toNat + b.ins.length := by unfold q1h; rw [q6n, q3s]
@[simp] theorem qw (b : Block) : (q1n b).length = b.ins.length := by
 unfold q1n
 rw [List.length_zipWith, List.length_drop, q8t]
 omega
theorem q87 {b : Block} {k : Nat} {x : Inst} (h : b.ins[k]? = some x) : (q1n b)[k]? = some (qxo (foldV (foldL (q4w b) (b.ins.take k)) x) x) := by
 unfold q1n q1h
 have := ql2 (l := q4w b) h
 rw [q3s] at this
 rw [List.getElem?_zipWith, List.getElem?_drop, this, h]
@[simp] theorem qca (b : Block) : (q57 b).params = b.params := by
 unfold q57
 repeat' split
 all_goals rfl
@[simp] theorem qhc (b : Block) : (q57 b).ins = q1n b := by
 unfold q57
 repeat' split
 all_goals rfl
theorem foldF_at {f : Func} {k : Nat} {b : Block} (h : f.blocks[k]? = some b) : (qhd f).blocks[k]? = some (q57 b) := by
 show (f.blocks.map q57)[k]? = _
 rw [List.getElem?_map, h]
 rfl
section
variable {f : Func} {b : Block}
theorem z5l (f : Func) : SameParams f (qhd f) := ⟨by simp [qhd], fun k b hb => ⟨q57 b, foldF_at hb, qca b⟩⟩
theorem const_ok (k : Nat) (n : Int) : qt ⟨1, 0, 0, k, ⟨#[]⟩, []⟩ n = true := by
 unfold qt uses q3r q69 q73 q4k
 simp
 rfl
theorem foldX_ok {o : Option Int} {x : Inst} {n : Int} (h : qt x n = true) : qt (qxo o x) n = true := by
 cases o with
 | none => exact h
 | some v => exact const_ok _ _
theorem foldB_ok (h : qj f b = true) : qj (qhd f) (q57 b) = true := by
  rw [qh] at h ⊢
  obtain ⟨h0, h6, h32, hi, he⟩ := h
  refine ⟨by simpa using h0, by simpa using h6, by simpa using h32, fun k hk => ?_, ?_⟩
  · simp only [qhc, qw] at hk
    have hx : b.ins[k]? = some b.ins[k] := List.getElem?_eq_getElem hk
    have e := q87 hx
    simp only [qhc, qca]
    rw [(List.getElem?_eq_some_iff.1 e).2]
    exact foldX_ok (hi k hk)
  · have hs := z5l f
    have hg : ∀ (to : Int) (l : List Int), q4a f to l (b.params + b.ins.length) = true → q4a (qhd f) to l (b.params + (q1n b).length) = true := fun to l h => q68 hs h rfl (fun h => by rw [qw]; exact h)
    rw [q82] at he ⊢
    unfold q57
    rcases he with ⟨e1, e2, e3⟩ | ⟨e1, e2, e3, e4⟩ | ⟨e1, e2, e3⟩
    · rw [if_neg (by omega)]
      exact .inl ⟨e1, hg _ _ e2, e3⟩
    · rw [if_pos e1]
      cases atO (q1h b) b.ta with
      | none => exact .inr (.inl ⟨e1, by simpa using e2, hg _ _ e3, hg _ _ e4⟩)
      | some v =>
        simp only
        split
        · exact .inl ⟨rfl, hg _ _ e4, rfl, rfl, rfl⟩
        · exact .inl ⟨rfl, hg _ _ e3, rfl, rfl, rfl⟩
    · rw [if_neg (by omega)]
      exact .inr (.inr ⟨e1, by simpa using e2, e3⟩)
end
theorem fold_map {m : Module} (hok : ModOk m) : MapF m qhd where
  name _ _ := rfl
  params _ _ := rfl
  ok f hf := by
    have h := hok.funcs f hf
    refine qus h rfl rfl rfl (by simp [qhd]) (by simp [qhd]) (fun b hb => ?_) (fun b hb => ?_)
    · have hb : (f.blocks.map q57)[0]? = some b := hb
      rw [List.getElem?_map] at hb
      cases h0 : f.blocks[0]? with
      | none => rw [h0] at hb; cases hb
      | some c =>
        rw [h0] at hb
        injection hb with hb
        subst hb
        have hl := (List.getElem?_eq_some_iff.1 h0).1
        rw [qca, ← (List.getElem?_eq_some_iff.1 h0).2]
        exact q9t h hl
    · obtain ⟨c, hc, rfl⟩ := List.mem_map.1 hb
      exact foldB_ok (List.all_eq_true.1 (q2g h) c hc)
  blocks f _ := by simp [qhd]
  ins f _ x hx hop := by
    obtain ⟨b', hb', hx⟩ := List.mem_flatMap.1 hx
    obtain ⟨b, hb, rfl⟩ := List.mem_map.1 hb'
    rw [qhc] at hx
    obtain ⟨k, hk, rfl⟩ := List.getElem_of_mem hx
    have hk' : k < b.ins.length := by simpa using hk
    have hy : b.ins[k]? = some b.ins[k] := List.getElem?_eq_getElem hk'
    have e := (List.getElem?_eq_some_iff.1 (q87 hy)).2
    rw [e] at hop ⊢
    refine ⟨b.ins[k], List.mem_flatMap.2 ⟨b, hb, List.getElem_mem hk'⟩, ?_⟩
    cases ho : foldV (foldL (q4w b) (b.ins.take k)) b.ins[k] with
    | none => exact ⟨rfl, rfl, rfl⟩
    | some u =>
      rw [ho] at hop
      have : (1 : Int) = 12 ∨ (1 : Int) = 13 ∨ (1 : Int) = 14 := hop
      omega
theorem fold_ok {m : Module} (h : ModOk m) : ModOk (qxm m) := (fold_map h).okM h
end Go.Proofs.YtgadlpdbkohlbaaGreat
namespace Go.Proofs.YtgadlpdbkohlbaaGreat
def sel {α : Type} : List Bool → List α → List α
 | true :: l, x :: xs => x :: sel l xs
 | false :: l, _ :: xs => sel l xs
 | _, _ => []
def nst (l : List Bool) (k : Nat) : Nat := (l.take k).countP id
@[simp] theorem nst_zero (l : List Bool) : nst l 0 = 0 := rfl
theorem ql8 (s : Bool) (l : List Bool) (k : Nat) : nst (s :: l) (k + 1) = (if s = true then 1 else 0) + nst l k := by
 unfold nst
 rw [List.take_succ_cons, List.countP_cons]
 simp only [id]
 omega
theorem qb2 {l : List Bool} {k : Nat} {s : Bool} (h : l[k]? = some s) : nst l (k + 1) = nst l k + (if s = true then 1 else 0) := by
 have hk := (List.getElem?_eq_some_iff.1 h).1
 unfold nst
 rw [List.take_succ_eq_append_getElem hk, (List.getElem?_eq_some_iff.1 h).2, List.countP_append, List.countP_singleton]
 rfl
theorem nst_mono {l : List Bool} {i j : Nat} (h : i ≤ j) : nst l i ≤ nst l j := by
 unfold nst
 exact (List.take_sublist_take_left h).countP_le
theorem qqd (l : List Bool) (k : Nat) : nst l k ≤ k := by
 unfold nst
 exact Nat.le_trans List.countP_le_length (by rw [List.length_take]; omega)
theorem nst_lt {l : List Bool} {i j : Nat} (h : l[i]? = some true) (hij : i < j) : nst l i < nst l j := by
 have h1 := qb2 h
 have h2 := nst_mono (l := l) (show i + 1 ≤ j by omega)
 rw [if_pos rfl] at h1
 omega
theorem qsh {l l' : List Bool} {k : Nat} : nst (l ++ l') (l.length + k) = nst l l.length + nst l' k := by
 unfold nst
 rw [List.take_length_add_append, List.countP_append, List.take_length]
theorem qya {l : List Bool} : ∀ {k : Nat}, k ≤ l.length → (∀ i, i < k → l[i]? = some true) → nst l k = k
 | 0, _, _ => rfl
 | k + 1, hk, h => by rw [qb2 (h k (by omega)), if_pos rfl, qya (by omega) fun i hi => h i (by omega)]
section
variable {α : Type}
@[simp] theorem sel_nil (l : List Bool) : sel l ([] : List α) = [] := by
 cases l with
 | nil => rfl
 | cons s l => cases s <;> rfl
theorem sel_at : ∀ {l : List Bool} {xs : List α} {k : Nat} {x : α}, l[k]? = some true → xs[k]? = some x → (sel l xs)[nst l k]? = some x
  | [], _, _, _, h, _ => by simp at h
  | _ :: _, [], _, _, _, h => by simp at h
  | s :: l, y :: xs, 0, x, h, h' => by
    simp only [List.getElem?_cons_zero] at h h'
    injection h with h
    subst h
    simp [sel, h']
  | s :: l, y :: xs, k + 1, x, h, h' => by
    simp only [List.getElem?_cons_succ] at h h'
    have ih := sel_at h h'
    rw [ql8]
    cases s with
    | true => simp only [sel, if_pos]; rw [Nat.add_comm, List.getElem?_cons_succ]; exact ih
    | false => simp only [sel]; rw [if_neg (by simp), Nat.zero_add]; exact ih
theorem q8a : ∀ {l : List Bool} {xs : List α}, xs.length ≤ l.length → (sel l xs).length = nst l xs.length
  | l, [], _ => by simp
  | [], _ :: _, h => by simp at h
  | s :: l, y :: xs, h => by
    have ih := q8a (l := l) (xs := xs) (by simpa using h)
    rw [List.length_cons, ql8, ← ih]
    cases s with
    | true => simp [sel, Nat.add_comm]
    | false => simp [sel]
theorem z14 : ∀ {l : List Bool} {xs : List α} {j : Nat} {x : α}, (sel l xs)[j]? = some x → ∃ k : Nat, l[k]? = some true ∧ xs[k]? = some x ∧ nst l k = j
  | l, [], j, x, h => by simp at h
  | [], _ :: _, j, x, h => by simp [sel] at h
  | true :: l, y :: xs, 0, x, h => ⟨0, rfl, by simpa [sel] using h, rfl⟩
  | true :: l, y :: xs, j + 1, x, h => by
    simp only [sel, List.getElem?_cons_succ] at h
    obtain ⟨k, h1, h2, h3⟩ := z14 h
    exact ⟨k + 1, by simpa using h1, by simpa using h2, by rw [ql8, if_pos rfl, h3]; omega⟩
  | false :: l, y :: xs, j, x, h => by
    simp only [sel] at h
    obtain ⟨k, h1, h2, h3⟩ := z14 h
    exact ⟨k + 1, by simpa using h1, by simpa using h2, by rw [ql8, if_neg (by simp), h3]; omega⟩
theorem qyr {l : List Bool} {xs : List α} {x : α} (h : x ∈ sel l xs) : ∃ k : Nat, l[k]? = some true ∧ xs[k]? = some x := by
 obtain ⟨j, hj, rfl⟩ := List.getElem_of_mem h
 obtain ⟨k, h1, h2, _⟩ := z14 (List.getElem?_eq_getElem hj)
 exact ⟨k, h1, h2⟩
theorem qss : ∀ {l : List Bool} {xs : List α} {x : α} {s : Bool}, l[xs.length]? = some s → sel l (xs ++ [x]) = sel l xs ++ (if s = true then [x] else [])
  | [], _, _, _, h => by simp at h
  | t :: l, [], x, s, h => by
    simp only [List.length_nil, List.getElem?_cons_zero] at h
    injection h with h
    subst h
    cases t <;> simp [sel]
  | t :: l, y :: xs, x, s, h => by
    simp only [List.length_cons, List.getElem?_cons_succ] at h
    have ih := qss (xs := xs) (x := x) h
    cases t with
    | true => simp only [sel, List.cons_append]; rw [ih]
    | false => simp only [sel, List.cons_append]; rw [ih]
end
end Go.Proofs.YtgadlpdbkohlbaaGreat
namespace Go.Proofs.YtgadlpdbkohlbaaGreat
open Go.RowKit
def qaw (op : Int) : Bool := op == 13 || op == 14 || op == 15 || op == 16
def q3k (u : List Bool) (l : List Int) : List Bool := l.foldl (fun u v => u.set v.toNat true) u
def q2r (b : Block) : List Int := b.args ++ b.elses ++ (if b.kind = 1 then [] else [b.ta])
def q4h (b : Block) : Nat → List Bool → List Bool
  | 0, u => u
  | k + 1, u => match b.ins[k]? with
    | none => q4h b k u
    | some x => if qaw x.op = true ∨ u[b.params.toNat + k]? = some true then q4h b k (q3k u (uses x)) else q4h b k u
def q5o (b : Block) : List Bool := q4h b b.ins.length (q3k (List.replicate (b.params.toNat + b.ins.length) false) (q2r b))
def q1s (b : Block) : List Bool := List.replicate b.params.toNat true ++ List.zipWith (fun (x : Inst) u => qaw x.op || u) b.ins ((q5o b).drop b.params.toNat)
def gT (b : Block) (v : Int) : Int := nst (q1s b) v.toNat
def q9l (b : Block) : List Inst := (sel ((q1s b).drop b.params.toNat) b.ins).map (qi (gT b))
def q6c (b : Block) : Block := ⟨b.params, q9l b, b.kind, if b.kind = 1 then b.ta else gT b b.ta, b.to, b.args.map (gT b), b.els, b.elses.map (gT b)⟩
@[simp] theorem q19 : ∀ (l : List Int) (u : List Bool), (q3k u l).length = u.length
  | [], _ => rfl
  | v :: l, u => by
    show (q3k (u.set v.toNat true) l).length = _
    rw [q19 l, List.length_set]
theorem qj1 : ∀ {l : List Int} {u : List Bool} {i : Nat}, u[i]? = some true → (q3k u l)[i]? = some true
  | [], _, _, h => h
  | v :: l, u, i, h => by
    refine qj1 (l := l) (u := u.set v.toNat true) ?_
    rw [List.getElem?_set]
    have hi := (List.getElem?_eq_some_iff.1 h).1
    split
    · rename_i e; subst e; rw [if_pos hi]
    · exact h
theorem ql6 : ∀ {l : List Int} {u : List Bool} {v : Int}, v ∈ l → v.toNat < u.length → (q3k u l)[v.toNat]? = some true
  | [], _, _, h, _ => by cases h
  | w :: l, u, v, h, hv => by
    rcases List.mem_cons.1 h with h | h
    · subst h
      exact qj1 (l := l) (by rw [List.getElem?_set, if_pos rfl, if_pos hv])
    · exact ql6 (l := l) (u := u.set w.toNat true) h (by rw [List.length_set]; exact hv)
theorem qmw : ∀ {l : List Int} {u : List Bool} {i : Nat}, (∀ v ∈ l, v.toNat ≠ i) → (q3k u l)[i]? = u[i]?
  | [], _, _, _ => rfl
  | v :: l, u, i, h => by
    show (q3k (u.set v.toNat true) l)[i]? = _
    rw [qmw fun w hw => h w (by simp [hw]), List.getElem?_set, if_neg (h v (by simp))]
structure BlkFit (b : Block) : Prop where
 params : 0 ≤ b.params
 ins : ∀ (k : Nat) (x : Inst), b.ins[k]? = some x → ∀ v ∈ uses x, 0 ≤ v ∧ v < b.params + k
 ends : ∀ v ∈ q2r b, 0 ≤ v ∧ v < b.params + b.ins.length
theorem qp5 {f : Func} {b : Block} (h : qj f b = true) : BlkFit b := by
 obtain ⟨h0, h6, h32, hi, he⟩ := qh.1 h
 refine ⟨h0, fun k x hx => ?_, fun v hv => ?_⟩
 ·have hk := (List.getElem?_eq_some_iff.1 hx).1
  have := hi k hk
  rw [(List.getElem?_eq_some_iff.1 hx).2] at this
  exact q66.1 (qjs this)
 ·unfold q2r at hv
  rcases q82.1 he with ⟨e1, e2, e3, e4, e5⟩ | ⟨e1, e2, e3, e4⟩ | ⟨e1, e2, e3, e4, e5, e6⟩
  ·rw [if_pos e1, e5] at hv
   simp only [List.append_nil] at hv
   exact (q5a.1 e2).2.2 v hv
  ·rw [if_neg (by omega)] at hv
   rcases List.mem_append.1 hv with hv | hv
   ·rcases List.mem_append.1 hv with hv | hv
    ·exact (q5a.1 e3).2.2 v hv
    ·exact (q5a.1 e4).2.2 v hv
   ·rw [List.mem_singleton.1 hv]; exact e2
  ·rw [if_neg (by omega), e4, e6] at hv
   simp only [List.nil_append, List.mem_singleton] at hv
   rw [hv]; exact e2
section
variable {b : Block}
@[simp] theorem qd9 : ∀ (k : Nat) (u : List Bool), (q4h b k u).length = u.length
  | 0, _ => rfl
  | k + 1, u => by
    unfold q4h
    split
    · exact qd9 k u
    · split
      · rw [qd9 k, q19]
      · exact qd9 k u
theorem qat : ∀ {k : Nat} {u : List Bool} {i : Nat}, u[i]? = some true → (q4h b k u)[i]? = some true
  | 0, _, _, h => h
  | k + 1, u, i, h => by
    unfold q4h
    split
    · exact qat h
    · split
      · exact qat (qj1 h)
      · exact qat h
theorem qip (hb : BlkFit b) : ∀ {k : Nat} {u : List Bool} {i : Nat}, b.params.toNat + k ≤ i + 1 → (q4h b k u)[i]? = u[i]?
  | 0, _, _, _ => rfl
  | k + 1, u, i, h => by
    unfold q4h
    split
    · exact qip hb (by omega)
    · rename_i x hx
      split
      · rw [qip hb (by omega), qmw]
        intro v hv
        have := hb.ins k x hx v hv
        have := hb.params
        omega
      · exact qip hb (by omega)
theorem qdl (hb : BlkFit b) : ∀ {k : Nat} {u : List Bool} {j : Nat} {x : Inst}, b.params.toNat + k ≤ u.length → j < k → b.ins[j]? = some x → (qaw x.op = true ∨ (q4h b k u)[b.params.toNat + j]? = some true) → ∀ v ∈ uses x, (q4h b k u)[v.toNat]? = some true
  | 0, _, _, _, _, h, _, _ => by omega
  | k + 1, u, j, x, hl, hj, hx, hd => by
    intro v hv
    by_cases hjk : j = k
    · subst hjk
      unfold q4h at hd ⊢
      rw [hx] at hd ⊢
      simp only at hd ⊢
      have hvb := hb.ins j x hx v hv
      have hp := hb.params
      have key : qaw x.op = true ∨ u[b.params.toNat + j]? = some true := by
        rcases hd with hd | hd
        · exact .inl hd
        · split at hd
          · rename_i h; exact h
          · rw [qip hb (by omega)] at hd
            exact .inr hd
      rw [if_pos key]
      exact qat (ql6 hv (by omega))
    · unfold q4h at hd ⊢
      cases hxk : b.ins[k]? with
      | none =>
        rw [hxk] at hd
        exact qdl hb (by omega) (by omega) hx hd v hv
      | some y =>
        rw [hxk] at hd
        simp only at hd ⊢
        split
        · rename_i h
          rw [if_pos h] at hd
          exact qdl hb (by rw [q19]; omega) (by omega) hx hd v hv
        · rename_i h
          rw [if_neg h] at hd
          exact qdl hb (by omega) (by omega) hx hd v hv
@[simp] theorem q4v (b : Block) : (q5o b).length = b.params.toNat + b.ins.length := by unfold q5o; simp
theorem z43 (hb : BlkFit b) {v : Int} (hv : v ∈ q2r b) : (q5o b)[v.toNat]? = some true := by
 have := hb.ends v hv
 have := hb.params
 exact qat (ql6 hv (by simp; omega))
theorem z44 (hb : BlkFit b) {k : Nat} {x : Inst} (hx : b.ins[k]? = some x) (h : qaw x.op = true ∨ (q5o b)[b.params.toNat + k]? = some true) {v : Int} (hv : v ∈ uses x) : (q5o b)[v.toNat]? = some true :=
 qdl hb (by simp) (List.getElem?_eq_some_iff.1 hx).1 hx h v hv
theorem q3u (b : Block) : (q1s b).length = b.params.toNat + b.ins.length := by
 unfold q1s
 rw [List.length_append, List.length_replicate, List.length_zipWith, List.length_drop, q4v]
 omega
theorem q9k {i : Nat} (h : i < b.params.toNat) : (q1s b)[i]? = some true := by
 unfold q1s
 rw [List.getElem?_append_left (by simpa using h), List.getElem?_replicate, if_pos h]
theorem qib {k : Nat} {x : Inst} (hx : b.ins[k]? = some x) : (q1s b)[b.params.toNat + k]? = some (qaw x.op || ((q5o b)[b.params.toNat + k]?).getD false) := by
 have hk := (List.getElem?_eq_some_iff.1 hx).1
 have hu : (q5o b)[b.params.toNat + k]? = some ((q5o b)[b.params.toNat + k]'(by simp; omega)) := List.getElem?_eq_getElem _
 unfold q1s
 rw [List.getElem?_append_right (by simp), List.length_replicate, Nat.add_sub_cancel_left, List.getElem?_zipWith, hx, List.getElem?_drop, hu]
 rfl
theorem qr0 {i : Nat} (h : (q5o b)[i]? = some true) : (q1s b)[i]? = some true := by
 have hi := (List.getElem?_eq_some_iff.1 h).1
 rw [q4v] at hi
 by_cases hp : i < b.params.toNat
 ·exact q9k hp
 ·obtain ⟨k, rfl⟩ : ∃ k, i = b.params.toNat + k := ⟨i - b.params.toNat, by omega⟩
  have hk : k < b.ins.length := by omega
  rw [qib (List.getElem?_eq_getElem hk), h]
  simp
theorem qr1 (hb : BlkFit b) {k : Nat} {x : Inst} (hx : b.ins[k]? = some x) (h : (q1s b)[b.params.toNat + k]? = some true) {v : Int} (hv : v ∈ uses x) : (q1s b)[v.toNat]? = some true := by
 rw [qib hx] at h
 refine qr0 (z44 hb hx ?_ hv)
 injection h with h
 rw [Bool.or_eq_true] at h
 refine h.elim Or.inl fun h => Or.inr ?_
 cases hu : (q5o b)[b.params.toNat + k]? with
 | none => rw [hu] at h; cases h
 | some s => rw [hu] at h; exact congrArg some h
theorem qqz (hb : BlkFit b) {v : Int} (hv : v ∈ q2r b) : (q1s b)[v.toNat]? = some true := qr0 (z43 hb hv)
theorem z6q (b : Block) (k : Nat) : nst (q1s b) (b.params.toNat + k) = b.params.toNat + nst ((q1s b).drop b.params.toNat) k := by
 have e : q1s b = (q1s b).take b.params.toNat ++ (q1s b).drop b.params.toNat := (List.take_append_drop _ _).symm
 have hl : ((q1s b).take b.params.toNat).length = b.params.toNat := by rw [List.length_take, q3u]; omega
 have h := qsh (l := (q1s b).take b.params.toNat) (l' := (q1s b).drop b.params.toNat) (k := k)
 rw [← e, hl] at h
 rw [h]
 congr 1
 refine qya (by omega) fun i hi => ?_
 rw [List.getElem?_take, if_pos hi]
 exact q9k hi
theorem qew (b : Block) : (q9l b).length = nst ((q1s b).drop b.params.toNat) b.ins.length := by
 unfold q9l
 rw [List.length_map, q8a (by rw [List.length_drop, q3u]; omega)]
theorem z3p (b : Block) : (q9l b).length ≤ b.ins.length := by rw [qew]; exact qqd _ _
theorem qr9 {j : Nat} {y : Inst} (h : (q9l b)[j]? = some y) : ∃ k x, b.ins[k]? = some x ∧ (q1s b)[b.params.toNat + k]? = some true ∧ nst ((q1s b).drop b.params.toNat) k = j ∧ y = qi (gT b) x := by
  unfold q9l at h
  rw [List.getElem?_map] at h
  cases hs : (sel ((q1s b).drop b.params.toNat) b.ins)[j]? with
  | none => rw [hs] at h; cases h
  | some x =>
    rw [hs] at h
    obtain ⟨k, h1, h2, h3⟩ := z14 hs
    rw [List.getElem?_drop] at h1
    injection h with h
    exact ⟨k, x, h2, h1, h3, h.symm⟩
theorem gT_lt {v : Int} {k : Nat} (h : (q1s b)[v.toNat]? = some true) (hv : 0 ≤ v ∧ v < b.params + k) (hp : 0 ≤ b.params) : 0 ≤ gT b v ∧ gT b v < b.params + nst ((q1s b).drop b.params.toNat) k := by
 have h1 := nst_lt h (show v.toNat < b.params.toNat + k by omega)
 rw [z6q] at h1
 unfold gT
 omega
theorem gT_ins {v : Int} {k : Nat} {x : Inst} (hb : BlkFit b) (hx : b.ins[k]? = some x) (h : (q1s b)[b.params.toNat + k]? = some true) (hv : v ∈ uses x) : 0 ≤ gT b v ∧ gT b v < b.params + nst ((q1s b).drop b.params.toNat) k :=
 gT_lt (qr1 hb hx h hv) (hb.ins k x hx v hv) hb.params
theorem qxs {v : Int} (hb : BlkFit b) (hv : v ∈ q2r b) : 0 ≤ gT b v ∧ gT b v < b.params + (q9l b).length := by
 rw [qew]
 exact gT_lt (qqz hb hv) (hb.ends v hv) hb.params
end
theorem qy7 {x : Inst} {n n' : Int} {g : Int → Int} (h : qt x n = true) (hg : ∀ v ∈ uses x, 0 ≤ g v ∧ g v < n') : qt (qi g x) n' = true := by
 unfold qt at h ⊢
 simp only [Bool.and_eq_true, decide_eq_true_eq] at h ⊢
 obtain ⟨⟨⟨⟨⟨⟨⟨⟨h1, h2⟩, hb⟩, hA⟩, hB⟩, hK⟩, hN⟩, h6⟩, hNm⟩ := h
 refine ⟨⟨⟨⟨⟨⟨⟨⟨h1, h2⟩, ?_⟩, ?_⟩, ?_⟩, hK⟩, ?_⟩, ?_⟩, hNm⟩
 ·rw [z1f, q66]
  intro v hv
  obtain ⟨u, hu, rfl⟩ := List.mem_map.1 hv
  exact hg u hu
 ·cases h1 : q69 x.op
  ·simpa [qi, h1] using hA
  ·simp [qi, h1]
 ·cases h1 : q73 x.op
  ·simpa [qi, h1] using hB
  ·simp [qi, h1]
 ·simpa [qi] using hN
 ·simpa [qi] using h6
end Go.Proofs.YtgadlpdbkohlbaaGreat
namespace Go.Proofs.YtgadlpdbkohlbaaGreat
open Go.RowKit
inductive RchB (f : Func) : Nat → Prop
 | first (h : 0 < f.blocks.length) : RchB f 0
 | to {k : Nat} {b : Block} (h : RchB f k) (hb : f.blocks[k]? = some b) (hk : ¬ b.kind = 3) : RchB f b.to.toNat
 | els {k : Nat} {b : Block} (h : RchB f k) (hb : f.blocks[k]? = some b) (hk : b.kind = 2) : RchB f b.els.toNat
def qkk (f : Func) (u : List Bool) (k : Nat) : List Bool := match f.blocks[k]? with
 | none => u
 | some b => if u[k]? = some true then (if b.kind = 3 then u else if b.kind = 2 then (u.set b.to.toNat true).set b.els.toNat true else u.set b.to.toNat true) else u
def q4e (f : Func) (u : List Bool) (n : Nat) : List Bool := (List.range n).foldl (qkk f) u
def qbp (f : Func) (u : List Bool) : List Bool := q4e f (u.set 0 true) f.blocks.length
def q2f (f : Func) : Nat → List Bool
 | 0 => List.replicate f.blocks.length false
 | n + 1 => qbp f (q2f f n)
def inBL (f : Func) : List Bool := q2f f f.blocks.length
def LeB (u v : List Bool) : Prop := v.length = u.length ∧ ∀ i : Nat, u[i]? = some true → v[i]? = some true
theorem LeB.refl (u : List Bool) : LeB u u := ⟨rfl, fun _ h => h⟩
theorem LeB.trans {u v w : List Bool} (h : LeB u v) (h' : LeB v w) : LeB u w := ⟨h'.1.trans h.1, fun i hi => h'.2 i (h.2 i hi)⟩
theorem LeB.set (u : List Bool) (k : Nat) : LeB u (u.set k true) := ⟨List.length_set, fun i h => by
 rw [List.getElem?_set]
 have hi := (List.getElem?_eq_some_iff.1 h).1
 split
 ·rename_i e; subst e; rw [if_pos hi]
 ·exact h⟩
theorem LeB.eq_of_count {u v : List Bool} (h : LeB u v) (hc : v.countP id ≤ u.countP id) : v = u := by
  obtain ⟨hl, hm⟩ := h
  induction u generalizing v with
  | nil => cases v with
    | nil => rfl
    | cons _ _ => simp at hl
  | cons s u ih =>
    cases v with
    | nil => simp at hl
    | cons t v =>
      have hm' : LeB u v := ⟨by simpa using hl, fun i hi => by have := hm (i + 1) (by simpa using hi); simpa using this⟩
      have hle : ∀ {u v : List Bool}, LeB u v → u.countP id ≤ v.countP id := by
        intro u
        induction u with
        | nil => intro v _; simp
        | cons s u ih =>
          intro v h
          cases v with
          | nil => have := h.1; simp at this
          | cons t v =>
            have h1 := ih (v := v) ⟨by simpa using h.1, fun i hi => by have := h.2 (i + 1) (by simpa using hi); simpa using this⟩
            rw [List.countP_cons, List.countP_cons]
            cases s with
            | false => cases t <;> simp <;> omega
            | true =>
              have : t = true := by have := h.2 0 rfl; simpa using this
              subst this
              simp; omega
      have h1 := hle hm'
      rw [List.countP_cons, List.countP_cons] at hc
      cases s with
      | false =>
        cases t with
        | false =>
          simp at hc
          rw [ih (v := v) (by simpa using hc) hm'.1 hm'.2]
        | true => simp at hc; omega
      | true =>
        have : t = true := by have := hm 0 rfl; simpa using this
        subst this
        simp at hc
        rw [ih (v := v) (by simpa using hc) hm'.1 hm'.2]
section
variable {f : Func}
theorem z17 (u : List Bool) (k : Nat) : LeB u (qkk f u k) := by
 unfold qkk
 split
 ·exact LeB.refl u
 ·split
  ·split
   ·exact LeB.refl u
   ·split
    ·exact (LeB.set u _).trans (LeB.set _ _)
    ·exact LeB.set u _
  ·exact LeB.refl u
theorem q6a (u : List Bool) (n : Nat) : q4e f u (n + 1) = qkk f (q4e f u n) n := by
 unfold q4e
 rw [List.range_succ, List.foldl_append]
 rfl
theorem qcs (u : List Bool) : ∀ n, LeB u (q4e f u n)
 | 0 => LeB.refl u
 | n + 1 => by rw [q6a]; exact (qcs u n).trans (z17 _ _)
theorem qyt (u : List Bool) {i n : Nat} (h : i ≤ n) : LeB (q4e f u i) (q4e f u n) := by
  induction n with
  | zero =>
      obtain rfl : i = 0 := by omega
      exact LeB.refl _
  | succ n ih =>
    rcases Nat.lt_or_ge i (n + 1) with hi | hi
    · rw [q6a]; exact (ih (by omega)).trans (z17 _ _)
    · obtain rfl : i = n + 1 := by omega
      exact LeB.refl _
theorem qw3 (u : List Bool) : LeB u (qbp f u) := (LeB.set u 0).trans (qcs _ _)
@[simp] theorem q4d (f : Func) : ∀ n, (q2f f n).length = f.blocks.length
 | 0 => by simp [q2f]
 | n + 1 => by show (qbp f (q2f f n)).length = _; rw [(qw3 _).1, q4d f n]
@[simp] theorem qu (f : Func) : (inBL f).length = f.blocks.length := q4d f _
theorem z7k {u : List Bool} (h : ∀ i : Nat, u[i]? = some true → RchB f i) (k : Nat) : ∀ i : Nat, (qkk f u k)[i]? = some true → RchB f i := by
 intro i hi
 unfold qkk at hi
 split at hi
 ·exact h i hi
 ·rename_i b hb
  split at hi
  ·rename_i hu
   split at hi
   ·exact h i hi
   ·rename_i h3
    split at hi
    ·rename_i h2
     rw [List.getElem?_set] at hi
     split at hi
     ·rename_i e; rw [← e]; exact .els (h k hu) hb h2
     ·rw [List.getElem?_set] at hi
      split at hi
      ·rename_i e; rw [← e]; exact .to (h k hu) hb h3
      ·exact h i hi
    ·rw [List.getElem?_set] at hi
     split at hi
     ·rename_i e; rw [← e]; exact .to (h k hu) hb h3
     ·exact h i hi
  ·exact h i hi
theorem qr2 {u : List Bool} (h : ∀ i : Nat, u[i]? = some true → RchB f i) : ∀ n, ∀ i : Nat, (q4e f u n)[i]? = some true → RchB f i
 | 0 => h
 | n + 1 => by rw [q6a]; exact z7k (qr2 h n) n
theorem qnk : ∀ n, ∀ i : Nat, (q2f f n)[i]? = some true → RchB f i
  | 0, i, h => by
    unfold q2f at h
    rw [List.getElem?_replicate] at h
    split at h <;> simp at h
  | n + 1, i, h => by
    refine qr2 (fun i hi => ?_) _ i h
    rw [List.getElem?_set] at hi
    split at hi
    · rename_i e
      subst e
      split at hi
      · rename_i hl; exact .first (by rw [q4d] at hl; exact hl)
      · cases hi
    · exact qnk n i hi
structure ClosedB (f : Func) (u : List Bool) : Prop where
 len : u.length = f.blocks.length
 first : 0 < f.blocks.length → u[0]? = some true
 next : ∀ (k : Nat), qkk f u k = u
theorem z54 (hl : ∀ u : List Bool, u.length = f.blocks.length → True) {u : List Bool} (hu : u.length = f.blocks.length) (h : qbp f u = u) : ClosedB f u := by
  have h0 : LeB (u.set 0 true) u := by
    have := qcs (f := f) (u.set 0 true) f.blocks.length
    rwa [show q4e f (u.set 0 true) f.blocks.length = u from h] at this
  have e0 : u.set 0 true = u := by
    apply List.ext_getElem?
    intro i
    rw [List.getElem?_set]
    split
    · rename_i e
      subst e
      split
      · rename_i hl
        have := h0.2 0 (by rw [List.getElem?_set, if_pos rfl, if_pos hl])
        rw [this]
      · rename_i hl
        rw [List.getElem?_eq_none (by omega)]
    · rfl
  have hs : ∀ n, n ≤ f.blocks.length → q4e f u n = u := by
    intro n hn
    have h1 := qcs (f := f) u n
    have h2 := qyt (f := f) u hn
    rw [show q4e f u f.blocks.length = u by have := h; unfold qbp at this; rwa [e0] at this] at h2
    apply List.ext_getElem?
    intro i
    cases hi : u[i]? with
    | none =>
      have := List.getElem?_eq_none_iff.1 hi
      rw [List.getElem?_eq_none (by rw [h1.1]; exact this)]
    | some s =>
      have hi' := (List.getElem?_eq_some_iff.1 hi).1
      have hi2 : (q4e f u n)[i]? = some ((q4e f u n)[i]'(by rw [h1.1]; exact hi')) := List.getElem?_eq_getElem _
      cases s with
      | true => exact h1.2 i hi
      | false =>
        rw [hi2]
        cases hv : (q4e f u n)[i]'(by rw [h1.1]; exact hi') with
        | false => rfl
        | true =>
          rw [hv] at hi2
          have := h2.2 i hi2
          rw [hi] at this
          cases this
  refine ⟨hu, fun hl => ?_, fun k => ?_⟩
  · have := h0.2 0 (by rw [List.getElem?_set, if_pos rfl, if_pos (by omega)])
    exact this
  · by_cases hk : k < f.blocks.length
    · have h1 := hs k (by omega)
      have h2 := hs (k + 1) (by omega)
      rw [q6a, h1] at h2
      exact h2
    · unfold qkk
      rw [List.getElem?_eq_none (by omega)]
theorem ClosedB.round {u : List Bool} (h : ClosedB f u) : qbp f u = u := by
 have e0 : u.set 0 true = u := by
  apply List.ext_getElem?
  intro i
  rw [List.getElem?_set]
  split
  ·rename_i e
   subst e
   split
   ·rename_i hl
    rw [h.first (by rw [← h.len]; exact hl)]
   ·rw [List.getElem?_eq_none (by omega)]
  ·rfl
 unfold qbp
 rw [e0]
 have : ∀ n, q4e f u n = u := by
  intro n
  induction n with
  | zero => rfl
  | succ n ih => rw [q6a, ih, h.next]
 exact this _
theorem qer (f : Func) : ∀ n, ClosedB f (q2f f n) ∨ n ≤ (q2f f n).countP id
  | 0 => .inr (Nat.zero_le _)
  | n + 1 => by
    show ClosedB f (qbp f (q2f f n)) ∨ n + 1 ≤ (qbp f (q2f f n)).countP id
    rcases qer f n with h | h
    · rw [h.round]; exact .inl h
    · by_cases e : qbp f (q2f f n) = q2f f n
      · rw [e]; exact .inl (z54 (fun _ _ => trivial) (q4d f n) e)
      · refine .inr (Nat.succ_le_of_lt (Nat.lt_of_le_of_lt h (Nat.lt_of_not_le fun hc => e ((qw3 _).eq_of_count hc))))
theorem qje : ∀ {u : List Bool}, u.length ≤ u.countP id → ∀ i, i < u.length → u[i]? = some true
  | [], _, _, h => by simp at h
  | s :: u, h, i, hi => by
    have hle : u.countP id ≤ u.length := List.countP_le_length
    rw [List.countP_cons, List.length_cons] at h
    cases s with
    | false => simp at h; omega
    | true =>
      simp at h
      cases i with
      | zero => rfl
      | succ i => exact qje h i (by simpa using hi)
theorem z15 {u : List Bool} {k : Nat} (h : u[k]? = some true) : u.set k true = u := by
 apply List.ext_getElem?
 intro i
 rw [List.getElem?_set]
 split
 ·rename_i e; subst e; rw [if_pos (List.getElem?_eq_some_iff.1 h).1, h]
 ·rfl
def qgi (f : Func) : Prop := ∀ b ∈ f.blocks, (¬ b.kind = 3 → b.to.toNat < f.blocks.length) ∧ (b.kind = 2 → b.els.toNat < f.blocks.length)
theorem qxv (he : qgi f) : ClosedB f (inBL f) := by
 rcases qer f f.blocks.length with h | h
 ·exact h
 ·have hall := qje (u := inBL f) (by rw [qu]; exact h)
  rw [qu] at hall
  refine ⟨qu f, fun hl => hall 0 hl, fun k => ?_⟩
  unfold qkk
  split
  ·rfl
  ·rename_i b hb
   have hbe := he b (List.mem_of_getElem? hb)
   split
   ·split
    ·rfl
    ·rename_i h3
     have e1 := z15 (hall _ (hbe.1 h3))
     split
     ·rename_i h2
      rw [e1, z15 (hall _ (hbe.2 h2))]
     ·exact e1
   ·rfl
theorem qhj (he : qgi f) (k : Nat) : (inBL f)[k]? = some true ↔ RchB f k := by
  have hc := qxv he
  refine ⟨qnk _ k, fun h => ?_⟩
  induction h with
  | first h => exact hc.first h
  | @to k b h hb hk ih =>
    have := hc.next k
    unfold qkk at this
    rw [hb] at this
    simp only at this
    rw [if_pos ih, if_neg hk] at this
    have hbe := (he b (List.mem_of_getElem? hb)).1 hk
    rw [← this]
    split
    · refine (LeB.set _ _).2 _ ?_
      rw [List.getElem?_set, if_pos rfl, if_pos (by rw [qu]; exact hbe)]
    · rw [List.getElem?_set, if_pos rfl, if_pos (by rw [qu]; exact hbe)]
  | @els k b h hb hk ih =>
    have := hc.next k
    unfold qkk at this
    rw [hb] at this
    simp only at this
    rw [if_pos ih, if_neg (by omega), if_pos hk] at this
    have hbe := (he b (List.mem_of_getElem? hb)).2 hk
    rw [← this, List.getElem?_set, if_pos rfl, if_pos (by rw [List.length_set, qu]; exact hbe)]
end
end Go.Proofs.YtgadlpdbkohlbaaGreat
namespace Go.Proofs.YtgadlpdbkohlbaaGreat
open Go.RowKit
def gB (f : Func) (v : Int) : Int := nst (inBL f) v.toNat
def endT (f : Func) (b : Block) : Block := { b with to := if b.kind = 3 then b.to else gB f b.to, els := if b.kind = 2 then gB f b.els else b.els }
def qbc (f : Func) : Func := { f with blocks := (sel (inBL f) f.blocks).map fun b => endT f (q6c b) }
def z3q (m : Module) : Module := mapM qbc m
theorem z01 {f : Func} (h : qr f = true) : qgi f := fun b hb => by
 have hbk := (qh.1 (List.all_eq_true.1 (q2g h) b hb)).2.2.2.2
 have hg : ∀ (to : Int) (l : List Int) (n : Int), q4a f to l n = true → to.toNat < f.blocks.length := fun to l n hg => by
  obtain ⟨_, ⟨c, hc, _⟩, _⟩ := q5a.1 hg
  exact (List.getElem?_eq_some_iff.1 hc).1
 rcases q82.1 hbk with ⟨e1, e2, _⟩ | ⟨e1, _, e3, e4⟩ | ⟨e1, _⟩
 ·exact ⟨fun _ => hg _ _ _ e2, fun h => by omega⟩
 ·exact ⟨fun _ => hg _ _ _ e3, fun _ => hg _ _ _ e4⟩
 ·exact ⟨fun h => absurd e1 h, fun h => by omega⟩
section
variable {f : Func}
theorem qlc (h : qr f = true) {k : Nat} {b : Block} (hr : RchB f k) (hb : f.blocks[k]? = some b) : (qbc f).blocks[nst (inBL f) k]? = some (endT f (q6c b)) := by
 show ((sel (inBL f) f.blocks).map fun b => endT f (q6c b))[nst (inBL f) k]? = _
 rw [List.getElem?_map, sel_at ((qhj (z01 h) k).2 hr) hb]
 rfl
theorem z1e (h : qr f = true) {b' : Block} (hb : b' ∈ (qbc f).blocks) : ∃ k b, RchB f k ∧ f.blocks[k]? = some b ∧ b' = endT f (q6c b) := by
 obtain ⟨b, hb2, rfl⟩ := List.mem_map.1 hb
 obtain ⟨k, h1, h2⟩ := qyr hb2
 exact ⟨k, b, (qhj (z01 h) k).1 h1, h2, rfl⟩
@[simp] theorem qf0 (b : Block) : (endT f (q6c b)).params = b.params := rfl
@[simp] theorem qru (b : Block) : (endT f (q6c b)).ins = q9l b := rfl
@[simp] theorem z5d (b : Block) : (endT f (q6c b)).kind = b.kind := rfl
@[simp] theorem endT_ta (b : Block) : (endT f (q6c b)).ta = if b.kind = 1 then b.ta else gT b b.ta := rfl
@[simp] theorem endT_to (b : Block) : (endT f (q6c b)).to = if b.kind = 3 then b.to else gB f b.to := rfl
@[simp] theorem endT_els (b : Block) : (endT f (q6c b)).els = if b.kind = 2 then gB f b.els else b.els := rfl
@[simp] theorem z5c (b : Block) : (endT f (q6c b)).args = b.args.map (gT b) := rfl
@[simp] theorem z21 (b : Block) : (endT f (q6c b)).elses = b.elses.map (gT b) := rfl
theorem gB_nat (f : Func) (v : Int) : (gB f v).toNat = nst (inBL f) v.toNat := by unfold gB; omega
theorem qnz (h : qr f = true) {b : Block} (hb : qj f b = true) {to : Int} {l : List Int} (hr : RchB f to.toNat) (hg : q4a f to l (b.params + b.ins.length) = true) (hl : ∀ v ∈ l, v ∈ q2r b) : q4a (qbc f) (gB f to) (l.map (gT b)) (b.params + (q9l b).length) = true := by
 obtain ⟨h1, ⟨c, h2, h3⟩, h4⟩ := q5a.1 hg
 refine q5a.2 ⟨by unfold gB; omega, ⟨_, by rw [gB_nat]; exact qlc h hr h2, by simpa using h3⟩, fun v hv => ?_⟩
 obtain ⟨u, hu, rfl⟩ := List.mem_map.1 hv
 exact qxs (qp5 hb) (hl u hu)
theorem z3r (h : qr f = true) {k : Nat} {b : Block} (hr : RchB f k) (hb : f.blocks[k]? = some b) : qj (qbc f) (endT f (q6c b)) = true := by
 have hbk : qj f b = true := List.all_eq_true.1 (q2g h) b (List.mem_of_getElem? hb)
 have hfit := qp5 hbk
 obtain ⟨h0, h6, h32, hi, he⟩ := qh.1 hbk
 refine qh.2 ⟨h0, h6, Nat.le_trans (z3p b) h32, fun j hj => ?_, ?_⟩
 ·simp only [qru, qf0] at hj ⊢
  obtain ⟨i, x, hx, hs, hn, hy⟩ := qr9 (List.getElem?_eq_getElem hj)
  rw [hy]
  have hik := (List.getElem?_eq_some_iff.1 hx).1
  have hxo := hi i hik
  rw [(List.getElem?_eq_some_iff.1 hx).2] at hxo
  refine qy7 hxo fun v hv => ?_
  have := gT_ins hfit hx hs hv
  rw [hn] at this
  exact this
 ·rw [q82] at he ⊢
  simp only [z5d, qf0, qru, endT_ta, endT_to, endT_els, z5c, z21]
  rcases he with ⟨e1, e2, e3, e4, e5⟩ | ⟨e1, e2, e3, e4⟩ | ⟨e1, e2, e3, e4, e5, e6⟩
  ·rw [if_neg (by omega), if_pos e1, if_neg (by omega)]
   exact .inl ⟨e1, qnz h hbk (.to hr hb (by omega)) e2 (fun v hv => by unfold q2r; simp [hv]), e3, e4, by rw [e5]; rfl⟩
  ·rw [if_neg (by omega), if_neg (by omega), if_pos e1]
   exact .inr (.inl ⟨e1, qxs hfit (by unfold q2r; rw [if_neg (by omega)]; simp), qnz h hbk (.to hr hb (by omega)) e3 (fun v hv => by unfold q2r; simp [hv]), qnz h hbk (.els hr hb e1) e4 (fun v hv => by unfold q2r; simp [hv])⟩)
  ·rw [if_pos e1, if_neg (by omega), if_neg (by omega)]
   exact .inr (.inr ⟨e1, qxs hfit (by unfold q2r; rw [if_neg (by omega)]; simp), e3, by rw [e4]; rfl, e5, by rw [e6]; rfl⟩)
end
theorem trim_map {m : Module} (hok : ModOk m) : MapF m qbc where
 name _ _ := rfl
 params _ _ := rfl
 ok f hf := by
  have h := hok.funcs f hf
  have hlen : (qbc f).blocks.length ≤ f.blocks.length := by
   show ((sel (inBL f) f.blocks).map _).length ≤ _
   rw [List.length_map, q8a (by simp)]
   exact qqd _ _
  have hz : (qbc f).blocks.length = 0 ↔ f.blocks.length = 0 := by
   constructor
   ·intro h0
    refine Classical.byContradiction fun hne => ?_
    have hp : 0 < f.blocks.length := by omega
    have := qlc h (.first hp) (List.getElem?_eq_getElem hp)
    have := (List.getElem?_eq_some_iff.1 this).1
    omega
   ·omega
  refine qus h rfl rfl rfl hlen hz (fun b hb => ?_) (fun b hb => ?_)
  ·have hp : 0 < f.blocks.length := by
    have := (List.getElem?_eq_some_iff.1 hb).1
    omega
   have e := qlc h (.first hp) (List.getElem?_eq_getElem hp)
   rw [nst_zero, hb] at e
   injection e with e
   rw [e, qf0]
   exact q9t h hp
  ·obtain ⟨k, c, hr, hc, rfl⟩ := z1e h hb
   exact z3r h hr hc
 blocks f hf := by
  have h := hok.funcs f hf
  constructor
  ·intro h0
   refine Classical.byContradiction fun hne => ?_
   have hp : 0 < f.blocks.length := by omega
   have := qlc h (.first hp) (List.getElem?_eq_getElem hp)
   have := (List.getElem?_eq_some_iff.1 this).1
   omega
  ·intro h0
   show ((sel (inBL f) f.blocks).map _).length = 0
   rw [List.length_eq_zero_iff.1 h0]
   simp
 ins f hf x hx _ := by
  obtain ⟨b', hb', hx⟩ := List.mem_flatMap.1 hx
  obtain ⟨k, b, _, hb, rfl⟩ := z1e (hok.funcs f hf) hb'
  rw [qru] at hx
  obtain ⟨j, hj, rfl⟩ := List.getElem_of_mem hx
  obtain ⟨i, y, hy, _, _, e⟩ := qr9 (List.getElem?_eq_getElem hj)
  rw [e]
  exact ⟨y, List.mem_flatMap.2 ⟨b, List.mem_of_getElem? hb, List.mem_of_getElem? hy⟩, rfl, rfl, by simp [qi]⟩
theorem trim_ok {m : Module} (h : ModOk m) : ModOk (z3q m) := (trim_map h).okM h
end Go.Proofs.YtgadlpdbkohlbaaGreat
namespace Go.Proofs.YtgadlpdbkohlbaaGreat
open Go.RowKit
structure OnePut (m : Module) (fi : Nat) (f0 : Func) (bi : Nat) (b0 : Block) (ak : Nat) (x0 : Inst) (g0 : Func) (l : Block) : Prop where
 hf : m.funcs[fi]? = some f0
 hb : f0.blocks[bi]? = some b0
 hx : b0.ins[ak]? = some x0
 h14 : x0.op = 14
 hg : q55 m x0.name = some g0
 hl : g0.blocks = [l]
 hk : l.kind = 3
 hno : ∀ i ∈ l.ins, ¬ i.op = 14
 h32 : b0.ins.length - 1 + l.ins.length ≤ 32
def putF (f0 : Func) (bi : Nat) (b0 : Block) (ak : Nat) (l : Block) : Func := { f0 with blocks := f0.blocks.set bi (putB b0 l ak) }
def putM (m : Module) (fi : Nat) (f0 : Func) (bi : Nat) (b0 : Block) (ak : Nat) (l : Block) : Module := { m with funcs := m.funcs.set fi (putF f0 bi b0 ak l) }
section
variable {m : Module} {fi : Nat} {f0 : Func} {bi : Nat} {b0 : Block} {ak : Nat} {x0 : Inst} {g0 : Func} {l : Block}
structure PutFacts (m : Module) (f0 : Func) (b0 : Block) (ak : Nat) (x0 : Inst) (g0 : Func) (l : Block) (P Q : Nat) : Prop where
 f0m : f0 ∈ m.funcs
 b0m : b0 ∈ f0.blocks
 x0m : x0 ∈ qk f0
 g0m : g0 ∈ m.funcs
 g0n : g0.name = x0.name
 lm : l ∈ g0.blocks
 hP : b0.params = (P : Int)
 hQ : l.params = (Q : Int)
 len : x0.args.length = Q
 bOk : qj f0 b0 = true
 lOk : qj g0 l = true
 xOk : qt x0 (P + ak) = true
 ta : 0 ≤ l.ta ∧ l.ta < Q + l.ins.length
 lt : ak < b0.ins.length
theorem OnePut.facts (h : OnePut m fi f0 bi b0 ak x0 g0 l) (hok : ModOk m) : ∃ P Q, PutFacts m f0 b0 ak x0 g0 l P Q := by
 have hfm := List.mem_of_getElem? h.hf
 have hbm := List.mem_of_getElem? h.hb
 have hxm : x0 ∈ qk f0 := List.mem_flatMap.2 ⟨b0, hbm, List.mem_of_getElem? h.hx⟩
 have hgm := List.mem_of_find?_eq_some h.hg
 have hgn : g0.name = x0.name := by simpa using List.find?_some h.hg
 have hlm : l ∈ g0.blocks := by rw [h.hl]; simp
 have hbo := List.all_eq_true.1 (q2g (hok.funcs f0 hfm)) b0 hbm
 have hlo := List.all_eq_true.1 (q2g (hok.funcs g0 hgm)) l hlm
 obtain ⟨p0, p6, _, hins, _⟩ := qh.1 hbo
 obtain ⟨l0, l6, _, _, le⟩ := qh.1 hlo
 obtain ⟨P, hP⟩ := Int.eq_ofNat_of_zero_le p0
 obtain ⟨Q, hQ⟩ := Int.eq_ofNat_of_zero_le l0
 have hlt : ak < b0.ins.length := (List.getElem?_eq_some_iff.1 h.hx).1
 obtain ⟨g', hg', hgn', hgp'⟩ := hok.call (q3o hfm hxm) h.h14
 have e : g' = g0 := qhq hok.fnodup hg' hgm (hgn'.trans hgn.symm)
 subst e
 have hq : l.params = g'.params := by
  have := q9t (hok.funcs g' hgm) (by rw [h.hl]; simp)
  simpa [h.hl] using this
 refine ⟨P, Q, hfm, hbm, hxm, hgm, hgn, hlm, hP, hQ, by omega, hbo, hlo, ?_, ?_, hlt⟩
 ·have := hins ak hlt
  rw [(List.getElem?_eq_some_iff.1 h.hx).2, hP] at this
  exact this
 ·have hk := h.hk
  rw [q82] at le
  rcases le with ⟨e, _⟩ | ⟨e, _⟩ | ⟨_, e, _⟩
  ·omega
  ·omega
  ·rw [hQ] at e; exact e
theorem z6y (h : OnePut m fi f0 bi b0 ak x0 g0 l) : SameParams f0 (putF f0 bi b0 ak l) := by
 refine ⟨by simp [putF], fun k b hb => ?_⟩
 simp only [putF]
 rw [List.getElem?_set]
 by_cases hk : bi = k
 ·subst hk
  rw [h.hb] at hb
  injection hb with hb
  subst hb
  rw [if_pos rfl, if_pos (List.getElem?_eq_some_iff.1 h.hb).1]
  exact ⟨_, rfl, rfl⟩
 ·rw [if_neg hk]
  exact ⟨b, hb, rfl⟩
theorem qn5 (h : OnePut m fi f0 bi b0 ak x0 g0 l) {b : Block} (hb : b ∈ (putF f0 bi b0 ak l).blocks) : b ∈ f0.blocks ∨ b = putB b0 l ak := List.mem_or_eq_of_mem_set hb
theorem putF_ok (h : OnePut m fi f0 bi b0 ak x0 g0 l) (hok : ModOk m) : qr (putF f0 bi b0 ak l) = true := by
 obtain ⟨P, Q, hF⟩ := h.facts hok
 have hf := hok.funcs f0 hF.f0m
 have hs := z6y h
 have hbl := (List.getElem?_eq_some_iff.1 h.hb).1
 have hall : (putF f0 bi b0 ak l).blocks.all (qj (putF f0 bi b0 ak l)) = true := List.all_eq_true.2 fun b hb => by
  rcases qn5 h hb with hb | rfl
  ·exact qu0 hs (List.all_eq_true.1 (q2g hf) b hb)
  ·exact z6x hs hF.bOk hF.lOk h.hk hF.hP hF.hQ h.hx h.h14 hF.len h.h32
 exact qxr hf hs hall rfl rfl rfl (by omega)
theorem put_from (h : OnePut m fi f0 bi b0 ak x0 g0 l) (hok : ModOk m) {y : Inst} (hy : y ∈ qk (putF f0 bi b0 ak l)) : ∃ f ∈ m.funcs, ∃ x ∈ qk f, y.op = x.op ∧ y.name = x.name ∧ y.args.length = x.args.length := by
 obtain ⟨P, Q, hF⟩ := h.facts hok
 obtain ⟨b, hb, hyb⟩ := List.mem_flatMap.1 hy
 rcases qn5 h hb with hb | rfl
 ·exact ⟨f0, hF.f0m, y, List.mem_flatMap.2 ⟨b, hb, hyb⟩, rfl, rfl, rfl⟩
 ·have hin : ∀ x ∈ b0.ins, x ∈ qk f0 := fun x hx => List.mem_flatMap.2 ⟨b0, hF.b0m, hx⟩
  simp only [putB, List.mem_append, List.mem_map] at hyb
  rcases hyb with (hyb | ⟨x, hx, rfl⟩) | ⟨x, hx, rfl⟩
  ·exact ⟨f0, hF.f0m, y, hin y (List.mem_of_mem_take hyb), rfl, rfl, rfl⟩
  ·exact ⟨g0, hF.g0m, x, List.mem_flatMap.2 ⟨l, hF.lm, hx⟩, rfl, rfl, by simp [qi]⟩
  ·exact ⟨f0, hF.f0m, x, hin x (List.mem_of_mem_drop hx), rfl, rfl, by simp [qi]⟩
theorem qvo (h : OnePut m fi f0 bi b0 ak x0 g0 l) {f : Func} (hf : f ∈ (putM m fi f0 bi b0 ak l).funcs) : f ∈ m.funcs ∨ f = putF f0 bi b0 ak l := List.mem_or_eq_of_mem_set hf
theorem z71 (h : OnePut m fi f0 bi b0 ak x0 g0 l) : qn (putM m fi f0 bi b0 ak l) = qn m := by
 have : (m.funcs.set fi (putF f0 bi b0 ak l)).map (·.name) = m.funcs.map (·.name) := by
  apply List.ext_getElem?
  intro k
  simp only [List.getElem?_map, List.getElem?_set]
  by_cases hk : fi = k
  ·subst hk
   rw [if_pos rfl, if_pos (List.getElem?_eq_some_iff.1 h.hf).1, h.hf]
   rfl
  ·rw [if_neg hk]
 unfold qn q3c q59 putM
 rw [this]
theorem put_mem (h : OnePut m fi f0 bi b0 ak x0 g0 l) (hok : ModOk m) {g : Func} (hg : g ∈ m.funcs) : ∃ g' ∈ (putM m fi f0 bi b0 ak l).funcs, g'.name = g.name ∧ g'.params = g.params := by
 have hf0m := List.mem_of_getElem? h.hf
 by_cases e : g.name = f0.name
 ·obtain rfl := qhq hok.fnodup hg hf0m e
  exact ⟨putF g bi b0 ak l, List.mem_of_getElem? (i := fi) (by simp only [putM]; rw [List.getElem?_set, if_pos rfl, if_pos (List.getElem?_eq_some_iff.1 h.hf).1]), rfl, rfl⟩
 ·obtain ⟨k, hk, rfl⟩ := List.getElem_of_mem hg
  refine ⟨m.funcs[k], List.mem_of_getElem? (i := k) ?_, rfl, rfl⟩
  simp only [putM]
  rw [List.getElem?_set, if_neg, List.getElem?_eq_getElem hk]
  rintro rfl
  have := h.hf
  rw [List.getElem?_eq_getElem hk] at this
  injection this with this
  exact e (by rw [this])
theorem put_ok (h : OnePut m fi f0 bi b0 ak x0 g0 l) (hok : ModOk m) : ModOk (putM m fi f0 bi b0 ak l) := by
 have hfrom : ∀ f ∈ (putM m fi f0 bi b0 ak l).funcs, ∀ y ∈ qk f, ∃ f' ∈ m.funcs, ∃ x ∈ qk f', y.op = x.op ∧ y.name = x.name ∧ y.args.length = x.args.length := fun f hf y hy => by
  rcases qvo h hf with hf | rfl
  ·exact ⟨f, hf, y, hy, rfl, rfl, rfl⟩
  ·exact put_from h hok hy
 refine .mk' (by simpa [putM] using hok.nf) hok.ng (fun f hf => ?_) hok.globs (by rw [z71 h]; exact hok.names) (fun f hf y hy h14 => ?_) (fun f hf y hy h12 => ?_)
 ·rcases qvo h hf with hf | rfl
  ·exact hok.funcs f hf
  ·exact putF_ok h hok
 ·obtain ⟨f', hf', x, hx, e1, e2, e3⟩ := hfrom f hf y hy
  obtain ⟨g, hg, hgn, hgp⟩ := hok.call (q3o hf' hx) (by omega)
  obtain ⟨g', hg', hn, hp⟩ := put_mem h hok hg
  exact ⟨g', hg', by rw [hn, hgn, e2], by rw [hp, hgp, e3]⟩
 ·obtain ⟨f', hf', x, hx, e1, e2, e3⟩ := hfrom f hf y hy
  obtain ⟨g, hg, hgn⟩ := q4j.1 ((q37 (hok.miss x (q3o hf' hx))).2 (by rw [← e1]; exact h12))
  exact ⟨g, hg, by rw [hgn, e2]⟩
end
end Go.Proofs.YtgadlpdbkohlbaaGreat
namespace Go.Proofs.YtgadlpdbkohlbaaGreat
open Go.RowKit
section
variable {m : Module} {fi : Nat} {f0 : Func} {bi : Nat} {b0 : Block} {ak : Nat} {x0 : Inst} {g0 : Func} {l : Block} {P Q : Nat}
end
end Go.Proofs.YtgadlpdbkohlbaaGreat
namespace Go.Proofs.YtgadlpdbkohlbaaGreat
open Go.RowKit
def qsa (f : Func) (budget : Int) : Bool := match f.blocks with
 | [b] => decide (b.kind = 3) && decide ((b.ins.length : Int) ≤ budget) && !b.ins.any fun i => decide (i.op = 14)
 | _ => false
def qag (m : Module) (budget : Int) (s : ByteArray) : Option Block := match q55 m s with
 | some f => if qsa f budget = true then f.blocks[0]? else none
 | none => none
def q77 (m : Module) (budget : Int) : Nat → Block → Nat → Block
  | 0, b, _ => b
  | n + 1, b, at' => match b.ins[at']? with
    | none => b
    | some x => if x.op = 14 then (match qag m budget x.name with
        | some l => if q60 b l at' = true then q77 m budget n (putB b l at') (at' + l.ins.length) else q77 m budget n b (at' + 1)
        | none => q77 m budget n b (at' + 1)) else q77 m budget n b (at' + 1)
def inlB (m : Module) (budget : Int) (b : Block) : Block := q77 m budget b.ins.length b 0
def inlF (m : Module) (budget : Int) (f : Func) : Func := { f with blocks := f.blocks.map (inlB m budget) }
def inlM (m : Module) (budget : Int) : Module := if q5z m = 0 then { m with funcs := m.funcs.map (inlF m budget) } else m
theorem q8y {f : Func} {budget : Int} : qsa f budget = true ↔ ∃ b, f.blocks = [b] ∧ b.kind = 3 ∧ (b.ins.length : Int) ≤ budget ∧ ∀ i ∈ b.ins, ¬ i.op = 14 := by
 unfold qsa
 split
 ·rename_i b hb
  simp [hb, and_assoc]
 ·rename_i hb
  constructor
  ·intro h; cases h
  ·rintro ⟨b, h, _⟩; exact absurd h (hb b)
theorem qj0 {m : Module} {budget : Int} {s : ByteArray} {l : Block} (h : qag m budget s = some l) : ∃ f, q55 m s = some f ∧ f.blocks = [l] ∧ l.kind = 3 ∧ ∀ i ∈ l.ins, ¬ i.op = 14 := by
 unfold qag at h
 split at h
 ·rename_i f hf
  split at h
  ·rename_i hl
   obtain ⟨b, h1, h2, _, h4⟩ := q8y.1 hl
   rw [h1] at h
   simp only [List.getElem?_cons_zero] at h
   injection h with h
   subst h
   exact ⟨f, hf, h1, h2, h4⟩
  ·cases h
 ·cases h
inductive Puts (m : Module) : Module → Prop
 | refl : Puts m m
 | step {M : Module} {fi : Nat} {f0 : Func} {bi : Nat} {b0 : Block} {ak : Nat} {x0 : Inst} {g0 : Func} {l : Block} (h : Puts m M) (hp : OnePut M fi f0 bi b0 ak x0 g0 l) : Puts m (putM M fi f0 bi b0 ak l)
theorem Puts.ok {m M : Module} (h : Puts m M) (hok : ModOk m) : ModOk M := by
 induction h with
 | refl => exact hok
 | step _ hp ih => exact put_ok hp ih
def Plain1 (f : Func) : Prop := ∃ b, f.blocks = [b] ∧ ∀ i ∈ b.ins, ¬ i.op = 14
structure Based (m M : Module) : Prop where
 globs : M.globs = m.globs
 funcs : M.funcs.length = m.funcs.length
 f : ∀ (i : Nat) (f F : Func), m.funcs[i]? = some f → M.funcs[i]? = some F → F.name = f.name ∧ F.bind = f.bind ∧ F.params = f.params ∧ F.blocks.length = f.blocks.length ∧ (Plain1 f → F = f)
theorem findF_at {m : Module} (hok : ModOk m) {s : ByteArray} {f : Func} (h : q55 m s = some f) : ∃ i : Nat, m.funcs[i]? = some f ∧ f.name = s := by
 obtain ⟨i, hi, rfl⟩ := List.getElem_of_mem (List.mem_of_find?_eq_some h)
 exact ⟨i, List.getElem?_eq_getElem hi, by simpa using List.find?_some h⟩
theorem Based.leaf {m M : Module} (hB : Based m M) (hok : ModOk m) (hokM : ModOk M) {s : ByteArray} {g : Func} {l : Block} (h : q55 m s = some g) (hl : g.blocks = [l]) (hno : ∀ i ∈ l.ins, ¬ i.op = 14) : q55 M s = some g := by
 obtain ⟨i, hi, hn⟩ := findF_at hok h
 have hlt := (List.getElem?_eq_some_iff.1 hi).1
 have hi' : M.funcs[i]? = some (M.funcs[i]'(by rw [hB.funcs]; exact hlt)) := List.getElem?_eq_getElem _
 obtain ⟨_, _, _, _, e⟩ := hB.f i g _ hi hi'
 have e := e ⟨l, hl, hno⟩
 rw [e] at hi'
 rw [← hn]
 exact qis hokM (List.mem_of_getElem? hi')
def qre (M : Module) (fi bi : Nat) (b : Block) : Prop := ∃ f : Func, M.funcs[fi]? = some f ∧ f.blocks[bi]? = some b
structure BlkSet (M M' : Module) (fi bi : Nat) (b : Block) : Prop where
 at_ : qre M' fi bi b
 other : ∀ i j c, qre M i j c → ¬ (i = fi ∧ j = bi) → qre M' i j c
theorem qp6 {M : Module} {fi : Nat} {f0 : Func} {bi : Nat} {b0 : Block} {ak : Nat} {x0 : Inst} {g0 : Func} {l : Block} (h : OnePut M fi f0 bi b0 ak x0 g0 l) : BlkSet M (putM M fi f0 bi b0 ak l) fi bi (putB b0 l ak) := by
 have hfl := (List.getElem?_eq_some_iff.1 h.hf).1
 have hbl := (List.getElem?_eq_some_iff.1 h.hb).1
 have hfi : (putM M fi f0 bi b0 ak l).funcs[fi]? = some (putF f0 bi b0 ak l) := by simp only [putM]; rw [List.getElem?_set, if_pos rfl, if_pos hfl]
 refine ⟨⟨_, hfi, by simp only [putF]; rw [List.getElem?_set, if_pos rfl, if_pos hbl]⟩, fun i j c hc hne => ?_⟩
 obtain ⟨f, hf, hc⟩ := hc
 by_cases hi : i = fi
 ·subst hi
  rw [h.hf] at hf
  injection hf with hf
  subst hf
  refine ⟨_, hfi, ?_⟩
  simp only [putF]
  rw [List.getElem?_set, if_neg (fun e => hne ⟨rfl, e.symm⟩)]
  exact hc
 ·refine ⟨f, ?_, hc⟩
  simp only [putM]
  rw [List.getElem?_set, if_neg (fun e => hi e.symm)]
  exact hf
theorem z4y {m M : Module} (hB : Based m M) {fi : Nat} {f0 : Func} {bi : Nat} {b0 : Block} {ak : Nat} {x0 : Inst} {g0 : Func} {l : Block} (h : OnePut M fi f0 bi b0 ak x0 g0 l) : Based m (putM M fi f0 bi b0 ak l) := by
 have hfl := (List.getElem?_eq_some_iff.1 h.hf).1
 refine ⟨hB.globs, by simp [putM, hB.funcs], fun i f F hf hF => ?_⟩
 simp only [putM] at hF
 rw [List.getElem?_set] at hF
 by_cases hi : fi = i
 ·subst hi
  rw [if_pos rfl, if_pos hfl] at hF
  injection hF with hF
  obtain ⟨a1, a2, a3, a4, a5⟩ := hB.f fi f f0 hf h.hf
  subst hF
  refine ⟨a1, a2, a3, by simp [putF, a4], fun hp => ?_⟩
  exfalso
  have e := a5 hp
  obtain ⟨b, hb, hno⟩ := hp
  have h1 := h.hb
  rw [e, hb] at h1
  have h2 : b0 = b := by
   cases bi with
   | zero => simp at h1; exact h1.symm
   | succ k => simp at h1
  exact hno x0 (h2 ▸ List.mem_of_getElem? h.hx) h.h14
 ·rw [if_neg hi] at hF
  exact hB.f i f F hf hF
theorem qql {b l : Block} {ak : Nat} : q60 b l ak = true ↔ ak < b.ins.length ∧ (b.ins[ak]?.getD default).op = 14 ∧ ((b.ins[ak]?.getD default).args.length : Int) = l.params ∧ l.kind = 3 ∧ (b.ins.length : Int) - 1 + l.ins.length ≤ 32 := by
 unfold q60 qce
 simp only [Bool.and_eq_true, decide_eq_true_eq, Int.toNat_natCast]
 omega
theorem z2u {m : Module} (hok : ModOk m) (budget : Int) (fi bi : Nat) : ∀ (n : Nat) (M : Module) (b : Block) (at' : Nat), Puts m M → Based m M → qre M fi bi b →
    ∃ M', Puts m M' ∧ Based m M' ∧ BlkSet M M' fi bi (q77 m budget n b at') := by
  intro n
  induction n with
  | zero => intro M b at' hP hB hb; exact ⟨M, hP, hB, hb, fun _ _ _ h _ => h⟩
  | succ n ih =>
    intro M b at' hP hB hb
    unfold q77
    cases hx : b.ins[at']? with
    | none => exact ⟨M, hP, hB, hb, fun _ _ _ h _ => h⟩
    | some x =>
      simp only
      by_cases h14 : x.op = 14
      · rw [if_pos h14]
        cases hl : qag m budget x.name with
        | none => exact ih M b (at' + 1) hP hB hb
        | some l =>
          simp only
          by_cases hy : q60 b l at' = true
          · rw [if_pos hy]
            obtain ⟨y1, y2, y3, y4, y5⟩ := qql.1 hy
            obtain ⟨g, hg, hgl, hk, hno⟩ := qj0 hl
            obtain ⟨f0, hf0, hb0⟩ := hb
            have hone : OnePut M fi f0 bi b at' x g l := ⟨hf0, hb0, hx, h14, hB.leaf hok (hP.ok hok) hg hgl hno, hgl, hk, hno, by omega⟩
            obtain ⟨M', h1, h2, h3⟩ := ih (putM M fi f0 bi b at' l) (putB b l at') (at' + l.ins.length) (hP.step hone) (z4y hB hone) (qp6 hone).at_
            exact ⟨M', h1, h2, h3.at_, fun i j c hc hne => h3.other i j c ((qp6 hone).other i j c hc hne) hne⟩
          · rw [if_neg hy]
            exact ih M b (at' + 1) hP hB hb
      · rw [if_neg h14]
        exact ih M b (at' + 1) hP hB hb
structure Done (m M : Module) (budget : Int) (L : List (Nat × Nat)) : Prop where
 puts : Puts m M
 based : Based m M
 blk : ∀ i j b, qre m i j b → qre M i j (if (i, j) ∈ L then inlB m budget b else b)
theorem z00 {m : Module} (hok : ModOk m) (budget : Int) : ∀ L : List (Nat × Nat), ∃ M, Done m M budget L
  | [] => ⟨m, .refl, ⟨rfl, rfl, fun i f F h1 h2 => by rw [h1] at h2; injection h2 with h2; subst h2; exact ⟨rfl, rfl, rfl, rfl, fun _ => rfl⟩⟩, fun i j b h => by simpa using h⟩
  | (fi, bi) :: L => by
    obtain ⟨M, hM⟩ := z00 hok budget L
    by_cases hin : (fi, bi) ∈ L
    · exact ⟨M, hM.puts, hM.based, fun i j b h => by
        have e : ((i, j) ∈ (fi, bi) :: L) ↔ (i, j) ∈ L := by
          rw [List.mem_cons]
          exact ⟨fun h => h.elim (fun e => e ▸ hin) id, .inr⟩
        have := hM.blk i j b h
        by_cases hc : (i, j) ∈ L
        · rw [if_pos hc] at this; rw [if_pos (e.2 hc)]; exact this
        · rw [if_neg hc] at this; rw [if_neg (fun h => hc (e.1 h))]; exact this⟩
    · by_cases hb : ∃ b, qre m fi bi b
      · obtain ⟨b, hb⟩ := hb
        have hbM := hM.blk fi bi b hb
        rw [if_neg hin] at hbM
        obtain ⟨M', h1, h2, h3⟩ := z2u hok budget fi bi b.ins.length M b 0 hM.puts hM.based hbM
        refine ⟨M', h1, h2, fun i j c hc => ?_⟩
        by_cases he : i = fi ∧ j = bi
        · obtain ⟨rfl, rfl⟩ := he
          have : c = b := by
            obtain ⟨f, hf, hb⟩ := hb
            obtain ⟨f', hf', hc⟩ := hc
            rw [hf] at hf'
            injection hf' with hf'
            subst hf'
            rw [hb] at hc
            injection hc with hc
            exact hc.symm
          subst this
          rw [if_pos (by simp)]
          exact h3.at_
        · have := h3.other i j _ (hM.blk i j c hc) he
          have e : ((i, j) ∈ (fi, bi) :: L) ↔ (i, j) ∈ L := by
            rw [List.mem_cons]
            exact ⟨fun h => h.elim (fun e => absurd (Prod.mk.injEq .. ▸ e) he) id, .inr⟩
          by_cases hc' : (i, j) ∈ L
          · rw [if_pos hc'] at this; rw [if_pos (e.2 hc')]; exact this
          · rw [if_neg hc'] at this; rw [if_neg (fun h => hc' (e.1 h))]; exact this
      · refine ⟨M, hM.puts, hM.based, fun i j c hc => ?_⟩
        have := hM.blk i j c hc
        by_cases he : i = fi ∧ j = bi
        · obtain ⟨rfl, rfl⟩ := he
          exact absurd ⟨c, hc⟩ hb
        · have e : ((i, j) ∈ (fi, bi) :: L) ↔ (i, j) ∈ L := by
            rw [List.mem_cons]
            exact ⟨fun h => h.elim (fun e => absurd (Prod.mk.injEq .. ▸ e) he) id, .inr⟩
          by_cases hc' : (i, j) ∈ L
          · rw [if_pos hc'] at this; rw [if_pos (e.2 hc')]; exact this
          · rw [if_neg hc'] at this; rw [if_neg (fun h => hc' (e.1 h))]; exact this
theorem z0u {m : Module} (hok : ModOk m) (budget : Int) : Puts m { m with funcs := m.funcs.map (inlF m budget) } := by
  obtain ⟨M, hM⟩ := z00 hok budget ((List.range 16).flatMap fun i => (List.range 16).map fun j => (i, j))
  have hall : ∀ i j b, qre m i j b → qre M i j (inlB m budget b) := fun i j b h => by
    have := hM.blk i j b h
    rwa [if_pos] at this
    obtain ⟨f, hf, hb⟩ := h
    have h1 := (List.getElem?_eq_some_iff.1 hf).1
    have h2 := (List.getElem?_eq_some_iff.1 hb).1
    have h3 := hok.nf
    have h4 := q1v (hok.funcs f (List.mem_of_getElem? hf))
    exact List.mem_flatMap.2 ⟨i, List.mem_range.2 (by omega), List.mem_map.2 ⟨j, List.mem_range.2 (by omega), rfl⟩⟩
  have e : M = { m with funcs := m.funcs.map (inlF m budget) } := by
    have hfs : M.funcs = m.funcs.map (inlF m budget) := by
      apply List.ext_getElem?
      intro i
      rw [List.getElem?_map]
      cases hf : m.funcs[i]? with
      | none =>
        have : M.funcs.length ≤ i := by rw [hM.based.funcs]; exact List.getElem?_eq_none_iff.1 hf
        rw [List.getElem?_eq_none_iff.2 this]
        rfl
      | some f =>
        have hlt : i < M.funcs.length := by rw [hM.based.funcs]; exact (List.getElem?_eq_some_iff.1 hf).1
        have hF := List.getElem?_eq_getElem hlt
        generalize M.funcs[i] = F at hF
        obtain ⟨a1, a2, a3, a4, _⟩ := hM.based.f i f F hf hF
        rw [hF]
        simp only [Option.map_some, Option.some.injEq]
        have hbl : F.blocks = f.blocks.map (inlB m budget) := by
          apply List.ext_getElem?
          intro j
          rw [List.getElem?_map]
          cases hb : f.blocks[j]? with
          | none =>
            have : F.blocks.length ≤ j := by rw [a4]; exact List.getElem?_eq_none_iff.1 hb
            rw [List.getElem?_eq_none_iff.2 this]
            rfl
          | some b =>
            obtain ⟨F', hF', hb'⟩ := hall i j b ⟨f, hf, hb⟩
            rw [hF] at hF'
            injection hF' with hF'
            subst hF'
            exact hb'
        cases F
        cases f
        simp only [inlF] at a1 a2 a3 hbl ⊢
        simp [a1, a2, a3, hbl]
    have hgs := hM.based.globs
    cases M
    simp only at hfs hgs ⊢
    rw [hfs, hgs]
  rw [← e]
  exact hM.puts
theorem inl_ok {m : Module} (hok : ModOk m) (budget : Int) : ModOk (inlM m budget) := by
 unfold inlM
 rw [if_pos (q34.2 hok)]
 exact (z0u hok budget).ok hok
def q42 : ACode :=
 (.seq (.reg [Ro 1 (.box true (Sv 0)), Ro 2 (.mv (Ci 0))])
 (.seq (.reg [Ro 10 (Lk 1 2), Ro 11 (.call true (.f 8) [Sv 10]), Ro 3 (Mv 11)])
 (.seq (.seq (.reg [Ro 12 (Mv 3), Ro 13 (.bin .neq (Sv 12) (Ci 0))])
 (.cond (Sv 13)
 (.seq (.reg [Ro 14 (Mv 3), Ro 2 (Mv 14)])
 .ret)
 .skip))
 (.seq (.reg [Ro 15 (Lk 1 2), Ro 16 (.call true (.f 21) [Sv 15, (.c (.string ⟨#[109, 97, 105, 110]⟩))]), Ro 4 (Mv 16)])
 (.seq (.seq (.reg [Ro 17 (Mv 4), Ro 18 (.bin .lss (Sv 17) (Ci 0)), Ro 19 (Mv 18), Rg 20 19 false (Fd 1 0), Rg 21 19 false (Ld 20), Rg 22 19 false (Mv 4), Rg 23 19 false (.idx true (Sv 21) (Sv 22) 4), Rg 24 19 false (Fd 23 3), Rg 25 19 false (Ld 24), Rg 26 19 false (.len false (Sv 25)), Rg 27 19 false (.bin .eql (Sv 26) (Ci 0)), Ro 28 (.pick (Sv 19) (.c (.bool true)) (Sv 27)), Ro 29 (Mv 28), Rg 30 29 false (Fd 1 0), Rg 31 29 false (Ld 30), Rg 32 29 false (Mv 4), Rg 33 29 false (.idx true (Sv 31) (Sv 32) 4), Rg 34 29 false (Fd 33 2), Rg 35 29 false (Ld 34), Rg 36 29 false (.bin .neq (Sv 35) (Ci 0)), Ro 37 (.pick (Sv 29) (.c (.bool true)) (Sv 36))])
 (.cond (Sv 37)
 (.seq (.reg [Ro 2 (.mv (Ci 11))])
 .ret)
 .skip))
 (.seq (.seq (.reg [Ro 5 (.mv (Ci 0))])
 (.block 0
 (.loop (.seq (.seq (.reg [Ro 38 (Mv 5), Ro 39 (Fd 1 0), Ro 40 (Ld 39), Ro 41 (.len false (Sv 40)), Ro 42 (.bin .lss (Sv 38) (Sv 41))])
 (.cond (Sv 42)
 .skip
 (.exit 0)))
 (.seq (.block 1
 (.seq (.reg [Ro 45 (Fd 1 0), Ro 46 (Ld 45), Ro 47 (Mv 5), Ro 48 (.idx true (Sv 46) (Sv 47) 4), Ro 49 (Lk 48 4), Ro 50 (.call true (.f 31) [Sv 49]), Ro 6 (Mv 50)])
 (.seq (.reg [Ro 7 (.mv (Ci 0))])
 (.block 2
 (.loop (.seq (.seq (.reg [Ro 51 (Mv 7), Ro 52 (Mv 6), Ro 53 (.len false (Sv 52)), Ro 54 (.bin .lss (Sv 51) (Sv 53))])
 (.cond (Sv 54)
 .skip
 (.exit 2)))
 (.seq (.block 3
 (.seq (.reg [Rl 57 (Lk 1 2) 0, Rl 58 (Mv 6) 1, Rl 59 (Mv 7) 2, Rl 60 (.idx true (Sv 58) (Sv 59) 1) 3, Rl 61 (Ld 60) 4, Rl 62 (.call true (.f 21) [Sv 57, Sv 61]) 5, Rl 8 (Mv 62) 6])
 (.seq (.reg [Rl 63 (Lk 1 2) 0, Rl 64 (Mv 6) 1, Rl 65 (Mv 7) 2, Rl 66 (.idx true (Sv 64) (Sv 65) 1) 3, Rl 67 (Ld 66) 4, Rl 68 (.call true (.f 22) [Sv 63, Sv 67]) 5, Rl 9 (Mv 68) 6])
 (.seq (.reg [Ro 69 (Mv 8), Ro 70 (.bin .geq (Sv 69) (Ci 0)), Ro 71 (Mv 70), Rg 72 71 true (Fd 1 0), Rg 73 71 true (Ld 72), Rg 74 71 true (Mv 8), Rg 75 71 true (.idx true (Sv 73) (Sv 74) 4), Rg 76 71 true (Fd 75 3), Rg 77 71 true (Ld 76), Rg 78 71 true (.len false (Sv 77)), Rg 79 71 true (.bin .eql (Sv 78) (Ci 0)), Ro 80 (.pick (Sv 71) (Sv 79) (.c (.bool false))), Ro 81 (Mv 80), Rg 82 81 false (Mv 8), Rg 83 81 false (.bin .lss (Sv 82) (Ci 0)), Rg 84 81 false (Mv 83), Rg 85 84 true (Fd 1 1), Rg 86 84 true (Ld 85), Rg 87 84 true (Mv 9), Rg 88 84 true (.idx true (Sv 86) (Sv 87) 4), Rg 89 84 true (Fd 88 2), Rg 90 84 true (Ld 89), Rg 91 84 true (.not (Sv 90)), Rg 92 81 false (.pick (Sv 84) (Sv 91) (.c (.bool false))), Ro 93 (.pick (Sv 81) (.c (.bool true)) (Sv 92))])
 (.cond (Sv 93)
 (.seq (.reg [Ro 2 (.mv (Ci 8))])
 .ret)
 .skip)))))
 (.reg [Ro 55 (Mv 7), Ro 56 (.bin .add (Sv 55) (Ci 1)), Ro 7 (Mv 56)]))))))))
 (.reg [Ro 43 (Mv 5), Ro 44 (.bin .add (Sv 43) (Ci 1)), Ro 5 (Mv 44)]))))))
 (.seq (.reg [Ro 2 (.mv (Ci 0))])
 .ret)))))))
def q45 : List ARes := [(.tmp (sl 2))]
theorem q7y : (Tryz.f16).body.bind (q9 Tryz.prog 8 (Tryz.f16).ntmps [] [] (drOk 8)) = some q42 := by kernel_rfl
theorem q7z : qa Tryz.prog 8 (Tryz.f16).results.toList = some q45 := by kernel_rfl
def q7e : ACode :=
 (.seq (.reg [Ro 2 (.mv (.c (.int .u64 0)))])
 (.seq (.reg [Ro 3 (.mv (.c (.int .u64 1)))])
 (.seq (.block 0
 (.loop (.seq (.seq (.reg [Ro 4 (Mv 0), Ro 5 (.bin .gtr (Sv 4) (.c (.int .u64 0)))])
 (.cond (Sv 5)
 .skip
 (.exit 0)))
 (.block 1
 (.seq (.reg [Ro 6 (Mv 3), Ro 7 (Mv 3), Ro 8 (.bin .add (Sv 6) (Sv 7)), Ro 3 (Mv 8)])
 (.reg [Ro 9 (Mv 0), Ro 10 (.bin .sub (Sv 9) (.c (.int .u64 1))), Ro 0 (Mv 10)]))))))
 (.seq (.reg [Ro 11 (Mv 3), Ro 2 (Mv 11)])
 .ret))))
def q7r : List ARes := [(.tmp (sl 2))]
theorem qdv : (Tryz.f108).body.bind (q9 Tryz.prog 8 (Tryz.f108).ntmps [] [] (drOk 8)) = some q7e := by kernel_rfl
theorem qe8 : qa Tryz.prog 8 (Tryz.f108).results.toList = some q7r := by kernel_rfl
def q6g : ACode :=
 (.seq (.reg [Ro 6 (.mv (.c (.int .u64 0)))])
 (.seq (.seq (.reg [Ro 7 (Mv 0), Ro 8 (.bin .eql (Sv 7) (Ci 2))])
 (.cond (Sv 8)
 (.seq (.reg [Ro 9 (Mv 1), Ro 10 (Mv 2), Ro 11 (.bin .add (Sv 9) (Sv 10)), Ro 6 (Mv 11)])
 .ret)
 .skip))
 (.seq (.seq (.reg [Ro 12 (Mv 0), Ro 13 (.bin .eql (Sv 12) (Ci 3))])
 (.cond (Sv 13)
 (.seq (.reg [Ro 14 (Mv 1), Ro 15 (Mv 2), Ro 16 (.bin .sub (Sv 14) (Sv 15)), Ro 6 (Mv 16)])
 .ret)
 .skip))
 (.seq (.seq (.reg [Ro 17 (Mv 0), Ro 18 (.bin .eql (Sv 17) (Ci 4))])
 (.cond (Sv 18)
 (.seq (.reg [Ro 19 (Mv 1), Ro 20 (Mv 2), Ro 21 (.bin .mul (Sv 19) (Sv 20)), Ro 6 (Mv 21)])
 .ret)
 .skip))
 (.seq (.seq (.reg [Ro 22 (Mv 0), Ro 23 (.bin .eql (Sv 22) (Ci 5))])
 (.cond (Sv 23)
 (.seq (.reg [Ro 24 (Mv 1), Ro 25 (Mv 2), Ro 26 (.bin .and (Sv 24) (Sv 25)), Ro 6 (Mv 26)])
 .ret)
 .skip))
 (.seq (.seq (.reg [Ro 27 (Mv 0), Ro 28 (.bin .eql (Sv 27) (Ci 6))])
 (.cond (Sv 28)
 (.seq (.reg [Ro 29 (Mv 1), Ro 30 (Mv 2), Ro 31 (.bin .or (Sv 29) (Sv 30)), Ro 6 (Mv 31)])
 .ret)
 .skip))
 (.seq (.seq (.reg [Ro 32 (Mv 0), Ro 33 (.bin .eql (Sv 32) (Ci 7))])
 (.cond (Sv 33)
 (.seq (.reg [Ro 34 (Mv 1), Ro 35 (Mv 2), Ro 36 (.bin .xor (Sv 34) (Sv 35)), Ro 6 (Mv 36)])
 .ret)
 .skip))
 (.seq (.seq (.reg [Ro 37 (Mv 0), Ro 38 (.bin .eql (Sv 37) (Ci 8))])
 (.cond (Sv 38)
 (.seq (.reg [Ro 39 (Mv 1), Ro 40 (Mv 2), Ro 41 (.bin .rem (Sv 40) (.c (.int .u64 64))), Ro 42 (.call true (.f 108) [Sv 41]), Ro 43 (.bin .mul (Sv 39) (Sv 42)), Ro 6 (Mv 43)])
 .ret)
 .skip))
 (.seq (.seq (.reg [Ro 44 (Mv 0), Ro 45 (.bin .eql (Sv 44) (Ci 9))])
 (.cond (Sv 45)
 (.seq (.reg [Ro 46 (Mv 1), Ro 47 (Mv 2), Ro 48 (.bin .rem (Sv 47) (.c (.int .u64 64))), Ro 49 (.call true (.f 108) [Sv 48]), Ro 50 (.bin .quo (Sv 46) (Sv 49)), Ro 6 (Mv 50)])
 .ret)
 .skip))
 (.seq (.seq (.reg [Ro 51 (Mv 0), Ro 52 (.bin .eql (Sv 51) (Ci 10)), Ro 53 (Mv 52), Rg 54 53 true (Mv 1), Rg 55 53 true (Mv 2), Rg 56 53 true (.bin .lss (Sv 54) (Sv 55)), Ro 57 (.pick (Sv 53) (Sv 56) (.c (.bool false))), Ro 58 (Mv 57), Rg 59 58 false (Mv 0), Rg 60 58 false (.bin .eql (Sv 59) (Ci 11)), Rg 61 58 false (Mv 60), Rg 62 61 true (Mv 1), Rg 63 61 true (Mv 2), Rg 64 61 true (.bin .eql (Sv 62) (Sv 63)), Rg 65 58 false (.pick (Sv 61) (Sv 64) (.c (.bool false))), Ro 66 (.pick (Sv 58) (.c (.bool true)) (Sv 65))])
 (.cond (Sv 66)
 (.seq (.reg [Ro 6 (.mv (.c (.int .u64 1)))])
 .ret)
 .skip))
 (.seq (.reg [Ro 6 (.mv (.c (.int .u64 0)))])
 .ret)))))))))))
def q6r : List ARes := [(.tmp (sl 6))]
theorem qcu : (Tryz.f83).body.bind (q9 Tryz.prog 8 (Tryz.f83).ntmps [] [] (drOk 8)) = some q6g := by kernel_rfl
theorem qd3 : qa Tryz.prog 8 (Tryz.f83).results.toList = some q6r := by kernel_rfl
set_option maxRecDepth 10000 in
theorem z46 (m : Module) (hm : Small m) : APure Tryz.prog 16 [.agg (q8 m)] (.int (q65 m)) := by
 refine qb _ _ Tryz.func16 (by kernel_rfl) q7y q7z rfl rfl (fun _ => ?_)
 have hlm := hm.len
 simp [q42, q45]
 refine q4 (ds := [.agg (q8 m)]) _ (by simp) (by simp) (fun _ => rfl) (fun _ => q84 m hm.args) ?_
 simp
 refine ⟨fun hz => ?_, fun hz => ?_⟩
 ·unfold q65; rw [if_pos hz]; exact DLe.refl _
 have hok := q34.1 hz
 refine q4 (ds := [.agg (q8 m), .str qvc]) _ (by simp) (by simp) (fun _ => rfl) (fun _ => q56 m qvc) ?_
 simp
 have hw0 : q65 m = if qf8 m = true then (if (qco m.funcs).all (q40 m) = true then 0 else 8) else 11 := by
  unfold q65
  rw [if_neg (by rw [hz]; simp)]
 rcases qhk m qvc with ⟨km, hkm, h1, h2⟩ | ⟨h1, h2⟩
 rotate_left
 ·have hb : qf8 m = false := by unfold qf8; rw [h2]
  rw [h1, hw0, hb]
  refine ⟨fun h => by omega, fun h => by omega, fun _ => DLe.refl _, fun h => by omega⟩
 have hb : qf8 m = (decide (m.funcs[km].blocks.length ≠ 0) && decide (m.funcs[km].params = 0)) := by unfold qf8; rw [h2]
 rw [h1]
 simp only [Int.toNat_natCast, getD_some hkm]
 refine ⟨fun _ => ⟨by omega, by omega⟩, fun _ h => ⟨⟨by omega, h⟩, by omega, by omega⟩, fun h => ?_, fun _ hbl hpa => ?_⟩
 ·have : qf8 m = false := by
   rw [hb]
   rcases h with (h | h) | h
   ·omega
   ·simp [h]
   ·simp [h]
  rw [hw0, this]
  exact DLe.refl _
 have hmb : qf8 m = true := by
  rw [hb]
  simp [hbl, hpa]
 rw [hmb] at hw0
 have hr : ∀ q, q65 m = q ↔ (if (qco m.funcs).all (q40 m) = true then (0 : Int) else 8) = q := fun q => by rw [hw0]; simp
 refine qe (κ := Nat) (fun i => i ≤ m.funcs.length ∧ ∀ x ∈ qco (m.funcs.take i), q40 m x = true) (fun i => m.funcs.length - i) (fun i => [(sl 5, .int i)]) (fun _ => []) 0 0 (srcs []) (by simp [qco]) (by simp) ?_
 rintro i ⟨hi, hall⟩
 simp
 refine ⟨fun hlt => ?_, fun hge => ?_⟩
 ·refine ⟨hlt, ?_⟩
  rw [getD_some hlt]
  obtain ⟨f, hf⟩ : ∃ f, m.funcs[i] = f := ⟨_, rfl⟩
  have hfm : f ∈ m.funcs := by rw [← hf]; exact List.getElem_mem hlt
  have hfi := hm.ins f hfm
  simp only [hf]
  refine q4 (ds := [.agg (qm f)]) _ (by simp) (by simp) (fun _ => rfl) (fun _ => qk7 f (by omega)) ?_
  simp
  obtain ⟨L, hL⟩ : ∃ L, qo (qk f) = L := ⟨_, rfl⟩
  have hLl : L.length ≤ 1048576 := by rw [← hL]; exact Nat.le_trans (q3i _) hfi
  simp only [hL]
  refine qe (κ := Nat) (fun n => n ≤ L.length ∧ ∀ x ∈ L.take n, q40 m x = true) (fun n => L.length - n) (fun n => [(sl 7, .int n)]) (fun _ => []) 0 0 (srcs []) (by simp) (by simp) ?_
  rintro n ⟨hn, hall2⟩
  simp
  refine ⟨fun hnl => ⟨hnl, ?_⟩, fun hge => ?_⟩
  ·rw [getD_some hnl]
   obtain ⟨s, hs⟩ : ∃ s, L[n] = s := ⟨_, rfl⟩
   have hsL : s ∈ qo (qk f) := by rw [hL, ← hs]; exact List.getElem_mem _
   simp only [hs]
   refine q4 (ds := [.agg (q8 m), .str s]) _ (by simp) (by simp) (fun _ => rfl) (fun _ => q56 m s) ?_
   simp
   refine ⟨hnl, ?_⟩
   rw [getD_some hnl]
   simp only [hs]
   refine q4 (ds := [.agg (q8 m), .str s]) _ (by simp) (by simp) (fun _ => rfl) (fun _ => qaz m s) ?_
   simp
   have hmem : s ∈ qco m.funcs := List.mem_flatMap.2 ⟨f, hfm, hsL⟩
   have hbad : q40 m s = false → q65 m = 8 := fun h => (hr 8).2 (by
    rw [if_neg]
    intro h'
    rw [List.all_eq_true.1 h' s hmem] at h
    cases h)
   have hgo : q40 m s = true → ∀ x ∈ L.take (n + 1), q40 m x = true := fun h x hx => by
    rw [List.take_succ_eq_append_getElem hnl, hs] at hx
    rcases List.mem_append.1 hx with hx | hx
    ·exact hall2 x hx
    ·rw [List.mem_singleton.1 hx]; exact h
   rcases qhk m s with ⟨k, hk, e1, e2⟩ | ⟨e1, e2⟩
   ·have ht : q40 m s = decide (m.funcs[k].blocks.length ≠ 0) := by unfold q40; rw [e2]
    rw [e1]
    simp only [Int.toNat_natCast, getD_some hk]
    refine ⟨fun _ => ⟨by omega, by omega⟩, fun _ h => by omega, fun h => ⟨h, fun h => by omega⟩, fun h => .inr (h (by omega)), fun h => ?_, fun h _ => ?_⟩
    ·rw [hbad (by rw [ht]; rcases h with ⟨_, h⟩ | ⟨h, _⟩ <;> first | omega | simp [h])]
     exact DLe.refl _
    ·refine ⟨n + 1, ⟨by omega, hgo ?_⟩, by omega, srcs [], ?_⟩
     ·rw [ht]
      have := h (by omega)
      simp [this]
     ·simp [SLeK]
      exact q6 (q5 (by omega))
   ·rcases z6e m s with ⟨k, hk, e3, e4⟩ | ⟨e3, e4⟩
    rotate_left
    ·exfalso
     obtain ⟨x, hx, rfl⟩ := List.mem_map.1 hsL
     obtain ⟨h4, h5⟩ := List.mem_filter.1 hx
     rcases q8x.1 h5 with h6 | h6 | h6
     ·obtain ⟨g, hg, hnm⟩ := q4j.1 ((q37 (hok.miss x (q3o hfm h4))).2 (.inl h6))
      have := List.find?_eq_none.1 e4 g hg
      simp [hnm] at this
     ·obtain ⟨g, hg, hnm⟩ := q4j.1 ((q37 (hok.miss x (q3o hfm h4))).2 (.inr h6))
      have := List.find?_eq_none.1 e4 g hg
      simp [hnm] at this
     ·obtain ⟨g, hg, hnm, _⟩ := hok.call (q3o hfm h4) h6
      have := List.find?_eq_none.1 e2 g hg
      simp [hnm] at this
    have ht : q40 m s = m.globs[k].here := by unfold q40; rw [e2]; simp only [e4]
    rw [e1, e3]
    simp only [Int.toNat_natCast, getD_some hk]
    refine ⟨fun h => by omega, fun _ _ => ⟨⟨.inl (by omega), by omega⟩, by omega, by omega⟩, fun _ => ⟨.inl (by omega), fun _ => ⟨.inl (by omega), by omega⟩⟩, fun _ => .inl (by omega), fun h => ?_, fun _ h => ?_⟩
    ·rw [hbad (by rw [ht]; rcases h with ⟨h, _⟩ | ⟨_, h⟩ <;> first | exact h | omega)]
     exact DLe.refl _
    ·refine ⟨n + 1, ⟨by omega, hgo ?_⟩, by omega, srcs [], ?_⟩
     ·rw [ht]
      exact h (by omega)
     ·simp [SLeK]
      exact q6 (q5 (by omega))
  ·rw [List.take_of_length_le hge] at hall2
   refine ⟨i + 1, ⟨by omega, ?_⟩, by omega, srcs [], ?_⟩
   ·have : qco [f] = L := by rw [← hL]; simp [qco]
    intro x hx
    rw [List.take_succ_eq_append_getElem hlt, qk9, hf, this] at hx
    rcases List.mem_append.1 hx with hx | hx
    ·exact hall x hx
    ·exact hall2 x hx
   ·simp [SLeK]
    exact q6 (q5 (by omega))
 ·rw [List.take_of_length_le hge] at hall
  rw [(hr 0).2 (by rw [if_pos (List.all_eq_true.2 hall)])]
  exact DLe.refl _
set_option maxRecDepth 10000 in
theorem z8d (m : Module) (hm : qoy m) : APure Tryz.prog 16 [.agg (q8 m)] (.int (q65 m)) := by
 by_cases hz : q5z m = 0
 ·exact z46 m (qdk (q34.1 hz))
 ·refine qb _ _ Tryz.func16 (by kernel_rfl) q7y q7z rfl rfl (fun _ => ?_)
  simp [q42, q45]
  refine q4 (ds := [.agg (q8 m)]) _ (by simp) (by simp) (fun _ => rfl) (fun _ => q84 m hm) ?_
  simp
  refine ⟨fun _ => ?_, fun h => absurd h hz⟩
  unfold q65; rw [if_pos hz]; exact DLe.refl _
end Go.Proofs.YtgadlpdbkohlbaaGreat
/- The bodies of some functions, as the evaluator has them (printed by program), and that they are the program's own. -/
namespace Go.Proofs.YtgadlpdbkohlbaaGreat
open Go.RowKit
def qjm : ACode :=
 (.seq (.reg [Ro 2 (.box true (Sv 0)), Ro 3 (.box true (Sv 1)), Ro 4 (.new [(.string ⟨#[]⟩), (.int .i64 0), (.int .i64 0), (.slice none 0 0)]), Ro 5 (.mv (.c (.bool false)))])
 (.seq (.reg [Ro 7 (Fd 2 0), Ro 8 (Ld 7), Ro 9 (.mkfn 119 [Sv 3]), Ro 10 (.call true (.f 60) [Sv 8, Sv 9]), Ro 6 (Mv 10)])
 (.seq (.seq (.reg [Ro 11 (Mv 6), Ro 12 (.bin .lss (Sv 11) (Ci 0))])
 (.cond (Sv 12)
 (.seq (.reg [Ro 13 (.bld [(.string ⟨#[]⟩), (.int .i64 0), (.int .i64 0), (.slice none 0 0)] []), Rn (.st (Sv 4) (Sv 13) 4), Ro 5 (.mv (.c (.bool false)))])
 .ret)
 .skip))
 (.seq (.reg [Ro 14 (Fd 2 0), Ro 15 (Ld 14), Ro 16 (Mv 6), Ro 17 (.idx true (Sv 15) (Sv 16) 4), Ro 18 (Lk 17 4), Rn (.st (Sv 4) (Sv 18) 4), Ro 5 (.mv (.c (.bool true)))])
 .ret))))
def qk3 : List ARes := [(.cell (sl 4) (some 4)), (.tmp (sl 5))]
theorem qwn : (Tryz.f96).body.bind (q9 Tryz.prog 8 (Tryz.f96).ntmps [4] [] (drOk 8)) = some qjm := by kernel_rfl
theorem qx2 : qa Tryz.prog 8 (Tryz.f96).results.toList = some qk3 := by kernel_rfl
def qei : ACode :=
 (.seq (.reg [Ro 2 (.box true (Sv 0)), Ro 3 (.mv (.c (.bool false)))])
 (.seq (.reg [Ro 4 (Fd 2 0), Ro 5 (Ld 4), Ro 6 (Ld 1), Ro 7 (.bin .eql (Sv 5) (Sv 6)), Ro 3 (Mv 7)])
 .ret))
def qep : List ARes := [(.tmp (sl 3))]
theorem qoq : (Tryz.f119).body.bind (q9 Tryz.prog 8 (Tryz.f119).ntmps [] [] (drOk 8)) = some qei := by kernel_rfl
theorem qow : qa Tryz.prog 8 (Tryz.f119).results.toList = some qep := by kernel_rfl
def q2d : ACode :=
 (.seq (.reg [Ro 4 (.mv (.c (.bool false)))])
 (.seq (.reg [Ro 5 (Mv 0), Ro 6 (Mv 1), Ro 7 (.call true (.f 100) [Sv 5, Sv 6]), Ro 8 (.bin .geq (Sv 7) (Ci 0)), Ro 4 (Mv 8)])
 .ret))
def q2e : List ARes := [(.tmp (sl 4))]
theorem q4x : (Tryz.f71).body.bind (q9 Tryz.prog 8 (Tryz.f71).ntmps [] [] (drOk 8)) = some q2d := by kernel_rfl
theorem q4y : qa Tryz.prog 8 (Tryz.f71).results.toList = some q2e := by kernel_rfl
def q2t : ACode :=
 (.seq (.reg [Ro 4 (.mv (Ci 0))])
 (.seq (.seq (.reg [Ro 6 (Mv 0), Ro 7 (.len false (Sv 6)), Ro 8 (.mv (Ci 0))])
 (.block 0
 (.loop (.seq (.reg [Ro 9 (.bin .lss (Sv 8) (Sv 7))])
 (.seq (.cond (Sv 9)
 .skip
 (.exit 0))
 (.seq (.block 1
 (.seq (.reg [Ro 10 (Mv 8), Ro 5 (Mv 10)])
 (.seq (.reg [Ro 11 (Mv 1), Ro 12 (Mv 0), Ro 13 (Mv 5), Ro 14 (.idx true (Sv 12) (Sv 13) 1), Ro 15 (Ld 14), Ro 16 (.bin .eql (Sv 11) (Sv 15))])
 (.cond (Sv 16)
 (.seq (.reg [Ro 17 (Mv 5), Ro 4 (Mv 17)])
 .ret)
 .skip))))
 (.reg [Ro 18 (.bin .add (Sv 8) (Ci 1)), Ro 8 (Mv 18)])))))))
 (.seq (.reg [Ro 4 (.mv (Ci (-1)))])
 .ret)))
def q2v : List ARes := [(.tmp (sl 4))]
theorem q6b : (Tryz.f100).body.bind (q9 Tryz.prog 8 (Tryz.f100).ntmps [] [] (drOk 8)) = some q2t := by kernel_rfl
theorem q6d : qa Tryz.prog 8 (Tryz.f100).results.toList = some q2v := by kernel_rfl
def qgw : ACode :=
 (.seq (.reg [Ro 1 (.box true (Sv 0)), Ro 2 (.mv (.c (.slice none 0 0)))])
 (.seq (.reg [Ro 3 (.mv (.c (.slice none 0 0)))])
 (.seq (.seq (.reg [Ro 8 (Fd 1 0), Ro 9 (Ld 8), Ro 10 (.len false (Sv 9)), Ro 11 (.mv (Ci 0))])
 (.block 0
 (.loop (.seq (.reg [Ro 12 (.bin .lss (Sv 11) (Sv 10))])
 (.seq (.cond (Sv 12)
 .skip
 (.exit 0))
 (.seq (.block 1
 (.seq (.seq (.reg [Ro 13 (.idx true (Sv 9) (Sv 11) 4), Ro 14 (Lk 13 4), Ro 5 (.new [(.string ⟨#[]⟩), (.int .i64 0), (.int .i64 0), (.slice none 0 0)]), Rn (.ini 1 (Sv 5) (Sv 14) 4)])
 (.frz (sl 5)))
 (.seq (.reg [Ro 15 (Fd 5 1), Ro 16 (Ld 15), Ro 17 (.bin .eql (Sv 16) (Ci 2)), Ro 18 (Mv 17), Rg 19 18 false (Fd 5 0), Rg 20 18 false (Ld 19), Rg 21 18 false (.bin .eql (Sv 20) (.c (.string ⟨#[109, 97, 105, 110]⟩))), Ro 22 (.pick (Sv 18) (.c (.bool true)) (Sv 21))])
 (.cond (Sv 22)
 (.reg [Ro 23 (Mv 3), Ro 24 (Fd 5 0), Ro 25 (Ld 24), Ro 26 (.mksl 1 1 [(.string ⟨#[]⟩)] [(0, 1, (Sv 25))]), Ro 27 (.app 9 1 16 (Sv 23) (Sv 26)), Ro 3 (Mv 27)])
 .skip))))
 (.reg [Ro 28 (.bin .add (Sv 11) (Ci 1)), Ro 11 (Mv 28)])))))))
 (.seq (.seq (.reg [Ro 29 (Fd 1 1), Ro 30 (Ld 29), Ro 31 (.len false (Sv 30)), Ro 32 (.mv (Ci 0))])
 (.block 2
 (.loop (.seq (.reg [Ro 33 (.bin .lss (Sv 32) (Sv 31))])
 (.seq (.cond (Sv 33)
 .skip
 (.exit 2))
 (.seq (.block 3
 (.seq (.seq (.reg [Ro 34 (.idx true (Sv 30) (Sv 32) 4), Ro 35 (Lk 34 4), Ro 7 (.new [(.string ⟨#[]⟩), (.int .i64 0), (.bool false), (.int .u64 0)]), Rn (.ini 1 (Sv 7) (Sv 35) 4)])
 (.frz (sl 7)))
 (.seq (.reg [Ro 36 (Fd 7 1), Ro 37 (Ld 36), Ro 38 (.bin .eql (Sv 37) (Ci 2))])
 (.cond (Sv 38)
 (.reg [Ro 39 (Mv 3), Ro 40 (Fd 7 0), Ro 41 (Ld 40), Ro 42 (.mksl 1 1 [(.string ⟨#[]⟩)] [(0, 1, (Sv 41))]), Ro 43 (.app 9 1 16 (Sv 39) (Sv 42)), Ro 3 (Mv 43)])
 .skip))))
 (.reg [Ro 44 (.bin .add (Sv 32) (Ci 1)), Ro 32 (Mv 44)])))))))
 (.seq (.reg [Ro 45 (Mv 3), Ro 2 (Mv 45)])
 .ret)))))
def qi1 : List ARes := [(.tmp (sl 2))]
theorem qt4 : (Tryz.f70).body.bind (q9 Tryz.prog 8 (Tryz.f70).ntmps [2, 3, 23, 27, 39, 43, 45] [] (drOk 8)) = some qgw := by kernel_rfl
theorem qtg : qa Tryz.prog 8 (Tryz.f70).results.toList = some qi1 := by kernel_rfl
def q9p : ACode :=
 (.seq (.reg [Ro 4 (.mv (.c (.bool false)))])
 (.seq (.seq (.reg [Ro 5 (.mv (Ci 0))])
 (.block 0
 (.loop (.seq (.seq (.reg [Ro 6 (Mv 5), Ro 7 (Mv 0), Ro 8 (.len false (Sv 7)), Ro 9 (.bin .lss (Sv 6) (Sv 8))])
 (.cond (Sv 9)
 .skip
 (.exit 0)))
 (.seq (.block 1
 (.seq (.reg [Ro 12 (Mv 0), Ro 13 (Mv 5), Ro 14 (.idx true (Sv 12) (Sv 13) 1), Ro 15 (Ld 14), Ro 16 (Mv 1), Ro 17 (.bin .eql (Sv 15) (Sv 16))])
 (.cond (Sv 17)
 (.seq (.reg [Ro 4 (.mv (.c (.bool true)))])
 .ret)
 .skip)))
 (.reg [Ro 10 (Mv 5), Ro 11 (.bin .add (Sv 10) (Ci 1)), Ro 5 (Mv 11)]))))))
 (.seq (.reg [Ro 4 (.mv (.c (.bool false)))])
 .ret)))
def q9v : List ARes := [(.tmp (sl 4))]
theorem qic : (Tryz.f48).body.bind (q9 Tryz.prog 8 (Tryz.f48).ntmps [] [] (drOk 8)) = some q9p := by kernel_rfl
theorem qik : qa Tryz.prog 8 (Tryz.f48).results.toList = some q9v := by kernel_rfl
def q8k : ACode :=
 (.seq (.reg [Ro 2 (.box true (Sv 0)), Ro 4 (.mv (.c (.slice none 0 0)))])
 (.seq (.reg [Ro 15 (.nrow 9 1), Ro 16 (Mv 1), Ro 17 (.app 9 1 16 (Sv 15) (Sv 16)), Ro 5 (Mv 17)])
 (.seq (.seq (.reg [Ro 6 (.mv (Ci 0))])
 (.block 0
 (.loop (.seq (.seq (.reg [Ro 18 (Mv 6), Ro 19 (Mv 5), Ro 20 (.len false (Sv 19)), Ro 21 (.bin .lss (Sv 18) (Sv 20))])
 (.cond (Sv 21)
 .skip
 (.exit 0)))
 (.seq (.block 1
 (.seq (.reg [Rl 24 (Lk 2 2) 0, Rl 25 (Mv 5) 1, Rl 26 (Mv 6) 2, Rl 27 (.idx false (Sv 25) (Sv 26) 1) 3, Rl 28 (.ld false (Sv 27) none) 4, Rl 29 (.call false (.f 78) [Sv 24, Sv 28]) 5, Rl 7 (Mv 29) 6])
 (.seq (.reg [Ro 8 (.mv (Ci 0))])
 (.block 2
 (.loop (.seq (.seq (.reg [Ro 30 (Mv 8), Ro 31 (Mv 7), Ro 32 (.len false (Sv 31)), Ro 33 (.bin .lss (Sv 30) (Sv 32))])
 (.cond (Sv 33)
 .skip
 (.exit 2)))
 (.seq (.block 3
 (.seq (.reg [Ro 36 (Mv 5), Ro 37 (Mv 7), Ro 38 (Mv 8), Ro 39 (.idx true (Sv 37) (Sv 38) 1), Ro 40 (Ld 39), Ro 41 (.call false (.f 48) [Sv 36, Sv 40]), Ro 9 (Mv 41)])
 (.seq (.reg [Ro 42 (Mv 9), Ro 43 (.not (Sv 42))])
 (.cond (Sv 43)
 (.reg [Ro 44 (Mv 5), Ro 45 (Mv 7), Ro 46 (Mv 8), Ro 47 (.idx true (Sv 45) (Sv 46) 1), Ro 48 (Ld 47), Ro 49 (.mksl 1 1 [(.string ⟨#[]⟩)] [(0, 1, (Sv 48))]), Ro 50 (.app 9 1 16 (Sv 44) (Sv 49)), Ro 5 (Mv 50)])
 .skip))))
 (.reg [Ro 34 (Mv 8), Ro 35 (.bin .add (Sv 34) (Ci 1)), Ro 8 (Mv 35)]))))))))
 (.reg [Ro 22 (Mv 6), Ro 23 (.bin .add (Sv 22) (Ci 1)), Ro 6 (Mv 23)]))))))
 (.seq (.reg [Ro 10 (.mv (.c (.slice none 0 0)))])
 (.seq (.seq (.reg [Ro 11 (.mv (Ci 0))])
 (.block 4
 (.loop (.seq (.seq (.reg [Ro 51 (Mv 11), Ro 52 (Fd 2 0), Ro 53 (Ld 52), Ro 54 (.len false (Sv 53)), Ro 55 (Fd 2 1), Ro 56 (Ld 55), Ro 57 (.len false (Sv 56)), Ro 58 (.bin .add (Sv 54) (Sv 57)), Ro 59 (.bin .lss (Sv 51) (Sv 58))])
 (.cond (Sv 59)
 .skip
 (.exit 4)))
 (.seq (.block 5
 (.seq (.reg [Ro 12 (.mv (.c (.string ⟨#[]⟩)))])
 (.seq (.seq (.reg [Ro 62 (Mv 11), Ro 63 (Fd 2 0), Ro 64 (Ld 63), Ro 65 (.len false (Sv 64)), Ro 66 (.bin .lss (Sv 62) (Sv 65))])
 (.cond (Sv 66)
 (.reg [Ro 67 (Fd 2 0), Ro 68 (Ld 67), Ro 69 (Mv 11), Ro 70 (.idx true (Sv 68) (Sv 69) 4), Ro 71 (Fd 70 0), Ro 72 (Ld 71), Ro 12 (Mv 72)])
 (.reg [Ro 73 (Fd 2 1), Ro 74 (Ld 73), Ro 75 (Mv 11), Ro 76 (Fd 2 0), Ro 77 (Ld 76), Ro 78 (.len false (Sv 77)), Ro 79 (.bin .sub (Sv 75) (Sv 78)), Ro 80 (.idx true (Sv 74) (Sv 79) 4), Ro 81 (Fd 80 0), Ro 82 (Ld 81), Ro 12 (Mv 82)])))
 (.seq (.reg [Ro 83 (Mv 5), Ro 84 (Mv 12), Ro 85 (.call false (.f 48) [Sv 83, Sv 84]), Ro 13 (Mv 85)])
 (.seq (.reg [Ro 86 (Mv 10), Ro 87 (Mv 12), Ro 88 (.call false (.f 48) [Sv 86, Sv 87]), Ro 14 (Mv 88)])
 (.seq (.reg [Ro 89 (Mv 13), Ro 90 (Mv 89), Rg 91 90 true (Mv 14), Rg 92 90 true (.not (Sv 91)), Ro 93 (.pick (Sv 90) (Sv 92) (.c (.bool false)))])
 (.cond (Sv 93)
 (.reg [Ro 94 (Mv 10), Ro 95 (Mv 12), Ro 96 (.mksl 1 1 [(.string ⟨#[]⟩)] [(0, 1, (Sv 95))]), Ro 97 (.app 9 1 16 (Sv 94) (Sv 96)), Ro 10 (Mv 97)])
 .skip)))))))
 (.reg [Ro 60 (Mv 11), Ro 61 (.bin .add (Sv 60) (Ci 1)), Ro 11 (Mv 61)]))))))
 (.seq (.reg [Ro 98 (Mv 10), Ro 4 (Mv 98)])
 .ret))))))
def q9a : List ARes := [(.tmp (sl 4))]
theorem qfo : (Tryz.f46).body.bind (q9 Tryz.prog 8 (Tryz.f46).ntmps [4, 5, 10, 17, 19, 25, 27, 28, 36, 44, 50, 83, 86, 94, 97, 98] [] (drOk 8)) = some q8k := by kernel_rfl
theorem qg6 : qa Tryz.prog 8 (Tryz.f46).results.toList = some q9a := by kernel_rfl
def q8l : ACode :=
 (.seq (.reg [Ro 2 (.box true (Sv 0)), Ro 4 (.mv (.c (.slice none 0 0)))])
 (.seq (.reg [Ro 6 (Lk 2 2), Ro 7 (Mv 1), Ro 8 (.call true (.f 21) [Sv 6, Sv 7]), Ro 5 (Mv 8)])
 (.seq (.seq (.reg [Ro 9 (Mv 5), Ro 10 (.bin .lss (Sv 9) (Ci 0))])
 (.cond (Sv 10)
 (.seq (.reg [Ro 4 (.mv (.c (.slice none 0 0)))])
 .ret)
 .skip))
 (.seq (.reg [Ro 11 (Fd 2 0), Ro 12 (Ld 11), Ro 13 (Mv 5), Ro 14 (.idx true (Sv 12) (Sv 13) 4), Ro 15 (Lk 14 4), Ro 16 (.call true (.f 31) [Sv 15]), Ro 4 (Mv 16)])
 .ret))))
def q9b : List ARes := [(.tmp (sl 4))]
theorem qfp : (Tryz.f78).body.bind (q9 Tryz.prog 8 (Tryz.f78).ntmps [] [] (drOk 8)) = some q8l := by kernel_rfl
theorem qg7 : qa Tryz.prog 8 (Tryz.f78).results.toList = some q9b := by kernel_rfl
end Go.Proofs.YtgadlpdbkohlbaaGreat
/- The bodies of some functions, as the evaluator has them (printed by program), and that they are the program's own. -/
namespace Go.Proofs.YtgadlpdbkohlbaaGreat
open Go.RowKit
def q7k : ACode :=
 (.seq (.reg [Ro 2 (.mv (.c (.slice none 0 0)))])
 (.seq (.reg [Ro 3 (.mv (.c (.slice none 0 0)))])
 (.seq (.seq (.reg [Ro 6 (Mv 0), Ro 7 (.len false (Sv 6)), Ro 8 (.mv (Ci 0))])
 (.block 0
 (.loop (.seq (.reg [Ro 9 (.bin .lss (Sv 8) (Sv 7))])
 (.seq (.cond (Sv 9)
 .skip
 (.exit 0))
 (.seq (.block 1
 (.seq (.reg [Ro 10 (.idx true (Sv 6) (Sv 8) 1), Ro 11 (Ld 10), Ro 5 (Mv 11)])
 (.seq (.reg [Ro 12 (Mv 3), Ro 13 (Mv 5), Ro 14 (.call false (.f 71) [Sv 12, Sv 13]), Ro 15 (.not (Sv 14))])
 (.cond (Sv 15)
 (.reg [Ro 16 (Mv 3), Ro 17 (Mv 5), Ro 18 (.mksl 1 1 [(.string ⟨#[]⟩)] [(0, 1, (Sv 17))]), Ro 19 (.app 9 1 16 (Sv 16) (Sv 18)), Ro 3 (Mv 19)])
 .skip))))
 (.reg [Ro 20 (.bin .add (Sv 8) (Ci 1)), Ro 8 (Mv 20)])))))))
 (.seq (.reg [Ro 21 (Mv 3), Ro 2 (Mv 21)])
 .ret))))
def q7x : List ARes := [(.tmp (sl 2))]
theorem qe1 : (Tryz.f120).body.bind (q9 Tryz.prog 8 (Tryz.f120).ntmps [2, 3, 12, 16, 19, 21] [(120, 9, 1)] (drOk 8)) = some q7k := by kernel_rfl
theorem qee : qa Tryz.prog 8 (Tryz.f120).results.toList = some q7x := by kernel_rfl
def qgx : ACode :=
 (.seq (.reg [Ro 1 (.box true (Sv 0)), Ro 2 (.mv (.c (.slice none 0 0)))])
 (.seq (.reg [Ro 3 (.mv (.c (.slice none 0 0)))])
 (.seq (.seq (.reg [Ro 8 (Fd 1 0), Ro 9 (Ld 8), Ro 10 (.len false (Sv 9)), Ro 11 (.mv (Ci 0))])
 (.block 0
 (.loop (.seq (.reg [Ro 12 (.bin .lss (Sv 11) (Sv 10))])
 (.seq (.cond (Sv 12)
 .skip
 (.exit 0))
 (.seq (.block 1
 (.seq (.seq (.reg [Ro 13 (.idx true (Sv 9) (Sv 11) 4), Ro 14 (Lk 13 4), Ro 5 (.new [(.string ⟨#[]⟩), (.int .i64 0), (.int .i64 0), (.slice none 0 0)]), Rn (.ini 1 (Sv 5) (Sv 14) 4)])
 (.frz (sl 5)))
 (.reg [Ro 15 (Mv 3), Ro 16 (Fd 5 0), Ro 17 (Ld 16), Ro 18 (.mksl 1 1 [(.string ⟨#[]⟩)] [(0, 1, (Sv 17))]), Ro 19 (.app 9 1 16 (Sv 15) (Sv 18)), Ro 3 (Mv 19)])))
 (.reg [Ro 20 (.bin .add (Sv 11) (Ci 1)), Ro 11 (Mv 20)])))))))
 (.seq (.seq (.reg [Ro 21 (Fd 1 1), Ro 22 (Ld 21), Ro 23 (.len false (Sv 22)), Ro 24 (.mv (Ci 0))])
 (.block 2
 (.loop (.seq (.reg [Ro 25 (.bin .lss (Sv 24) (Sv 23))])
 (.seq (.cond (Sv 25)
 .skip
 (.exit 2))
 (.seq (.block 3
 (.seq (.seq (.reg [Ro 26 (.idx true (Sv 22) (Sv 24) 4), Ro 27 (Lk 26 4), Ro 7 (.new [(.string ⟨#[]⟩), (.int .i64 0), (.bool false), (.int .u64 0)]), Rn (.ini 1 (Sv 7) (Sv 27) 4)])
 (.frz (sl 7)))
 (.reg [Ro 28 (Mv 3), Ro 29 (Fd 7 0), Ro 30 (Ld 29), Ro 31 (.mksl 1 1 [(.string ⟨#[]⟩)] [(0, 1, (Sv 30))]), Ro 32 (.app 9 1 16 (Sv 28) (Sv 31)), Ro 3 (Mv 32)])))
 (.reg [Ro 33 (.bin .add (Sv 24) (Ci 1)), Ro 24 (Mv 33)])))))))
 (.seq (.reg [Ro 34 (Mv 3), Ro 35 (.callo 9 1 (.f 120) [Sv 34]), Ro 2 (Mv 35)])
 .ret)))))
def qi2 : List ARes := [(.tmp (sl 2))]
theorem qt5 : (Tryz.f98).body.bind (q9 Tryz.prog 8 (Tryz.f98).ntmps [2, 3, 15, 19, 28, 32, 34, 35] [(120, 9, 1)] (drOk 8)) = some qgx := by kernel_rfl
theorem qth : qa Tryz.prog 8 (Tryz.f98).results.toList = some qi2 := by kernel_rfl
end Go.Proofs.YtgadlpdbkohlbaaGreat
/- The bodies of some functions, as the evaluator has them (printed by program), and that they are the program's own. -/
namespace Go.Proofs.YtgadlpdbkohlbaaGreat
open Go.RowKit
def qjl : ACode :=
 (.seq (.reg [Ro 2 (.box true (Sv 0)), Ro 4 (.mv (.c (.slice none 0 0)))])
 (.seq (.reg [Ro 9 (.mmk .string), Ro 5 (.new [(.map none)]), Rn (.ini 1 (Sv 5) (Sv 9) 1)])
 (.seq (.reg [Ro 6 (.new [.nilFunc])])
 (.seq (.reg [Ro 10 (.mkfn 95 [Sv 5, Sv 2, Sv 6]), Rn (.st (Sv 6) (Sv 10) 1)])
 (.seq (.seq (.reg [Ro 11 (Mv 1), Ro 12 (.len false (Sv 11)), Ro 13 (.mv (Ci 0))])
 (.block 0
 (.loop (.seq (.reg [Ro 14 (.bin .lss (Sv 13) (Sv 12))])
 (.seq (.cond (Sv 14)
 .skip
 (.exit 0))
 (.seq (.block 1
 (.seq (.reg [Ro 15 (.idx true (Sv 11) (Sv 13) 1), Ro 16 (Ld 15), Ro 8 (Mv 16)])
 (.reg [Ro 17 (.ld false (Sv 6) none), Ro 18 (Mv 8), Ro 19 (.calle (Sv 17) [Sv 18])])))
 (.reg [Ro 20 (.bin .add (Sv 13) (Ci 1)), Ro 13 (Mv 20)])))))))
 (.seq (.reg [Ro 21 (Lk 2 2), Ro 22 (.callv 9 1 (.f 98) [Sv 21]), Ro 23 (.mkfn 99 [Sv 5]), Ro 24 (.calle (.f 97) [Sv 22, Sv 23]), Ro 4 (Mv 24)])
 .ret))))))
def qk2 : List ARes := [(.tmp (sl 4))]
theorem qwm : (Tryz.f69).body.bind (q9 Tryz.prog 8 (Tryz.f69).ntmps [4, 5, 6, 10, 17, 22, 23, 24] [(98, 9, 1001), (97, 0, 0), (1000017, 0, 0)] (drOk 8)) = some qjl := by kernel_rfl
theorem qx1 : qa Tryz.prog 8 (Tryz.f69).results.toList = some qk2 := by kernel_rfl
end Go.Proofs.YtgadlpdbkohlbaaGreat
/- The bodies of some functions, as the evaluator has them (printed by program), and that they are the program's own. -/
namespace Go.Proofs.YtgadlpdbkohlbaaGreat
open Go.RowKit
def qa4 : ACode :=
 (.seq (.seq (.reg [Ro 9 (.ld false (Sv 1) none), Ro 10 (Mv 0), Ro 11 (.mget (Sv 9) (Sv 10) false .string (.bool false))])
 (.cond (Sv 11)
 .ret
 .skip))
 (.seq (.reg [Ro 12 (.ld false (Sv 1) none), Ro 13 (Mv 0), Rn (.mset false (Sv 12) (Sv 13) (.c (.bool true)) .string)])
 (.seq (.seq (.reg [Ro 15 (Lk 2 2), Ro 16 (Mv 0), Ro 17 (.call true (.f 96) [Sv 15, Sv 16]), Ro 14 (Mv 17), Ro 18 (.ext (Sv 14) 0), Ro 19 (.ext (Sv 14) 1), Ro 5 (.new [(.string ⟨#[]⟩), (.int .i64 0), (.int .i64 0), (.slice none 0 0)]), Rn (.ini 1 (Sv 5) (Sv 18) 4), Ro 6 (Mv 19)])
 (.frz (sl 5)))
 (.seq (.reg [Ro 20 (Mv 6)])
 (.cond (Sv 20)
 (.seq (.reg [Ro 21 (Lk 5 4), Ro 22 (.call true (.f 37) [Sv 21]), Ro 23 (.len false (Sv 22)), Ro 24 (.mv (Ci 0))])
 (.block 0
 (.loop (.seq (.reg [Ro 25 (.bin .lss (Sv 24) (Sv 23))])
 (.seq (.cond (Sv 25)
 .skip
 (.exit 0))
 (.seq (.block 1
 (.seq (.reg [Ro 26 (.idx true (Sv 22) (Sv 24) 1), Ro 27 (Ld 26), Ro 8 (Mv 27)])
 (.reg [Ro 28 (.ld false (Sv 3) none), Ro 29 (Mv 8), Ro 30 (.calle (Sv 28) [Sv 29])])))
 (.reg [Ro 31 (.bin .add (Sv 24) (Ci 1)), Ro 24 (Mv 31)])))))))
 .skip)))))
def qa8 : List ARes := []
theorem qop : (Tryz.f95).body.bind (q9 Tryz.prog 8 (Tryz.f95).ntmps [1, 3, 9, 12, 28] [(1000028, 0, 0)] (drOk 8)) = some qa4 := by kernel_rfl
theorem qov : qa Tryz.prog 8 (Tryz.f95).results.toList = some qa8 := by kernel_rfl
end Go.Proofs.YtgadlpdbkohlbaaGreat
/- The bodies of some functions, as the evaluator has them (printed by program), and that they are the program's own. -/
namespace Go.Proofs.YtgadlpdbkohlbaaGreat
open Go.RowKit
end Go.Proofs.YtgadlpdbkohlbaaGreat
/- The bodies of some functions, as the evaluator has them (printed by program), and that they are the program's own. -/
namespace Go.Proofs.YtgadlpdbkohlbaaGreat
open Go.RowKit
end Go.Proofs.YtgadlpdbkohlbaaGreat
/- The bodies of some functions, as the evaluator has them (printed by program), and that they are the program's own. -/
namespace Go.Proofs.YtgadlpdbkohlbaaGreat
open Go.RowKit
def qjk : ACode :=
 (.seq (.reg [Ro 1 (.box true (Sv 0)), Ro 2 (.new [(.slice none 0 0), (.slice none 0 0)])])
 (.seq (.reg [Rl 9 (Lk 1 2) 0, Rl 10 (Lk 1 2) 1, Rl 11 (.call true (.f 70) [Sv 10]) 2, Rl 12 (.call true (.f 69) [Sv 9, Sv 11]) 3, Rl 3 (Mv 12) 4])
 (.seq (.reg [Ro 4 (.new [(.slice none 0 0), (.slice none 0 0)])])
 (.seq (.seq (.reg [Ro 13 (Fd 1 0), Ro 14 (Ld 13), Ro 15 (.len false (Sv 14)), Ro 16 (.mv (Ci 0))])
 (.block 0
 (.loop (.seq (.reg [Ro 17 (.bin .lss (Sv 16) (Sv 15))])
 (.seq (.cond (Sv 17)
 .skip
 (.exit 0))
 (.seq (.block 1
 (.seq (.seq (.reg [Ro 18 (.idx true (Sv 14) (Sv 16) 4), Ro 19 (Lk 18 4), Ro 6 (.new [(.string ⟨#[]⟩), (.int .i64 0), (.int .i64 0), (.slice none 0 0)]), Rn (.ini 1 (Sv 6) (Sv 19) 4)])
 (.frz (sl 6)))
 (.seq (.reg [Ro 20 (Mv 3), Ro 21 (Fd 6 0), Ro 22 (Ld 21), Ro 23 (.call true (.f 71) [Sv 20, Sv 22])])
 (.cond (Sv 23)
 (.reg [Ro 24 (Fd 4 0), Ro 25 (.ld false (Sv 24) none), Ro 26 (Lk 6 4), Ro 27 (.mksl 4 1 [(.string ⟨#[]⟩), (.int .i64 0), (.int .i64 0), (.slice none 0 0)] [(0, 4, (Sv 26))]), Ro 28 (.app 61 4 56 (Sv 25) (Sv 27)), Ro 29 (Fd 4 0), Rn (.st (Sv 29) (Sv 28) 1)])
 .skip))))
 (.reg [Ro 30 (.bin .add (Sv 16) (Ci 1)), Ro 16 (Mv 30)])))))))
 (.seq (.seq (.reg [Ro 31 (Fd 1 1), Ro 32 (Ld 31), Ro 33 (.len false (Sv 32)), Ro 34 (.mv (Ci 0))])
 (.block 2
 (.loop (.seq (.reg [Ro 35 (.bin .lss (Sv 34) (Sv 33))])
 (.seq (.cond (Sv 35)
 .skip
 (.exit 2))
 (.seq (.block 3
 (.seq (.seq (.reg [Ro 36 (.idx true (Sv 32) (Sv 34) 4), Ro 37 (Lk 36 4), Ro 8 (.new [(.string ⟨#[]⟩), (.int .i64 0), (.bool false), (.int .u64 0)]), Rn (.ini 1 (Sv 8) (Sv 37) 4)])
 (.frz (sl 8)))
 (.seq (.reg [Ro 38 (Mv 3), Ro 39 (Fd 8 0), Ro 40 (Ld 39), Ro 41 (.call true (.f 71) [Sv 38, Sv 40])])
 (.cond (Sv 41)
 (.reg [Ro 42 (Fd 4 1), Ro 43 (.ld false (Sv 42) none), Ro 44 (Lk 8 4), Ro 45 (.mksl 4 1 [(.string ⟨#[]⟩), (.int .i64 0), (.bool false), (.int .u64 0)] [(0, 4, (Sv 44))]), Ro 46 (.app 64 4 40 (Sv 43) (Sv 45)), Ro 47 (Fd 4 1), Rn (.st (Sv 47) (Sv 46) 1)])
 .skip))))
 (.reg [Ro 48 (.bin .add (Sv 34) (Ci 1)), Ro 34 (Mv 48)])))))))
 (.seq (.reg [Ro 49 (.ld false (Sv 4) (some 2)), Rn (.st (Sv 2) (Sv 49) 2)])
 .ret))))))
def qk1 : List ARes := [(.cell (sl 2) (some 2))]
theorem qwl : (Tryz.f41).body.bind (q9 Tryz.prog 8 (Tryz.f41).ntmps [2, 4, 24, 25, 28, 29, 42, 43, 46, 47, 49] [] (drOk 8)) = some qjk := by kernel_rfl
theorem qx0 : qa Tryz.prog 8 (Tryz.f41).results.toList = some qk1 := by kernel_rfl
end Go.Proofs.YtgadlpdbkohlbaaGreat
/- The bodies of some functions, as the evaluator has them (printed by program), and that they are the program's own. -/
namespace Go.Proofs.YtgadlpdbkohlbaaGreat
open Go.RowKit
end Go.Proofs.YtgadlpdbkohlbaaGreat
namespace Go.Proofs.YtgadlpdbkohlbaaGreat
open Go.RowKit
def q1l : ACode :=
 (.seq (.reg [Ro 4 (.mv (Ci 0))])
 (.seq (.seq (.reg [Ro 6 (Mv 0), Ro 7 (.len false (Sv 6)), Ro 8 (.mv (Ci 0))])
 (.block 0
 (.loop (.seq (.reg [Ro 9 (.bin .lss (Sv 8) (Sv 7))])
 (.seq (.cond (Sv 9)
 .skip
 (.exit 0))
 (.seq (.block 1
 (.seq (.reg [Ro 10 (Mv 8), Ro 5 (Mv 10)])
 (.seq (.reg [Ro 11 (Mv 1), Ro 12 (Mv 0), Ro 13 (Mv 5), Ro 14 (.idx true (Sv 12) (Sv 13) 4), Ro 15 (Lk 14 4), Ro 16 (.call true (Sv 11) [Sv 15])])
 (.cond (Sv 16)
 (.seq (.reg [Ro 17 (Mv 5), Ro 4 (Mv 17)])
 .ret)
 .skip))))
 (.reg [Ro 18 (.bin .add (Sv 8) (Ci 1)), Ro 8 (Mv 18)])))))))
 (.seq (.reg [Ro 4 (.mv (Ci (-1)))])
 .ret)))
def q1p : List ARes := [(.tmp (sl 4))]
theorem q3v : (Tryz.f60).body.bind (q9 Tryz.prog 8 (Tryz.f60).ntmps [] [] (drOk 8)) = some q1l := by kernel_rfl
theorem q3x : qa Tryz.prog 8 (Tryz.f60).results.toList = some q1p := by kernel_rfl
theorem qf5 (xs : List Func) (F : FuncId) (caps : List DV) (p : Func → Bool) (hF : ∀ v ∈ xs, APure Tryz.prog F (.agg (qm v) :: caps) (.bool (p v))) : APure Tryz.prog 60 [q24 xs, .fn F caps] (.int (q44 p xs)) := by
 refine qb _ _ Tryz.func60 (by kernel_rfl) q3v q3x rfl rfl (fun hx => len1 hx fun hl => ?_)
 clear hx
 simp [q1l, q1p]
 refine qe (κ := Nat) (fun k => k ≤ xs.length ∧ ∀ i (h : i < xs.length), i < k → p xs[i] = false) (fun k => xs.length - k) (fun k => [(sl 8, .int k)]) (fun _ => []) 0 0 (srcs []) (by simp) (by simp) ?_
 rintro k ⟨hk, hb⟩
 simp
 refine ⟨fun hlt => ⟨hlt, ?_⟩, fun hge => ?_⟩
 ·rw [getD_some hlt]
  refine q4 _ (by simp) (by simp) (fun _ => by simp) (fun _ => hF _ (List.getElem_mem hlt)) ?_
  simp
  refine ⟨fun h => q6 (q49 hlt hb h).symm, fun h => ?_⟩
  refine ⟨k + 1, ⟨by omega, fun i hi h1 => ?_⟩, by omega, srcs [], ?_⟩
  ·rcases Nat.lt_or_ge i k with h2 | h2
   ·exact hb i hi h2
   ·obtain rfl : i = k := by omega
    exact h
  ·simp [SLeK]
   exact q6 (q5 (by omega))
 ·exact q6 (q4q fun i hi => hb i hi (by omega)).symm
theorem z29 (f : Func) (s : ByteArray) : APure Tryz.prog 119 [.agg (qm f), .cref [.str s] 0] (.bool (decide (f.name = s))) := by
 refine qb _ _ Tryz.func119 (by kernel_rfl) qoq qow rfl rfl (fun _ => ?_)
 simp [qei, qep]
def z2a (m : Module) (s : ByteArray) : DV := match q55 m s with | some f => .tup [.agg (qm f), .bool true] | none => .tup [.agg [.str ⟨#[]⟩, .int 0, .int 0, .lit (.slice none 0 0)], .bool false]
set_option maxRecDepth 10000 in
theorem z5i (m : Module) (s : ByteArray) : APure Tryz.prog 96 [.agg (q8 m), .str s] (z2a m s) := by
 refine qb _ _ Tryz.func96 (by kernel_rfl) qwn qx2 rfl rfl (fun _ => ?_)
 simp [qjm, qk3]
 refine q4 (ds := [q24 m.funcs, .fn 119 [.cref [.str s] 0]]) _ (by simp) (by simp) (fun _ => by simp) (fun _ => qf5 m.funcs _ _ _ (fun f _ => z29 f s)) ?_
 simp
 unfold z2a q55
 rcases qha (fun f : Func => decide (f.name = s)) m.funcs with ⟨k, hk, h1, h2⟩ | ⟨h1, h2⟩
 ·rw [h1, h2]
  refine ⟨fun h => by omega, fun _ => ⟨⟨by omega, by omega⟩, ?_⟩⟩
  simp only [Int.toNat_natCast, getD_some hk]
  exact DLe.refl _
 ·rw [h1, h2]
  exact ⟨fun _ => DLe.refl _, fun h => by omega⟩
theorem qxw (xs : List ByteArray) (s : ByteArray) : APure Tryz.prog 100 [q2k xs, .str s] (.int (q44 (fun x => decide (s = x)) xs)) := by
 refine qb _ _ Tryz.func100 (by kernel_rfl) q6b q6d rfl rfl (fun hx => len1 hx fun hl => ?_)
 clear hx
 simp [q2t, q2v]
 refine qe (κ := Nat) (fun k => k ≤ xs.length ∧ ∀ i (h : i < xs.length), i < k → decide (s = xs[i]) = false) (fun k => xs.length - k) (fun k => [(sl 8, .int k)]) (fun _ => []) 0 0 (srcs []) (by simp) (by simp) ?_
 rintro k ⟨hk, hb⟩
 simp
 refine ⟨fun hlt => ⟨hlt, ?_⟩, fun hge => ?_⟩
 ·refine ⟨fun h => q6 (q49 (p := fun x => decide (s = x)) hlt (by simpa using hb) (by simpa [hlt] using h)).symm, fun h => ?_⟩
  refine ⟨k + 1, ⟨by omega, fun i hi h1 => ?_⟩, by omega, srcs [], ?_⟩
  ·rcases Nat.lt_or_ge i k with h2 | h2
   ·simpa using hb i hi h2
   ·obtain rfl : i = k := by omega
    simpa [hlt] using h
  ·simp [SLeK]
   exact q6 (q5 (by omega))
 ·exact q6 (q4q fun i hi => hb i hi (by omega)).symm
theorem any_swap (xs : List ByteArray) (s : ByteArray) : (xs.any fun x => decide (s = x)) = hasN xs s := by
 unfold hasN
 congr 1
 funext x
 rw [Bool.eq_iff_iff]
 simp [eq_comm]
theorem qa5 (xs : List ByteArray) (s : ByteArray) : APure Tryz.prog 71 [q2k xs, .str s] (.bool (hasN xs s)) := by
 refine qb _ _ Tryz.func71 (by kernel_rfl) q4x q4y rfl rfl (fun _ => ?_)
 simp [q2d, q2e]
 refine q4 (ds := [q2k xs, .str s]) _ (by simp) (by simp) (fun _ => rfl) (fun _ => qxw xs s) ?_
 simp
 exact qc ((qdb (fun x => decide (s = x)) xs).trans (any_swap xs s))
theorem qb0 (xs : List ByteArray) (s : ByteArray) : APure Tryz.prog 48 [q2k xs, .str s] (.bool (hasN xs s)) := by
 refine qb _ _ Tryz.func48 (by kernel_rfl) qic qik rfl rfl (fun hx => len1 hx fun hl => ?_)
 clear hx
 simp [q9p, q9v]
 refine qe (κ := Nat) (fun k => k ≤ xs.length ∧ hasN (xs.take k) s = false) (fun k => xs.length - k) (fun k => [(sl 5, .int k)]) (fun _ => []) 0 0 (srcs []) (by simp [hasN]) (by simp) ?_
 rintro k ⟨hk, hb⟩
 simp
 refine ⟨fun hlt => ⟨hlt, ?_⟩, fun hge => ?_⟩
 ·refine ⟨fun h => qc ?_, fun h => ⟨k + 1, ⟨by omega, ?_⟩, by omega, srcs [], ?_⟩⟩
  ·symm
   rw [qs0, ← h, getD_some hlt]
   exact List.getElem_mem hlt
  ·rw [List.take_succ_eq_append_getElem hlt, q8u, hb]
   rw [getD_some hlt] at h
   simp [hasN, h]
  ·simp [SLeK]
   exact q6 (q5 (by omega))
 ·rw [List.take_of_length_le hge] at hb
  rw [hb]
  exact DLe.refl _
def q90 (l : List ByteArray) : List ByteArray := l.foldl (fun acc x => if hasN acc x = true then acc else acc ++ [x]) []
def qhs (l : List ByteArray) (k : Nat) : List ByteArray := q90 (l.take k)
@[simp] theorem onceT_zero (l : List ByteArray) : qhs l 0 = [] := rfl
theorem qht {l : List ByteArray} {k : Nat} (h : l.length ≤ k) : qhs l k = q90 l := by
 unfold qhs
 rw [List.take_of_length_le h]
theorem qqe {l : List ByteArray} {k : Nat} (hk : k < l.length) : qhs l (k + 1) = if hasN (qhs l k) l[k] = true then qhs l k else qhs l k ++ [l[k]] := by
 unfold qhs q90
 rw [List.take_succ_eq_append_getElem hk, List.foldl_append]
 rfl
theorem qjx (l : List ByteArray) : ∀ k, (qhs l k).length ≤ k := by
  intro k
  induction k with
  | zero => simp
  | succ k ih =>
    by_cases hk : k < l.length
    · rw [qqe hk]
      split
      · omega
      · simp; omega
    · rw [qht (by omega), ← qht (l := l) (k := k) (by omega)]
      omega
set_option maxRecDepth 10000 in
theorem once_own (l : List ByteArray) (hl : l.length ≤ 8796093022208) : AOwn Tryz.prog 120 [q2k l] 9 1 (q90 l).length (fun i => strC ((q90 l)[i]?.getD ⟨#[]⟩)) := by
 refine z4s _ _ Tryz.func120 (by kernel_rfl) qe1 qee rfl rfl (fun _ => ?_)
 simp [q7k, q7x]
 refine qe (κ := Nat) (fun k => k ≤ l.length) (fun k => l.length - k) (fun k => [(sl 8, .int k), (sl 3, .own 0 (qhs l k).length)])
  (fun k => [(0, .row 9 1 (qhs l k).length fun i => strC ((qhs l k)[i]?.getD ⟨#[]⟩))]) 1 0 (srcs [(0, .nil)]) (by simp) (by simp) ?_
 rintro k hk
 simp
 refine ⟨fun hlt => ⟨hlt, ?_⟩, fun hge => ?_⟩
 ·rw [getD_some hlt]
  have hlen := qjx l k
  have hsucc := qqe hlt
  refine q4 (ds := [q2k (qhs l k), .str l[k]]) _ (by simp) (by simp) (fun _ => by simp; rfl) (fun _ => qa5 (qhs l k) l[k]) ?_
  simp
  refine ⟨fun h => ⟨by omega, k + 1, by omega, by omega, srcs [(0, .id 12)], ?_⟩, fun h => ⟨k + 1, by omega, by omega, srcs [(0, .id 0)], ?_⟩⟩
  ·rw [h] at hsucc
   simp [SLeK, hsucc]
   exact ⟨q6 (q5 (by omega)), fun i hi => q1t hi⟩
  ·rw [h] at hsucc
   simp [SLeK, hsucc]
   exact q6 (q5 (by omega))
 ·rw [qht hge]
  exact ⟨rfl, fun _ _ => rfl⟩
set_option maxRecDepth 10000 in
theorem z6n (m : Module) (hl : m.funcs.length + m.globs.length ≤ 1048576) : AOwn Tryz.prog 98 [.agg (q8 m)] 9 1 (q90 (qn m)).length (fun i => strC ((q90 (qn m))[i]?.getD ⟨#[]⟩)) := by
 refine z4s _ _ Tryz.func98 (by kernel_rfl) qt5 qth rfl rfl (fun _ => ?_)
 simp [qgx, qi2]
 refine qe (κ := Nat) (fun k => k ≤ m.funcs.length) (fun k => m.funcs.length - k) (fun k => [(sl 11, .int k), (sl 3, .own 0 (fnT m k).length)]) (fun k => [(0, .row 9 1 (fnT m k).length fun i => strC ((fnT m k)[i]?.getD ⟨#[]⟩))]) 1 0 (srcs [(0, .nil)]) (by simp) (by simp) ?_
 rintro k hk
 simp
 refine ⟨fun hlt => ⟨hlt, ?_⟩, fun hge => ?_⟩
 ·have hlm := qpq m k
  refine ⟨by omega, k + 1, by omega, by omega, srcs [(0, .id 10)], ?_⟩
  simp [SLeK, z06 hlt, getD_some hlt]
  exact ⟨q6 (q5 (by omega)), fun i hi => q1t hi⟩
 rw [z5k hge]
 refine qe (κ := Nat) (fun k => k ≤ m.globs.length) (fun k => m.globs.length - k) (fun k => [(sl 24, .int k), (sl 3, .own 0 (gnT m k).length)]) (fun k => [(0, .row 9 1 (gnT m k).length fun i => strC ((gnT m k)[i]?.getD ⟨#[]⟩))]) 1 0 (srcs [(0, .id 0)]) (by simp) (by simp) ?_
 rintro j hj
 simp
 refine ⟨fun hlt => ⟨hlt, ?_⟩, fun hge => ?_⟩
 ·have hlm := qps m j
  refine ⟨by omega, j + 1, by omega, by omega, srcs [(0, .id 10)], ?_⟩
  simp [SLeK, z08 hlt, getD_some hlt]
  exact ⟨q6 (q5 (by omega)), fun i hi => q1t hi⟩
 ·rw [z5u hge]
  have hn := q5e m
  refine qro (ds := [q2k (qn m)]) _ _ (by simp) (by simp) (by simp) (once_own (qn m) (by omega)) ?_
  simp
def qdo (f : Func) : Bool := decide (f.bind = 2) || decide (f.name = ⟨#[109, 97, 105, 110]⟩)
def qi7 (g : Glob) : Bool := g.bind == 2
def q3t (m : Module) : List ByteArray := (m.funcs.filter qdo).map (·.name) ++ (m.globs.filter qi7).map (·.name)
def rfT (m : Module) (k : Nat) : List ByteArray := ((m.funcs.take k).filter qdo).map (·.name)
def rgT (m : Module) (k : Nat) : List ByteArray := (m.funcs.filter qdo).map (·.name) ++ ((m.globs.take k).filter qi7).map (·.name)
@[simp] theorem rfT_zero (m : Module) : rfT m 0 = [] := rfl
theorem z0x {m : Module} {k : Nat} (hk : k < m.funcs.length) : rfT m (k + 1) = if qdo m.funcs[k] = true then rfT m k ++ [m.funcs[k].name] else rfT m k := by
 unfold rfT
 rw [List.take_succ_eq_append_getElem hk, List.filter_append]
 cases h : qdo m.funcs[k] <;> simp [h]
theorem z76 {m : Module} {k : Nat} (hk : m.funcs.length ≤ k) : rfT m k = rgT m 0 := by
 unfold rfT rgT
 rw [List.take_of_length_le hk]
 simp
theorem qqx (m : Module) (k : Nat) : (rfT m k).length ≤ k := by
 unfold rfT
 rw [List.length_map]
 have := List.length_filter_le qdo (m.funcs.take k)
 simp at this
 omega
theorem z0y {m : Module} {k : Nat} (hk : k < m.globs.length) : rgT m (k + 1) = if qi7 m.globs[k] = true then rgT m k ++ [m.globs[k].name] else rgT m k := by
 unfold rgT
 rw [List.take_succ_eq_append_getElem hk, List.filter_append]
 cases h : qi7 m.globs[k] <;> simp [h]
theorem qyl {m : Module} {k : Nat} (hk : m.globs.length ≤ k) : rgT m k = q3t m := by
 unfold rgT q3t
 rw [List.take_of_length_le hk]
theorem qj6 (m : Module) (k : Nat) : (rgT m k).length ≤ m.funcs.length + k := by
 unfold rgT
 rw [List.length_append, List.length_map, List.length_map]
 have h1 := List.length_filter_le qdo m.funcs
 have h2 := List.length_filter_le qi7 (m.globs.take k)
 simp at h2
 omega
set_option maxRecDepth 10000 in
theorem z31 (m : Module) (hl : m.funcs.length + m.globs.length ≤ 1048576) : APure Tryz.prog 70 [.agg (q8 m)] (q2k (q3t m)) := by
 refine qb _ _ Tryz.func70 (by kernel_rfl) qt4 qtg rfl rfl (fun _ => ?_)
 simp [qgw, qi1]
 refine qe (κ := Nat) (fun k => k ≤ m.funcs.length) (fun k => m.funcs.length - k) (fun k => [(sl 11, .int k), (sl 3, .own 0 (rfT m k).length)]) (fun k => [(0, .row 9 1 (rfT m k).length fun i => strC ((rfT m k)[i]?.getD ⟨#[]⟩))]) 1 0 (srcs [(0, .nil)]) (by simp) (by simp) ?_
 rintro k hk
 simp
 refine ⟨fun hlt => ⟨hlt, ?_⟩, fun hge => ?_⟩
 ·have hlm := qqx m k
  have hs := z0x hlt
  rw [getD_some hlt]
  refine ⟨fun h => ?_, fun h1 h2 => ?_⟩
  ·have hr : qdo m.funcs[k] = true := by simpa [qdo] using h
   rw [if_pos hr] at hs
   refine ⟨by omega, k + 1, by omega, by omega, srcs [(0, .id 18)], ?_⟩
   simp [SLeK, hs]
   exact ⟨q6 (q5 (by omega)), fun i hi => q1t hi⟩
  ·have hr : ¬ qdo m.funcs[k] = true := by simp [qdo, h1, h2]
   rw [if_neg hr] at hs
   refine ⟨k + 1, by omega, by omega, srcs [(0, .id 0)], ?_⟩
   simp [SLeK, hs]
   exact q6 (q5 (by omega))
 rw [z76 hge]
 refine qe (κ := Nat) (fun k => k ≤ m.globs.length) (fun k => m.globs.length - k) (fun k => [(sl 32, .int k), (sl 3, .own 0 (rgT m k).length)]) (fun k => [(0, .row 9 1 (rgT m k).length fun i => strC ((rgT m k)[i]?.getD ⟨#[]⟩))]) 1 0 (srcs [(0, .id 0)]) (by simp) (by simp) ?_
 rintro j hj
 simp
 refine ⟨fun hlt => ⟨hlt, ?_⟩, fun hge => ?_⟩
 ·have hlm := qj6 m j
  have hs := z0y hlt
  rw [getD_some hlt]
  refine ⟨fun h => ?_, fun h1 => ?_⟩
  ·have hr : qi7 m.globs[j] = true := by simp [qi7, h]
   rw [if_pos hr] at hs
   refine ⟨by omega, j + 1, by omega, by omega, srcs [(0, .id 13)], ?_⟩
   simp [SLeK, hs]
   exact ⟨q6 (q5 (by omega)), fun i hi => q1t hi⟩
  ·have hr : ¬ qi7 m.globs[j] = true := by simp [qi7, h1]
   rw [if_neg hr] at hs
   refine ⟨j + 1, by omega, by omega, srcs [(0, .id 0)], ?_⟩
   simp [SLeK, hs]
   exact q6 (q5 (by omega))
 ·rw [qyl hge]
  exact DLe.refl _
def tau (c : Nat) : Nat → Nat := fun i => if i = 999999 then c else i
@[simp] theorem tau_new (c : Nat) : tau c 999999 = c := rfl
def dfs (m : Module) : Nat → List ByteArray → ByteArray → List ByteArray
  | 0, S, _ => S
  | n + 1, S, s => if hasN S s = true then S else match q55 m s with
    | none => S ++ [s]
    | some f => (qo (qk f)).foldl (dfs m n) (S ++ [s])
def left (m : Module) (S : List ByteArray) : Nat := (m.funcs.filter fun f => !hasN S f.name).length
theorem qva {m : Module} {S S' : List ByteArray} (h : ∀ s, hasN S s = true → hasN S' s = true) : left m S' ≤ left m S := by
 unfold left
 rw [← List.countP_eq_length_filter, ← List.countP_eq_length_filter]
 refine List.countP_mono_left fun f _ hf => ?_
 cases hs : hasN S f.name with
 | false => rfl
 | true => rw [h _ hs] at hf; cases hf
theorem z6h {m : Module} {S : List ByteArray} {s : ByteArray} {f : Func} (hf : q55 m s = some f) (hs : hasN S s = false) : left m (S ++ [s]) < left m S := by
 unfold q55 at hf
 have hm := List.mem_of_find?_eq_some hf
 have hn : f.name = s := by simpa using List.find?_some hf
 unfold left
 rw [← List.countP_eq_length_filter, ← List.countP_eq_length_filter]
 obtain ⟨a, b, hab⟩ := List.append_of_mem hm
 rw [hab]
 simp only [List.countP_append, List.countP_cons]
 have key : ∀ l : List Func, l.countP (fun f => !hasN (S ++ [s]) f.name) ≤ l.countP (fun f => !hasN S f.name) := fun l => List.countP_mono_left fun f _ hf => by
  cases h : hasN S f.name with
  | false => rfl
  | true => rw [q8u, h] at hf; cases hf
 have h1 := key a
 have h2 := key b
 have h3 : (!hasN (S ++ [s]) f.name) = false := by rw [q8u, hn]; simp [hasN]
 have h4 : (!hasN S f.name) = true := by rw [hn, hs]; rfl
 rw [h3, h4]
 simp
 omega
theorem qzz (m : Module) : ∀ (n : Nat) (S : List ByteArray) (s : ByteArray) (t : ByteArray), hasN S t = true → hasN (dfs m n S s) t = true := by
  intro n
  induction n with
  | zero => intro S s t h; exact h
  | succ n ih =>
    intro S s t h
    unfold dfs
    split
    · exact h
    · have h' : hasN (S ++ [s]) t = true := by rw [q8u, h]; rfl
      split
      · exact h'
      · rename_i f _
        have key : ∀ (l : List ByteArray) (S : List ByteArray), hasN S t = true → hasN (l.foldl (dfs m n) S) t = true := by
          intro l
          induction l with
          | nil => intro S h; exact h
          | cons x l ihl => intro S h; exact ihl _ (ih S x t h)
        exact key _ _ h'
theorem qme (m : Module) (n : Nat) (t : ByteArray) : ∀ (l : List ByteArray) (S : List ByteArray), hasN S t = true → hasN (l.foldl (dfs m n) S) t = true
 | [], _, h => h
 | x :: l, S, h => qme m n t l _ (qzz m n S x t h)
def LR (m : Module) (S : List ByteArray) : List (Nat × AObj) :=
 [(1000000, .box [.mp 1000001]), (1000001, .map .string S.length (mapN S)), (1000002, .box [.fn 95 [.ptr 1000000 0, .d (.cref (q8 m) 0), .ptr 1000002 0]])]
theorem z61 (m : Module) (S : List ByteArray) : hof (LR m S) = hadd 1000000 (.box [.mp 1000001]) (hadd 1000001 (.map .string S.length (mapN S)) (hadd 1000002 (.box [.fn 95 [.ptr 1000000 0, .d (.cref (q8 m) 0), .ptr 1000002 0]]) hnil)) := rfl
theorem z4b {m : Module} {S S' : List ByteArray} {n : Nat} {f : Value → Option Value} (hn : n = S'.length) (hf : ∀ v, kdOk .string v = true → f v = mapN S' v) : qoz (LR m S) (LR m S') (hadd 1000000 (.box [.mp 1000001]) (hadd 1000001 (.map .string n f) (hadd 1000002 (.box [.fn 95 [.ptr 1000000 0, .d (.cref (q8 m) 0), .ptr 1000002 0]]) hnil))) := by
 subst hn
 refine ⟨.none, ?_, ?_⟩
 ·simp [LR, gE]
  exact fun v hv => hf v hv
 ·simp [LR, gE]
set_option maxRecDepth 10000 in
theorem z72 (m : Module) (hm : Small m) : ∀ (n : Nat) (S : List ByteArray) (s : ByteArray), left m S < n → AEff Tryz.prog 95 [.d (.str s), .ptr 1000000 0, .d (.cref (q8 m) 0), .ptr 1000002 0] (LR m S) (.tup []) (LR m (dfs m n S s)) := by
  intro n
  induction n with
  | zero => intro S s h; omega
  | succ n ih =>
    intro S s hn
    refine qx7 _ _ Tryz.func95 (by kernel_rfl) qop qov rfl rfl (by simp [LR]) (by simp [LR, q2x]) (fun _ => ?_)
    by_cases hs : hasN S s = true
    · have e : dfs m (n + 1) S s = S := by unfold dfs; rw [if_pos hs]
      rw [e]
      simp [qa4, qa8, z61, hs]
      exact z4b rfl fun _ _ => rfl
    · have hs' : hasN S s = false := by simpa using hs
      simp [qa4, qa8, z61, hs']
      refine q4 (ds := [.agg (q8 m), .str s]) _ (by simp) (by simp) (fun _ => rfl) (fun _ => z5i m s) ?_
      cases hf : q55 m s with
      | none =>
        have hr : z2a m s = .tup [.agg [.str ⟨#[]⟩, .int 0, .int 0, .lit (.slice none 0 0)], .bool false] := by unfold z2a; rw [hf]
        have e : dfs m (n + 1) S s = S ++ [s] := by unfold dfs; rw [if_neg hs, hf]
        rw [hr, e]
        simp
        exact z4b (by simp) fun v hv => qho v hv
      | some f =>
        have hr : z2a m s = .tup [.agg (qm f), .bool true] := by unfold z2a; rw [hf]
        have e : dfs m (n + 1) S s = (qo (qk f)).foldl (dfs m n) (S ++ [s]) := by
          conv => lhs; unfold dfs
          rw [if_neg hs, hf]
        have hfm : f ∈ m.funcs := List.mem_of_find?_eq_some hf
        have hl := z6h hf hs'
        rw [hr, e]
        simp
        refine q4 (ds := [.agg (qm f)]) _ (by simp) (by simp) (fun _ => rfl) (fun _ => qvz f (by have := hm.ins f hfm; omega)) ?_
        simp
        obtain ⟨ns, hns⟩ : ∃ ns, qo (qk f) = ns := ⟨_, rfl⟩
        have hnl : ns.length ≤ 1048576 := by rw [← hns]; exact Nat.le_trans (q3i _) (hm.ins f hfm)
        simp only [hns]
        refine qe (κ := Nat) (fun k => k ≤ ns.length) (fun k => ns.length - k) (fun k => [(sl 24, .int k)]) (fun k => LR m ((ns.take k).foldl (dfs m n) (S ++ [s]))) 0 0 (srcs []) (by simp) ?_ ?_
        · simp [LR]
          exact fun v hv => qho v hv
        rintro k hk
        have hmu : left m ((ns.take k).foldl (dfs m n) (S ++ [s])) < n := by
          have := qva (m := m) (S := S ++ [s]) (S' := (ns.take k).foldl (dfs m n) (S ++ [s])) fun t ht => qme m n t _ _ ht
          omega
        simp [z61]
        refine ⟨fun hlt => ⟨hlt, ?_⟩, fun hge => ?_⟩
        · have hsucc : (ns.take (k + 1)).foldl (dfs m n) (S ++ [s]) = dfs m n ((ns.take k).foldl (dfs m n) (S ++ [s])) ns[k] := by
            rw [List.take_succ_eq_append_getElem hlt, List.foldl_append]
            rfl
          refine q43 (ih ((ns.take k).foldl (dfs m n) (S ++ [s])) ns[k] hmu) (tau _) rfl [.d (.str ns[k]), .ptr 1000000 0, .d (.cref (q8 m) 0), .ptr 1000002 0] (by simp) (by simp) (by simp [hlt]) (by simp [gOf, LR, tau]) (by simp [gOf, LR, tau]) (by simp [gOf, LR, tau]) (by simp [LR, q2x]) ?_
          simp [LR, tau]
          refine ⟨k + 1, by omega, by omega, srcs [], ?_⟩
          simp [SLeK, hsucc]
          exact q6 (q5 (by omega))
        · rw [List.take_of_length_le hge]
          exact z4b rfl fun _ _ => rfl
end Go.Proofs.YtgadlpdbkohlbaaGreat
namespace Go.Proofs.YtgadlpdbkohlbaaGreat
open Go.RowKit Go.Shelf Go.Sort
def delRen : Go.Shelf.Ren := ⟨fun | 6 => 62 | 10 => 97 | n => n,
 fun | 0 => 0 | 3 => 3 | 4 => 4 | 22 => 66 | 23 => 9 | 25 => 65 | n => n, fun n => n⟩
theorem z58 : SlLaysH.n10 Tryz.prog delRen where
 mixed := by kernel_rfl
 f6 := ⟨Tryz.f62.name, by decide, Tryz.func62.trans (congrArg some (by kernel_rfl))⟩
 f10 := ⟨Tryz.f97.name, by decide, Tryz.func97.trans (congrArg some (by kernel_rfl))⟩
 t0 := Tryz.underlying0
 a0 := Tryz.isAgg0
 z0 := Tryz.sizeOf0
 v0 := Tryz.zeroValue0
 t3 := Tryz.underlying3
 a3 := Tryz.isAgg3
 z3 := Tryz.sizeOf3
 v3 := Tryz.zeroValue3
 t4 := Tryz.underlying4
 a4 := Tryz.isAgg4
 z4 := Tryz.sizeOf4
 v4 := Tryz.zeroValue4
 t22 := Tryz.underlying66
 a22 := Tryz.isAgg66
 z22 := Tryz.sizeOf66
 v22 := Tryz.zeroValue66
 a23 := Tryz.isAgg9
 z23 := Tryz.sizeOf9
 t25 := Tryz.underlying65
 a25 := Tryz.isAgg65
 z25 := Tryz.sizeOf65
 v25 := Tryz.zeroValue65
theorem z7e {W : World} {mb : Nat} {ent : Array MapEntry} {clock : Nat} {S : List ByteArray} (hm : W.heap[mb]? = some (.map ent clock)) (hall : ∀ x, x ∈ ent.toList → kdOk .string x.key = true) (hf : ∀ k, kdOk .string k = true → q2l ent.toList k = mapN S k) (s : ByteArray) :
    (Instr.lookup 87 (.map (some mb)) (.string s) false).run Tryz.prog W = .ok (.bool (hasN S s)) W := by
  have hfk := hf (.string s) rfl
  have hi := q8s ent.toList (.string s) 0
  rw [hfk, z0m] at hi
  unfold Instr.lookup
  simp only [Sem.run_bind, run_underlying Tryz.underlying87, Result.andThen_ok, qak hm, Sem.run_pure, q9z (P := Tryz.prog) (kd := .string) (key := .string s) Tryz.underlying9 rfl, qb3 (P := Tryz.prog) (kd := .string) (key := .string s) Tryz.underlying9 rfl hall]
  cases hx : q54 ent.toList (.string s) 0 with
  | none =>
    rw [hx] at hi
    cases h : hasN S s <;> simp [h] at hi
    simp [Tryz.zeroValue4]
  | some p =>
    rw [hx] at hi
    cases h : hasN S s <;> simp [h] at hi
    simp [hi]
set_option maxRecDepth 100000 in
theorem qmf {W : World} {b mb : Nat} {ent : Array MapEntry} {clock : Nat} {S : List ByteArray} (hc : W.cell? ⟨b, 0, none⟩ = some (.map (some mb))) (hm : W.heap[mb]? = some (.map ent clock)) (hall : ∀ x, x ∈ ent.toList → kdOk .string x.key = true)
  (hf : ∀ k, kdOk .string k = true → q2l ent.toList k = mapN S k) (s : ByteArray) : FnGives Tryz.prog 99 #[.pointer (some ⟨b, 0, none⟩)] #[.string s] (.bool (!hasN S s)) W := by
 show Calls Tryz.prog 99 #[.string s, .pointer (some ⟨b, 0, none⟩)] W _
 have hlook := fun s => z7e hm hall hf s
 go_enter Tryz.func99, Tryz.ntmps99
 go_wp2
 go_ret
 exact ⟨rfl, 0, rfl⟩
set_option maxRecDepth 100000 in
theorem del_nil (fv : Value) (w : World) : Calls Tryz.prog 97 #[.slice none 0 0, fv] w fun e w' => e = .returned (.slice none 0 0) ∧ ∃ q, w' = w.drewN q := by
 have hIF : Calls Tryz.prog 62 #[.slice none 0 0, fv] w fun e w' => e = .returned (.int .i64 (-1)) ∧ ∃ q, w' = w.drewN q := (AnyE.slices_IndexFunc_empty (ρ := delRen) { z58 with } none 0 fv w).mono fun e w' h => ⟨h.1, 0, h.2⟩
 go_enter Tryz.func97, Tryz.ntmps97
 go_wp2_with (go_at_call 62; refine hIF.mono ?_; rintro e w' ⟨rfl, q, rfl⟩)
 go_ret
 exact ⟨rfl, q, rfl⟩
def LD (S ns : List ByteArray) : List (Nat × AObj) := [(1000000, .box [.mp 1000001]), (1000001, .map .string S.length (mapN S)), (1000003, .vec 9 1 ns.length fun i => (strC (ns[i]?.getD ⟨#[]⟩)).map .d)]
def LD' (S : List ByteArray) : List (Nat × AObj) := [(1000000, .box [.mp 1000001]), (1000001, .map .string S.length (mapN S))]
theorem hdel_LD {S ns : List ByteArray} {Hf : Heap} (hO : HOk (hof (LD S ns)) Hf) : hdel (qg (hof (LD S ns)) Hf) 1000003 = qg (hof (LD' S)) Hf := by
  have hn : Hf 1000003 = none := by
    cases h : Hf 1000003 with
    | none => rfl
    | some o =>
      have := (hO 1000003 o h).2.1
      simp [LD, hof, hget, hadd] at this
  funext k
  unfold hdel
  by_cases h : 1000003 = k
  · subst h
    rw [if_pos rfl]
    simp [qg, LD', hof, hadd, hnil, hn]
  · rw [if_neg h]
    simp [qg, LD, LD', hof, hadd, hnil, h]
theorem HOk.sub_LD {S ns : List ByteArray} {Hf : Heap} (hO : HOk (hof (LD S ns)) Hf) : HOk (hof (LD' S)) Hf := fun k o h => by
 obtain ⟨h1, h2, h3⟩ := hO k o h
 refine ⟨h1, ?_, h3⟩
 simp only [LD, LD', hof, q14] at h2 ⊢
 split at h2
 ·cases h2
 rename_i a
 rw [if_neg a]
 split at h2
 ·cases h2
 rename_i b
 rw [if_neg b]
 rfl
theorem qa6 {α : Type} [Inhabited α] (enc : α → Value) (w : World) (blk off : Nat) (d : Array α) {b : Nat} (h : b ≠ blk) : (putRow enc w blk off d).heap[b]? = w.heap[b]? := by
 unfold putRow mapBlock
 simp only [Array.getElem?_modify]
 rw [if_neg (Ne.symm h)]
theorem del_eff (S ns : List ByteArray) : AEff Tryz.prog 97 [.own 1000003 ns.length, .fn 99 [.ptr 1000000 0]] (LD S ns) (q2k (ns.filter fun s => hasN S s)) (LD' S) := by
  refine aeff_raw (H' := hof (LD' S)) ⟨_, _, Tryz.func97, by kernel_rfl, rfl⟩ (by simp [LD]) (by simp [LD, LD', q2x]) ⟨.none, by simp [LD', LD, hof, HLe, gE, hget, hadd, OLe, cellsLe, AVLe, AVLe0], by simp [LD', LD, srcApart, gE]⟩ ?_
  intro X0 W0 γ w Hf vs hS hO hvs
  have hg : ∀ k o, hget (hof (LD S ns)) k = some o → hget (qg (hof (LD S ns)) Hf) k = some o := fun k o h => by
    have h' : hof (LD S ns) k = some o := h
    simp [hget, qg, h']
  obtain ⟨u, hu, hvec⟩ := hS.obj 1000003 _ (hg 1000003 _ (by simp [LD, hof, hget, hadd]; rfl))
  obtain ⟨v0, hv0, b, arr, t0, rfl, hB, hh, hreps⟩ := hS.obj 1000000 _ (hg 1000000 _ (by simp [LD, hof, hget, hadd]; rfl))
  obtain ⟨v1, hv1, mb, ent, clock, rfl, hMB, hmh, hsz, hall, hf⟩ := hS.obj 1000001 _ (hg 1000001 _ (by simp [LD, hof, hget, hadd]; rfl))
  obtain ⟨xs, hown, hrow⟩ := hvec
  rw [← hdel_LD hO]
  have hvg := hg 1000003 _ (show hget (hof (LD S ns)) 1000003 = some (.vec 9 1 ns.length fun i => (strC (ns[i]?.getD ⟨#[]⟩)).map .d) by simp [LD, hof, hget, hadd])
  have hblt := hS.blk_lt hvg hu (b := b)
  have hargs : vs = #[u, .func (.func 99) #[] #[.pointer (some ⟨b, 0, none⟩)]] := by
    obtain ⟨a0, r0, e0, h0, k0⟩ := hvs.uncons
    obtain ⟨a1, r1, rfl, h1, k1⟩ := k0.uncons
    obtain rfl := k1.unnil
    have hu0 : a0 = u := by
      cases h0 with | own _ _ _ h => rw [hu] at h; injection h with h; exact h.symm
    subst hu0
    cases h1 with | fn _ us _ hl hr =>
    obtain ⟨p0, p1, rfl, h3, h4⟩ := (show Reps _ _ _ us _ from ⟨hl, hr⟩).uncons
    obtain rfl := h4.unnil
    cases h3 with | ptr b' _ _ h5 =>
    rw [hv0] at h5
    injection h5 with h5
    injection h5 with h5
    injection h5 with h5
    injection h5 with h5
    subst h5
    exact Array.toList_inj.1 e0
  subst hargs
  have hmb : arr = #[.map (some mb)] := by
    obtain ⟨a0, r0, e0, h0, k0⟩ := hreps.uncons
    obtain rfl := k0.unnil
    cases h0 with | mp b' _ h5 =>
    rw [hv1] at h5
    injection h5 with h5
    injection h5 with h5
    injection h5 with h5
    subst h5
    exact Array.toList_inj.1 e0
  subst hmb
  rcases hown.2 with ⟨rfl, h0⟩ | ⟨g, cap, cur, rfl, hgB, hgh, hn, hcap, hcs, htk⟩
  · refine (del_nil _ w).mono ?_
    rintro e w' ⟨rfl, q, rfl⟩
    have hns : ns = [] := by simpa using h0
    subst hns
    obtain ⟨h1, h2⟩ := hS.spend (w' := w.drewN q) hvg hu (fun _ => trivial) (hS.ext.trans (Ext.drewN w q)) (Nat.le_refl _) (fun _ _ _ => rfl)
    exact ⟨_, rfl, h1, hO.sub_LD, h2, .nil 1 _⟩
  · have hlt : ∀ {k : Nat} {o : Obj}, w.heap[k]? = some o → k < w.heap.size := fun h => (Array.getElem?_eq_some_iff.1 h).1
    have hne : b ≠ g := fun e => absurd (hS.dis 1000000 1000003 _ _ _ _ b (hg 1000000 _ (by simp [LD, hof, hget, hadd]; rfl)) hvg hv0 hu rfl (by rw [e]; rfl)) (by decide)
    have hnm : mb ≠ g := fun e => absurd (hS.dis 1000001 1000003 _ _ _ _ mb (hg 1000001 _ (by simp [LD, hof, hget, hadd]; rfl)) hvg hv1 hu rfl (by rw [e]; rfl)) (by decide)
    have hcell : w.cell? ⟨b, 0, none⟩ = some (.map (some mb)) := by simp [World.cell?, hh]
    have hgc : ∀ j (h : j < ns.length), w.cell? ⟨g, 0 + j, none⟩ = some (.string ns[j]) := by
      have hflat : (List.range ns.length).flatMap xs = ns.map Value.string := by
        rw [qit (g := fun i => [Value.string (ns[i]?.getD ⟨#[]⟩)]) (fun i hi => ?_)]
        · clear hrow hvg hreps hown hvs htk
          have : ∀ l : List ByteArray, (List.range l.length).flatMap (fun i => [Value.string (l[i]?.getD ⟨#[]⟩)]) = l.map Value.string := fun l => by
            rw [← List.map_eq_flatMap]
            refine List.ext_getElem (by simp) fun i h1 h2 => ?_
            simp at h2
            simp [h2]
          exact this ns
        · have hi' : i < ns.length := List.mem_range.1 hi
          obtain ⟨hl, hr⟩ := hrow i hi'
          obtain ⟨v, vs', e, hv, hvs'⟩ := (show Reps _ _ w (xs i) [.d (.lit (.string (ns[i]?.getD ⟨#[]⟩)))] from hr).uncons
          obtain rfl := hvs'.unnil
          obtain rfl := hv.lit
          exact e
      intro j h
      rw [Nat.mul_one, hflat] at htk
      have e : (cur.toList.take ns.length)[j]? = some (.string ns[j]) := by rw [htk]; simp [h]
      rw [List.getElem?_take] at e
      simp [h] at e
      simp [World.cell?, hgh, e]
    have hH : Holds Value.string w g 0 ns.toArray := fun j hj => by
      have hj' : j < ns.length := by simpa using hj
      rw [hgc j hj']
      simp [hj', World.frozen?, hgh]
    have hcon := AnyE.slices_DeleteFunc z58 Value.string (fun _ => rfl) (fun x => !hasN S x) 99 #[.pointer (some ⟨b, 0, none⟩)] (enters_of Tryz.func99 (by kernel_rfl) rfl) ⟨#[]⟩ Tryz.zeroValue9 g 0 cap ns.toArray w
      (fun W x hb => qmf ((hb.cell (p := ⟨b, 0, none⟩) (hlt hh)).trans hcell) ((hb.block mb (hlt hmh)).trans hmh) hall.1 hf x)
      (fun n os dk x hs => qmf (by
        unfold sortWorld
        rw [cell?_grow _ _ _ (by show b < (putRow _ _ _ _ _).heap.size; rw [size_putRow]; exact hlt hh), cell?_putRow_other _ _ g 0 _ _ (Or.inl hne)]
        exact hcell) (mb := mb) (ent := ent) (clock := clock) (by
        unfold sortWorld grow
        have h0 := qa6 Value.string (Sort.ahead w n) g 0 dk hnm
        have h1 : mb < (putRow Value.string (Sort.ahead w n) g 0 dk).heap.size := by rw [size_putRow]; exact hlt hmh
        show ((putRow Value.string (Sort.ahead w n) g 0 dk).heap ++ os)[mb]? = _
        rw [Array.getElem?_append_left h1, h0]
        exact hmh) hall.1 hf x) hH (by simp; unfold maxLen at hcap; omega) (by simpa using hn)
    simp only [List.size_toArray, Bool.not_not] at hcon
    refine (show Calls Tryz.prog 97 _ w _ from hcon).mono ?_
    rintro e w' ⟨rfl, q, rfl⟩
    obtain ⟨h1, h2⟩ := hS.spend (w' := putRow Value.string (Sort.ahead w q) g 0 (ns.filter (fun x => hasN S x) ++ List.replicate (ns.length - (ns.filter fun x => hasN S x).length) (⟨#[]⟩ : ByteArray)).toArray) hvg hu (fun _ => trivial) (show Ext W0 _ from ⟨hS.ext.os, hS.ext.tape, hS.ext.output, by rw [size_putRow]; exact hS.ext.size, fun k hk => (qa6 Value.string (Sort.ahead w q) g 0 _ (by omega)).trans (hS.ext.block k hk)⟩) (by rw [size_putRow]; exact Nat.le_refl _)
      (fun k hk _ => qa6 Value.string (Sort.ahead w q) g 0 _ (fun e => hk (by rw [e]; rfl)))
    refine ⟨_, rfl, h1, hO.sub_LD, h2, ?_⟩
    have hfl : (ns.filter fun x => hasN S x).length ≤ ns.length := List.length_filter_le _ _
    have hX : ∀ q', ¬ XOf X0 γ (hdel (qg (hof (LD S ns)) Hf) 1000003) g q' := by
      rintro q' (h | ⟨id, ob, v, h3, h4, h5, _⟩)
      · exact absurd (hS.hx g q' h) (by omega)
      · rw [q2c] at h3
        split at h3
        · cases h3
        · rename_i hne'
          exact hne' (hS.dis _ _ _ _ _ _ g hvg h3 hu h4 rfl h5)
    refine .sl g 0 cap 1 _ _ (fun i => [Value.string ((ns.filter fun x => hasN S x)[i]?.getD ⟨#[]⟩)]) (by omega) hcap (by rw [size_putRow]; exact hlt hgh) (fun i _ j _ => hX _) (fun i _ => ⟨rfl, rfl⟩) (fun i hi j v hv => ?_) (fun i hi j h h' => ?_)
    · cases j with
      | succ j => simp at hv
      | zero =>
        simp at hv
        subst hv
        have hc := cell?_putRow Value.string (Sort.ahead w q) g 0 ns.toArray (ns.filter (fun x => hasN S x) ++ List.replicate (ns.length - (ns.filter fun x => hasN S x).length) (⟨#[]⟩ : ByteArray)).toArray (holds_ahead _ _ _ _ _ _ hH) (by simp; omega) i (by simp; omega)
        rw [Nat.mul_one, Nat.add_zero, hc]
        generalize (ns.filter fun x => hasN S x) = fl at hi
        generalize ns.length - fl.length = r
        rw [getElem!_pos _ i (by simp; omega)]
        simp [List.getElem_append_left hi, hi]
    · cases j with
      | succ j => simp at h
      | zero => exact .lit _
end Go.Proofs.YtgadlpdbkohlbaaGreat
namespace Go.Proofs.YtgadlpdbkohlbaaGreat
open Go.RowKit
def qk5 (m : Module) (roots : List ByteArray) : List ByteArray := roots.foldl (dfs m (m.funcs.length + 1)) []
def qun (m : Module) (roots : List ByteArray) : List ByteArray := (q90 (qn m)).filter fun s => hasN (qk5 m roots) s
def tauR (c : Nat) : Nat → Nat := fun i => if i = 1000000 then 1 else if i = 1000001 then 0 else if i = 1000002 then 2 else c
theorem left_le (m : Module) (S : List ByteArray) : left m S < m.funcs.length + 1 := Nat.lt_succ_of_le (List.length_filter_le _ _)
set_option maxRecDepth 10000 in
theorem z5o (m : Module) (hm : Small m) (roots : List ByteArray) (hr : roots.length ≤ 1048576) : APure Tryz.prog 69 [.agg (q8 m), q2k roots] (q2k (qun m roots)) := by
 refine qb _ _ Tryz.func69 (by kernel_rfl) qwm qx1 rfl rfl (fun _ => ?_)
 simp [qjl, qk2]
 refine qe (κ := Nat) (fun k => k ≤ roots.length) (fun k => roots.length - k) (fun k => [(sl 13, .int k), (sl 5, .ptr 1 0), (sl 6, .ptr 2 0), (sl 9, .d .top), (sl 10, .d .top)])
  (fun k => [(0, .map .string ((roots.take k).foldl (dfs m (m.funcs.length + 1)) []).length (mapN ((roots.take k).foldl (dfs m (m.funcs.length + 1)) []))), (1, .box [.mp 0]), (2, .box [.fn 95 [.ptr 1 0, .d (.cref (q8 m) 0), .ptr 2 0]])]) 3 0 (srcs [(0, .id 2), (1, .id 3), (2, .id 5)]) (by simp) ?_ ?_
 ·simp
  exact ⟨fun k _ => by cases k <;> rfl, DLe.refl _⟩
 rintro k hk
 simp
 refine ⟨fun hlt => ⟨hlt, ?_⟩, fun hge => ?_⟩
 ·have hsucc : (roots.take (k + 1)).foldl (dfs m (m.funcs.length + 1)) [] = dfs m (m.funcs.length + 1) ((roots.take k).foldl (dfs m (m.funcs.length + 1)) []) roots[k] := by
   rw [List.take_succ_eq_append_getElem hlt, List.foldl_append]
   rfl
  obtain ⟨S, hS⟩ : ∃ S, (roots.take k).foldl (dfs m (m.funcs.length + 1)) [] = S := ⟨_, rfl⟩
  rw [hS] at hsucc
  simp only [hS]
  refine q43 (z72 m hm (m.funcs.length + 1) S roots[k] (left_le m S)) (tauR _) rfl [.d (.str roots[k]), .ptr 1 0, .d (.cref (q8 m) 0), .ptr 2 0] (by simp) (by simp) (by simp [hlt]) ?_ ?_ ?_ (by simp [LR, q2x]) ?_
  ·simp [gOf, LR, tauR]
  ·simp [gOf, LR, tauR]
  ·simp [gOf, LR, tauR]
  simp [LR, tauR]
  refine ⟨k + 1, by omega, by omega, srcs [(0, .id 0), (1, .id 1), (2, .id 2)], ?_⟩
  simp [SLeK, hsucc]
  exact q6 (q5 (by omega))
 ·rw [List.take_of_length_le hge]
  refine callv_k (ds := [.agg (q8 m)]) _ _ rfl (by simp) rfl (z6n m hm.len) (fun _ _ => rfl) ?_
  simp
  refine q43 (del_eff (qk5 m roots) (q90 (qn m))) (fun i => if i = 1000000 then 1 else if i = 1000001 then 0 else if i = 1000003 then 5 else _) rfl [.own 5 (q90 (qn m)).length, .fn 99 [.ptr 1 0]] (by simp) (by simp) (by simp) ?_ ?_ ?_ (by simp [LD, LD', q2x]) ?_
  ·simp [gOf, LD]
  ·simp [gOf, LD, qk5]
  ·simp [gOf, LD]
  simp [LD, LD']
  exact DLe.refl _
end Go.Proofs.YtgadlpdbkohlbaaGreat
