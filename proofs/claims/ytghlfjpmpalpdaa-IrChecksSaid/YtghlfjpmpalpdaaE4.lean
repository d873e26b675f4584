/- The iterator over a function's instructions. -/
import Derived.Test.YtghlfjpmpalpdaaYld
import Derived.Test.YtghlfjpmpalpdaaE3
namespace Go.Proofs.Ytghlfjpmpalpdaa
open Go.RowKit

/-- A function's instructions. -/
def allIns (f : Func) : List Inst := f.blocks.flatMap (·.ins)

theorem insts_pure (f : Func) : APure Try.prog 48 [.agg (funcC f)] (.fn 67 [.cref (funcC f) 0]) := by
  refine apureG _ _ Try.func48 (by kernel_rfl) t_ir_insts u_ir_insts rfl rfl (fun _ => ?_)
  simp [c_ir_insts, r_ir_insts]
  exact DLe.refl _

theorem tr67 {c : Code} {ac : ACode} (h : trCode Try.prog 8 27 [] [] (drOk 8) c = some ac) : TrCode Try.prog 8 27 c ac :=
  trCode_sound (fun _ _ _ hnd hl htr hd => regOk_draw mixed hnd hl htr hd) h

def yv (l : Nat) : AV := .d (.lit (.func (.yield l) #[] #[]))
/-- Ahead of the blocks. -/
def EO (l : Nat) (f : Func) (k : Nat) : T := setL (.leaf (.d .top)) [(sl 0, yv l), (sl 8, .d (blocksD f.blocks)), (sl 9, .int f.blocks.length), (sl 10, .int k)]
def EO' (l : Nat) (f : Func) (k : Nat) : T := setL (.leaf (.d .top)) [(sl 0, yv l), (sl 8, .d (blocksD f.blocks)), (sl 9, .int f.blocks.length), (sl 10, .int k), (sl 11, .d (.lit (.bool (decide (k < f.blocks.length)))))]
/-- Ahead of a block's instructions. -/
def EB (l : Nat) (f : Func) (k : Nat) (b : Block) : T := setL (EO l f k) [(sl 4, .d (.cref (blockC b) 0))]
def EI (l : Nat) (f : Func) (k : Nat) (b : Block) (m : Nat) : T := setL (EO l f k) [(sl 15, .d (insD b.ins)), (sl 16, .int b.ins.length), (sl 17, .int m)]
def EI' (l : Nat) (f : Func) (k : Nat) (b : Block) (m : Nat) : T := setL (EI l f k b m) [(sl 18, .d (.lit (.bool (decide (m < b.ins.length)))))]
def EJ (l : Nat) (f : Func) (k : Nat) (b : Block) (m : Nat) (i : Inst) : T := setL (EI l f k b m) [(sl 6, .d (.cref (instC i) 0))]
def EJ1 (l : Nat) (f : Func) (k : Nat) (b : Block) (m : Nat) (i : Inst) : T := setL (EJ l f k b m i) [(sl 21, yv l)]
def EJ2 (l : Nat) (f : Func) (k : Nat) (b : Block) (m : Nat) (i : Inst) : T := setL (EJ1 l f k b m i) [(sl 22, .d (.agg (instC i)))]
def EJ3 (l : Nat) (f : Func) (k : Nat) (b : Block) (m : Nat) : T := setL (EI l f k b m) [(sl 23, .d (.lit (.bool true)))]
def EJ4 (l : Nat) (f : Func) (k : Nat) (b : Block) (m : Nat) : T := setL (EI l f k b m) [(sl 24, .d (.lit (.bool false)))]
def EN : T := setL (.leaf (.d .top)) [(sl 23, .d (.lit (.bool false)))]
def EN' : T := setL (.leaf (.d .top)) [(sl 24, .d (.lit (.bool true)))]

/-- How many instructions lie ahead of block k. -/
def cnt (f : Func) (k : Nat) : Nat := ((f.blocks.take k).flatMap (·.ins)).length
theorem cnt_zero (f : Func) : cnt f 0 = 0 := rfl
theorem cnt_succ {f : Func} {k : Nat} (h : k < f.blocks.length) : cnt f (k + 1) = cnt f k + f.blocks[k].ins.length := by
  unfold cnt
  rw [List.take_succ_eq_append_getElem h, List.flatMap_append, List.length_append]
  simp
theorem cnt_all (f : Func) : cnt f f.blocks.length = (allIns f).length := by
  unfold cnt allIns
  rw [List.take_of_length_le (Nat.le_refl _)]
theorem ins_at {f : Func} {k m : Nat} (h : k < f.blocks.length) (hm : m < f.blocks[k].ins.length) : (allIns f)[cnt f k + m]? = some f.blocks[k].ins[m] := by
  have e : allIns f = (f.blocks.take k).flatMap (·.ins) ++ (f.blocks[k].ins ++ (f.blocks.drop (k + 1)).flatMap (·.ins)) := by
    have e2 : f.blocks = f.blocks.take k ++ (f.blocks[k] :: f.blocks.drop (k + 1)) := by rw [← List.drop_eq_getElem_cons h, List.take_append_drop]
    unfold allIns
    conv => lhs; rw [e2]
    rw [List.flatMap_append, List.flatMap_cons]
  rw [e, List.getElem?_append_right (by unfold cnt; omega)]
  rw [show cnt f k + m - ((f.blocks.take k).flatMap (·.ins)).length = m by unfold cnt; omega]
  rw [List.getElem?_append_left hm, List.getElem?_eq_getElem hm]

theorem op_tmp (n : Nat) (h : n < 256) : TrOpd 8 (.tmp n) (.s (sl n)) := by
  have := TrOpd.s (D := 8) (sl n) (bits_length 8 n)
  rwa [idx_bits 8 n (by omega)] at this

set_option maxRecDepth 10000 in
set_option maxHeartbeats 2000000 in
theorem insts1_seq (f : Func) : ASeq Try.prog 67 [.cref (funcC f) 0] ((allIns f).map fun i => [.agg (instC i)]) := by
  refine ⟨⟨_, _, Try.func67, by kernel_rfl, rfl⟩, fun X w us hX hus l J Jx hJe hJxe hJY hY0 hJ0 => ?_⟩
  have hY : ∀ k Y W (vs : Array Value) i, (allIns f)[k]? = some i → J k Y W → DReps Y W vs.toList [.agg (instC i)] → YieldAt Fence.wide 0 Try.prog l vs W fun e W' => (e = .returned (.bool true) ∧ ∃ Y', J (k + 1) Y' W' ∧ KB 0 Y Y' W W') ∨ (e = .returned (.bool false) ∧ Jx W') := by
    intro k Y W vs i hi hJ hvs
    obtain ⟨hk, he⟩ := List.getElem?_eq_some_iff.1 hi
    exact hY0 k Y W vs (by simpa using hk) hJ (by simpa [he] using hvs)
  clear hY0
  refine (callsIn_wide (n := 0)).1 (callsIn_of_wp (F := Fence.wide) Try.func67 rfl trivial ?_ rfl)
  have hargs : DReps X w (#[Value.func (.yield l) #[] #[]] ++ us).toList [.lit (.func (.yield l) #[] #[]), .cref (funcC f) 0] := by
    simpa using DReps.cons (.lit _) hus
  have hP0 : P1 27 X _ w _ := P1.init hX (by omega) (by simp) hargs
  refine wpIn_seq (wpIn_mono (stretch (e' := EO l f 0) (ac := .reg [⟨(some (sl 7)), none, (.fld (.s (sl 1)) 3), none⟩, ⟨(some (sl 8)), none, (.ld true (.s (sl 7)) none), none⟩, ⟨(some (sl 9)), none, (.len false (.s (sl 8))), none⟩, ⟨(some (sl 10)), none, (.mv (.c (.int .i64 0))), none⟩]) (tr67 (by kernel_rfl)) rfl hP0 (G_start _ (by simp [EO, yv]))) ?_)
  rintro x a w1 ⟨rfl, hx, hP⟩
  refine wpIn_block ?_
  refine wpIn_loop_n (fun j a W => ∃ k Y, j = f.blocks.length - k ∧ k ≤ f.blocks.length ∧ P1 27 Y a W (EO l f k) ∧ J (cnt f k) Y W) ⟨_, 0, X, rfl, Nat.zero_le _, hP, hJe _ _ _ _ hJ0 hx⟩ ?_
  rintro j a W ⟨k, Y, rfl, hk, hP, hJ⟩
  have hbl := hP.len (p := sl 8) rfl rfl
  refine wpIn_seq (wpIn_mono (stretch (e' := EO' l f k) (ac := .reg [⟨(some (sl 11)), none, (.bin .lss (.s (sl 10)) (.s (sl 9))), none⟩]) (tr67 (by kernel_rfl)) rfl hP (G_start _ (by simp [EO, EO', yv]))) ?_)
  rintro x a1 W1 ⟨rfl, hx1, hP1⟩
  refine wpIn_seq (condStep hP1 (op_tmp 11 (by omega)) (b := decide (k < f.blocks.length)) rfl (fun hlt => wpIn_skip ?_) (fun hge => wpIn_exit ?_))
  rotate_left
  · have hkl : k = f.blocks.length := by simp at hge; omega
    simp only [Exit.then, Exit.inBlock, ↓reduceIte]
    refine ⟨hP1.defers, _, results_none rfl _ _ _, ⟨_, rfl⟩, .inl ⟨Y, ?_⟩⟩
    rw [List.length_map, ← cnt_all, ← hkl]
    exact hJe _ _ _ _ hJ hx1
  have hlt : k < f.blocks.length := by simpa using hlt
  have hJ1 := hJe _ _ _ _ hJ hx1
  clear hJ hP hx1
  refine wpIn_seq (wpIn_block ?_)
  obtain ⟨b, hb⟩ : ∃ b, b = f.blocks[k] := ⟨_, rfl⟩
  have hb' : f.blocks[k]?.getD default = b := by rw [hb]; exact getD_some hlt
  refine wpIn_seq (wpIn_mono (stretch (e' := EB l f k b) (ac := .seq (.reg [⟨(some (sl 12)), none, (.idx true (.s (sl 8)) (.s (sl 10)) 8), none⟩, ⟨(some (sl 13)), none, (.ld true (.s (sl 12)) (some 8)), none⟩, ⟨(some (sl 4)), none, (.new [(.int .i64 0), (.slice none 0 0), (.int .i64 0), (.int .i64 0), (.int .i64 0), (.slice none 0 0), (.int .i64 0), (.slice none 0 0)]), none⟩, ⟨none, none, (.ini 1 (.s (sl 4)) (.s (sl 13)) 8), none⟩]) (.frz (sl 4))) (tr67 (by kernel_rfl)) rfl hP1 (G_start _ (by simp [EO, EO', EB, yv, hlt]; rw [hb]; exact DLe.refl _))) ?_)
  rintro x a2 W2 ⟨rfl, hx2, hP2⟩
  have hJ2 := hJe _ _ _ _ hJ1 hx2
  clear hJ1 hP1 hx2
  refine wpIn_seq (wpIn_mono (stretch (e' := EI l f k b 0) (ac := .reg [⟨(some (sl 14)), none, (.fld (.s (sl 4)) 1), none⟩, ⟨(some (sl 15)), none, (.ld true (.s (sl 14)) none), none⟩, ⟨(some (sl 16)), none, (.len false (.s (sl 15))), none⟩, ⟨(some (sl 17)), none, (.mv (.c (.int .i64 0))), none⟩]) (tr67 (by kernel_rfl)) rfl hP2 (G_start _ (by simp [EO, EB, EI, yv]))) ?_)
  rintro x a3 W3 ⟨rfl, hx3, hP3⟩
  have hJ3 := hJe _ _ _ _ hJ2 hx3
  clear hJ2 hP2 hx3
  refine wpIn_block ?_
  refine wpIn_loop_n (fun j a W => ∃ m Y, j = b.ins.length - m ∧ m ≤ b.ins.length ∧ P1 27 Y a W (EI l f k b m) ∧ J (cnt f k + m) Y W) ⟨_, 0, Y, rfl, Nat.zero_le _, hP3, hJ3⟩ ?_
  clear hJ3 hP3
  rintro j a W ⟨m, Y, rfl, hm, hP, hJ⟩
  have hil := hP.len (p := sl 15) rfl rfl
  refine wpIn_seq (wpIn_mono (stretch (e' := EI' l f k b m) (ac := .reg [⟨(some (sl 18)), none, (.bin .lss (.s (sl 17)) (.s (sl 16))), none⟩]) (tr67 (by kernel_rfl)) rfl hP (G_start _ (by simp [EO, EI, EI', yv]))) ?_)
  rintro x a1 W1 ⟨rfl, hx1, hP1⟩
  have hJ1 := hJe _ _ _ _ hJ hx1
  clear hJ hP hx1
  refine wpIn_seq (condStep hP1 (op_tmp 18 (by omega)) (b := decide (m < b.ins.length)) rfl (fun hml => wpIn_skip ?_) (fun hge => wpIn_exit ?_))
  rotate_left
  · have hml : m = b.ins.length := by simp at hge; omega
    simp only [Exit.then, Exit.inBlock, ↓reduceIte]
    refine wpIn_mono (stretch (e' := EO l f (k + 1)) (ac := .reg [⟨(some (sl 26)), none, (.bin .add (.s (sl 10)) (.c (.int .i64 1))), none⟩, ⟨(some (sl 10)), none, (.mv (.s (sl 26))), none⟩]) (tr67 (by kernel_rfl)) rfl hP1 (G_start _ (by simp [EO, EI, EI', yv]; exact DLe_int (wrap_succ (by omega))))) ?_
    rintro x a4 W4 ⟨rfl, hx4, hP4⟩
    refine ⟨_, ?_, k + 1, Y, rfl, hlt, hP4, ?_⟩
    · omega
    · rw [cnt_succ hlt, ← hb, ← hml]
      exact hJe _ _ _ _ hJ1 hx4
  have hml : m < b.ins.length := by simpa using hml
  obtain ⟨i, hi⟩ : ∃ i, i = b.ins[m] := ⟨_, rfl⟩
  have hiat : (allIns f)[cnt f k + m]? = some i := by
    subst hb
    rw [ins_at hlt hml, hi]
  refine wpIn_seq (wpIn_block ?_)
  refine wpIn_seq (wpIn_mono (stretch (e' := EJ l f k b m i) (ac := .seq (.reg [⟨(some (sl 19)), none, (.idx true (.s (sl 15)) (.s (sl 17)) 6), none⟩, ⟨(some (sl 20)), none, (.ld true (.s (sl 19)) (some 6)), none⟩, ⟨(some (sl 6)), none, (.new [(.int .i64 0), (.int .i64 0), (.int .i64 0), (.int .u64 0), (.string ⟨#[]⟩), (.slice none 0 0)]), none⟩, ⟨none, none, (.ini 1 (.s (sl 6)) (.s (sl 20)) 6), none⟩]) (.frz (sl 6))) (tr67 (by kernel_rfl)) rfl hP1 (G_start _ (by simp [EO, EI, EI', EJ, yv, hml]; rw [hi]; exact DLe.refl _))) ?_)
  rintro x a2 W2 ⟨rfl, hx2, hP2⟩
  have hJ2 := hJe _ _ _ _ hJ1 hx2
  clear hJ1 hP1 hx2
  -- the call of yield
  refine wpIn_seq (wpIn_mono (yieldReg (l := l) (a0 := ⟨some (sl 21), none, .mv (.s (sl 0)), none⟩) (a1 := ⟨some (sl 22), none, .ld true (.s (sl 6)) (some 6), none⟩) (a2 := ⟨some (sl 23), none, .call true (.s (sl 21)) [.s (sl 22)], none⟩) (a3 := ⟨some (sl 24), none, .not (.s (sl 23)), none⟩)
    (p2 := sl 23) (e1 := EJ1 l f k b m i) (e2 := EJ2 l f k b m i) (e4 := EJ4 l f k b m) (f4 := EN') (xd := .agg (instC i)) (JT := J (cnt f k + (m + 1))) (Jx := Jx) (by kernel_rfl) (by kernel_rfl) rfl rfl rfl rfl (by decide) (op_tmp 21 (by omega)) (op_tmp 22 (by omega)) hP2
    rfl (by simp [EO, EI, EJ, EJ1, yv]) rfl (by simp [EO, EI, EJ, EJ1, EJ2, yv]) rfl rfl
    (fun W' vs hx hvs => hY _ _ _ vs i hiat (hJe _ _ _ _ hJ2 hx) hvs) (hJY _) (hJe _) hJxe rfl (by simp [EO, EI, EJ, EJ1, EJ2, EJ4, yv]) (by simp [EN'])) ?_)
  rintro x a6 W6 ⟨rfl, (⟨Y', hJ6, hP6⟩ | ⟨hJx6, hP6⟩)⟩
  · refine condStep hP6 (op_tmp 24 (by omega)) (b := false) rfl (fun h => by cases h) (fun _ => wpIn_skip ?_)
    simp only [Exit.then, Exit.inBlock]
    refine wpIn_mono (stretch (e' := EI l f k b (m + 1)) (ac := .reg [⟨(some (sl 25)), none, (.bin .add (.s (sl 17)) (.c (.int .i64 1))), none⟩, ⟨(some (sl 17)), none, (.mv (.s (sl 25))), none⟩]) (tr67 (by kernel_rfl)) rfl hP6 (G_start _ (by simp [EO, EI, EJ4, yv]; exact DLe_int (wrap_succ (by omega))))) ?_
    rintro x a7 W7 ⟨rfl, hx7, hP7⟩
    exact ⟨_, by omega, m + 1, Y', rfl, hml, hP7, hJe _ _ _ _ hJ6 hx7⟩
  · refine condStep hP6 (op_tmp 24 (by omega)) (b := true) rfl (fun _ => wpIn_ret ?_) (fun h => by cases h)
    simp only [Exit.then, Exit.inBlock]
    exact ⟨hP6.defers, _, results_none rfl _ _ _, ⟨_, rfl⟩, .inr hJx6⟩

end Go.Proofs.Ytghlfjpmpalpdaa
