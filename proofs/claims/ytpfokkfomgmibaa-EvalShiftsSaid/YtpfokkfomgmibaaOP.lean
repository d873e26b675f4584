/- Some texts of one kind, one behind the other. -/
import Derived.Test.YtpfokkfomgmibaaKG
import Derived.Test.YtpfokkfomgmibaaRows
import Derived.ProofKit
import Derived.Deep.Slices
import Derived.SizedLaws
import Derived.Carry
/- What an argument's memory reads as, as plain data with bounds on its bulk: numbers, strings, slices, structs. -/
namespace Go.Proofs.Ytpfokkfomgmibaa
open Go.RowKit

section
variable {H : Type} (enc : TypeId × Value → H) (P : Program) (W : World)

def xNone : Nat → Nat → Prop := fun _ _ => False

/-- All that is weighed stays within reach. -/
def Light (d : DataW H) (t : TypeId) : Prop := ∀ n, n ∈ d.weights P t → n ≤ reachBytes

/-- Values of type t, n cells each, read as C of plain data of which B holds, and which is of size S at most what the reading weighs. -/
def RdT {α : Type} (t : TypeId) (n : Nat) (C : α → List DV) (B : α → Prop) (S : α → Nat) : Prop :=
  P.cellsOf t = n ∧ ∀ fuel cs x, DataW.trod enc P W 0 (fun _ => true) true fuel t cs = some x → Light P x.1 t → ∃ a, DReps xNone W cs (C a) ∧ B a ∧ S a ≤ Rows.uptoBulk x.1

variable {enc P W}

theorem DReps.append {X : Nat → Nat → Prop} {w : World} {vs us : List Value} {xs ys : List DV} (h : DReps X w vs xs) (k : DReps X w us ys) : DReps X w (vs ++ us) (xs ++ ys) := by
  induction vs generalizing xs with
  | nil =>
    have : xs = [] := by have := h.1; simpa using this.symm
    subst this; simpa using k
  | cons v vs ih =>
    cases xs with
    | nil => exact absurd h.1 (by simp)
    | cons a l => exact DReps.cons (h.2 0 (by simp) (by simp)) (ih ⟨by simpa using h.1, fun i hi hi' => h.2 (i + 1) (by simpa using hi) (by simpa using hi')⟩)
theorem DReps.one {X : Nat → Nat → Prop} {w : World} {v : Value} {a : DV} (h : DRep X w v a) : DReps X w [v] [a] := DReps.cons h (DReps.nil _ _)

theorem RdT.map {α β : Type} {t : TypeId} {n : Nat} {C : α → List DV} {B : α → Prop} {C' : β → List DV} {B' : β → Prop} {S : α → Nat} {S' : β → Nat} (h : RdT enc P W t n C B S) (g : α → β) (hC : ∀ a, C a = C' (g a)) (hB : ∀ a, B a → B' (g a)) (hS : ∀ a, S' (g a) ≤ S a) : RdT enc P W t n C' B' S' := by
  refine ⟨h.1, fun fuel cs x hx hl => ?_⟩
  obtain ⟨a, h1, h2, h3⟩ := h.2 fuel cs x hx hl
  exact ⟨g a, hC a ▸ h1, hB a h2, Nat.le_trans (hS a) h3⟩

theorem bounds_i64 {n : Int} (h : (Lit.int .i64 n).wf = true) : -9223372036854775808 ≤ n ∧ n ≤ 9223372036854775807 := by
  have h1 : IntKind.i64.min = -9223372036854775808 := by decide
  have h2 : IntKind.i64.max = 9223372036854775807 := by decide
  simp [Lit.wf, h1, h2] at h
  exact h
theorem bounds_u64 {n : Int} (h : (Lit.int .u64 n).wf = true) : 0 ≤ n ∧ n < 18446744073709551616 := by
  have h1 : IntKind.u64.min = 0 := by decide
  have h2 : IntKind.u64.max = 18446744073709551615 := by decide
  simp [Lit.wf, h1, h2] at h
  omega
theorem rd_int {t : TypeId} (hc : P.cellsOf t = 1) (ht : P.underlying t = some (.int .i64)) : RdT enc P W t 1 (fun n : Int => [.int n]) (fun n => -9223372036854775808 ≤ n ∧ n ≤ 9223372036854775807) (fun _ => 1) := by
  refine ⟨hc, fun fuel cs x hx _ => ?_⟩
  obtain ⟨n, rfl, hx1, hw⟩ := DataW.trod_int ht hx
  refine ⟨n, DReps.one (.lit _), ?_, by rw [hx1]; simp [Rows.uptoBulk]⟩
  have := bounds_i64 hw
  omega
theorem rd_u64 {t : TypeId} (hc : P.cellsOf t = 1) (ht : P.underlying t = some (.int .u64)) : RdT enc P W t 1 (fun n : Nat => [.lit (.int .u64 n)]) (fun n => n < 18446744073709551616) (fun _ => 1) := by
  refine ⟨hc, fun fuel cs x hx _ => ?_⟩
  obtain ⟨n, rfl, hx1, hw⟩ := DataW.trod_int ht hx
  have := bounds_u64 hw
  obtain ⟨m, rfl⟩ := Int.eq_ofNat_of_zero_le this.1
  exact ⟨m, DReps.one (.lit _), by omega, by rw [hx1]; simp [Rows.uptoBulk]⟩
theorem rd_bool {t : TypeId} (hc : P.cellsOf t = 1) (ht : P.underlying t = some .bool) : RdT enc P W t 1 (fun b : Bool => [.bool b]) (fun _ => True) (fun _ => 1) := by
  refine ⟨hc, fun fuel cs x hx _ => ?_⟩
  obtain ⟨b, rfl, hx1⟩ := DataW.trod_bool ht hx
  exact ⟨b, DReps.one (.lit _), trivial, by rw [hx1]; simp [Rows.uptoBulk]⟩
theorem rd_string {t : TypeId} (hc : P.cellsOf t = 1) (ht : P.underlying t = some .string) : RdT enc P W t 1 (fun s : ByteArray => [.str s]) (fun s => s.size ≤ reachBytes) (fun s => s.size + 1) := by
  refine ⟨hc, fun fuel cs x hx hl => ?_⟩
  obtain ⟨s, rfl, rfl, _⟩ := DataW.trod_string ht hx
  refine ⟨s, DReps.one (.lit _), ?_, ?_⟩
  · have := hl s.data.toList.length (by simp [DataW.weights])
    simpa using this
  · simp only [Rows.uptoBulk]
    rw [Array.length_toList]
    exact Nat.le_refl _

theorem weightsAll_mem {e : TypeId} {d : DataW H} : ∀ {l : List (DataW H)}, d ∈ l → ∀ n, n ∈ d.weights P e → n ∈ DataW.weightsAll P e l
  | x :: l, h, n, hn => by
    simp only [DataW.weightsAll, List.mem_append]
    rcases List.mem_cons.1 h with rfl | h
    · exact .inl hn
    · exact .inr (weightsAll_mem h n hn)

theorem bulk_sum {β : Type} (S : β → Nat) (f : Nat → β) (D : Nat → DataW H) : ∀ l : List Nat, (∀ i ∈ l, S (f i) ≤ Rows.uptoBulk (D i)) → ((l.map f).map S).sum ≤ Rows.uptoBulkAll (l.map D)
  | [], _ => Nat.zero_le _
  | i :: l, h => by
    have h1 := h i (by simp)
    have h2 := bulk_sum S f D l fun j hj => h j (by simp [hj])
    simp only [List.map_cons, List.sum_cons, Rows.uptoBulkAll]
    omega

/-- Slices. -/
theorem rd_slice {α : Type} [Inhabited α] {t e : TypeId} {n b : Nat} {C : α → List DV} {B : α → Prop} (hc : P.cellsOf t = 1) (ht : P.underlying t = some (.slice e)) (hn : 0 < n) (hb : P.bytesOf e = b) {S : α → Nat} (hC : ∀ a, (C a).length = n) (h : RdT enc P W e n C B S) :
    RdT enc P W t 1 (fun xs : List α => [.sl n xs.length fun k => C (xs[k]?.getD default)]) (fun xs => (∀ x, x ∈ xs → B x) ∧ xs.length * b ≤ reachBytes) (fun xs => (xs.map S).sum + 1) := by
  refine ⟨hc, fun fuel cs x hx hl => ?_⟩
  obtain ⟨hce, h⟩ := h
  rcases Deep.open_slice ht hx with ⟨rfl, rfl⟩ | ⟨a, len, cap, m, n', D, Pl, rfl, hb0, hlc, hcm, hm, rfl, hel⟩
  · exact ⟨[], DReps.one (.nil _ _), ⟨fun x hx => by simp at hx, by simp⟩, by simp [Rows.uptoBulk]⟩
  · simp only [if_true] at hm
    subst hm
    rw [hce] at hel
    have hw : ((List.range len).map D).length + ((List.range (m - len)).map fun j => D (len + j)).length = m := by simp; omega
    have hlw : m * b ≤ reachBytes := by
      refine hl _ ?_
      simp only [DataW.weights, ht]
      rw [hw, hb]
      simp
    have hDl : ∀ i, i < len → Light P (D i) e := by
      intro i hi k hk
      refine hl k ?_
      simp only [DataW.weights, ht]
      refine List.mem_cons_of_mem _ (List.mem_append_left _ (weightsAll_mem (d := D i) ?_ k hk))
      exact List.mem_map.2 ⟨i, List.mem_range.2 hi, rfl⟩
    have hall : ∀ i, i < len → ∃ p : α × List Value, W.cells? 0 (a.add (i * n)) n = some p.2 ∧ DReps xNone W p.2 (C p.1) ∧ B p.1 ∧ S p.1 ≤ Rows.uptoBulk (D i) := by
      intro i hi
      obtain ⟨cs', h1, h2⟩ := hel i (by omega)
      obtain ⟨y, h3, h4⟩ := h _ _ _ h2 (hDl i hi)
      exact ⟨(y, cs'), h1, h3, h4⟩
    haveI : Inhabited (α × List Value) := ⟨(default, [])⟩
    obtain ⟨f, hf⟩ := Deep.choose_lt hall
    have hxs : ((List.range len).map fun i => (f i).1).length = len := by simp
    have hget : ∀ i, i < len → ((List.range len).map fun i => (f i).1)[i]?.getD default = (f i).1 := fun i hi => by simp [hi]
    refine ⟨(List.range len).map fun i => (f i).1, DReps.one ?_, ⟨?_, ?_⟩, ?_⟩
    · rw [hxs]
      by_cases hz : m = 0
      · subst hz
        obtain rfl : len = 0 := by omega
        exact .emp _ _ _
      · -- the first cell is there
        obtain ⟨cs0, h0, _⟩ := hel 0 (by omega)
        obtain ⟨_, hl0, hc0⟩ := World.cells?_some h0
        have hc00 := hc0 0 hn
        rw [List.getElem?_eq_getElem (by omega)] at hc00
        have hspot : a.spot = none := by
          simp [Addr.add] at hc00
          unfold World.cell? at hc00
          split at hc00
          · split at hc00
            · cases hc00
            · rename_i hs
              simpa using hs
          · cases hc00
        have hblk : a.block < W.heap.size := by
          have := World.block_lt_of_cell? W _ hc00
          simpa [Addr.add] using this
        obtain ⟨ab, ao, aq⟩ := a
        simp only at hspot hblk
        subst hspot
        refine .sl ab ao m n len _ (fun i => (f i).2) hlc hcm hblk (fun _ _ _ _ h => h) (fun i hi => ?_) (fun i hi j v hv => ?_) (fun i hi j hj hj' => ?_)
        · rw [hget i hi]
          exact ⟨hC _, (World.cells?_some (hf i hi).1).2.1⟩
        · obtain ⟨_, hl1, hc1⟩ := World.cells?_some (hf i hi).1
          have hj : j < n := by have := (List.getElem?_eq_some_iff.1 hv).1; omega
          have := hc1 j hj
          rw [hv] at this
          rw [addr_add, addr_add, Nat.add_assoc] at this
          rw [Nat.add_assoc]
          exact this
        · have h3 := (hf i hi).2.1
          have e := hget i hi
          simp only [e] at hj' ⊢
          exact h3.2 j hj hj'
    · intro y hy
      obtain ⟨i, hi, rfl⟩ := List.mem_map.1 hy
      exact (hf i (List.mem_range.1 hi)).2.2.1
    · rw [hxs]
      exact Nat.le_trans (Nat.mul_le_mul_right _ hlc) hlw
    · have := bulk_sum S (fun i => (f i).1) D (List.range len) fun i hi => (hf i (List.mem_range.1 hi)).2.2.2
      simp only [Rows.uptoBulk]
      omega

/-- A struct's fields from one offset on. -/
def RdF {α : Type} (enc : TypeId × Value → H) (P : Program) (W : World) (fs : List Field) (o n : Nat) (C : α → List DV) (B : α → Prop) (S : α → Nat) : Prop :=
  ∀ (fuel : Nat) (cs : List Value) (xs : List (DataW H × List MemPlace)), xs.length = fs.length → (∀ (i : Nat) (f : Field), fs[i]? = some f → DataW.trod enc P W 0 (fun _ => true) true fuel f.type ((cs.drop f.offset).take (P.cellsOf f.type)) = xs[i]?) →
    (∀ k, k ∈ DataW.weightsEach P (fs.map (·.type)) (xs.map (·.1)) → k ≤ reachBytes) → ∃ a, DReps xNone W ((cs.drop o).take n) (C a) ∧ B a ∧ S a ≤ Rows.uptoBulkAll (xs.map (·.1))

theorem rd_nil (o : Nat) : RdF enc P W [] o 0 (fun _ : Unit => []) (fun _ => True) (fun _ => 0) := by
  intro fuel cs xs hl _ _
  exact ⟨(), by simpa using DReps.nil _ _, trivial, Nat.zero_le _⟩
theorem rd_cons {α β : Type} {f : Field} {fs : List Field} {o n m : Nat} {C : α → List DV} {B : α → Prop} {C' : β → List DV} {B' : β → Prop} {S : α → Nat} {S' : β → Nat} (ho : f.offset = o) (h : RdT enc P W f.type n C B S) (k : RdF enc P W fs (o + n) m C' B' S') :
    RdF enc P W (f :: fs) o (n + m) (fun p : α × β => C p.1 ++ C' p.2) (fun p => B p.1 ∧ B' p.2) (fun p => S p.1 + S' p.2) := by
  intro fuel cs xs hl hx hw
  cases xs with
  | nil => simp at hl
  | cons x xs =>
    have h0 := hx 0 f rfl
    rw [ho, h.1] at h0
    obtain ⟨a, h1, h2, h5⟩ := h.2 fuel _ x h0 (fun j hj => hw j (by simp [DataW.weightsEach, hj]))
    obtain ⟨b, h3, h4, h6⟩ := k fuel cs xs (by simpa using hl) (fun i f' hf => hx (i + 1) f' hf) (fun j hj => hw j (by simp only [List.map_cons, DataW.weightsEach, List.mem_append]; exact .inr hj))
    refine ⟨(a, b), ?_, ⟨h2, h4⟩, by simp only [List.map_cons, Rows.uptoBulkAll]; omega⟩
    have e : (cs.drop o).take (n + m) = (cs.drop o).take n ++ (cs.drop (o + n)).take m := by
      rw [List.take_add, List.drop_drop]
    rw [e]
    exact h1.append h3
theorem rd_struct {α : Type} {t : TypeId} {fs : Array Field} {l : List Field} {n : Nat} {C : α → List DV} {B : α → Prop} (ht : P.underlying t = some (.struct fs)) (hl : fs.toList = l) {S : α → Nat} (hc : P.cellsOf t = n) (h : RdF enc P W l 0 n C B S) : RdT enc P W t n C B S := by
  refine ⟨hc, fun fuel cs x hx hw => ?_⟩
  obtain ⟨xs, k, rfl, rfl, hlen, hxl, hxs⟩ := DataW.trod_struct ht hx
  subst hl
  obtain ⟨a, h1, h2, h3⟩ := h k cs xs (by simpa using hxl) (fun i f hf => hxs i f (by simpa using hf)) (fun j hj => hw j (by simpa only [DataW.weights, ht] using hj))
  refine ⟨a, ?_, h2, Nat.le_trans h3 (by simp only [Rows.uptoBulk]; omega)⟩
  have : (cs.drop 0).take n = cs := by rw [List.drop_zero, List.take_of_length_le (by omega)]
  rw [this] at h1
  exact h1

end

end Go.Proofs.Ytpfokkfomgmibaa
/- What arguments of this program's own types read as: instructions, blocks, functions, modules. -/
namespace Go.Proofs.Ytpfokkfomgmibaa
open Go.RowKit

/-- How much an argument weighs: values and letters, each time that they are reached. -/
def szInst (i : Inst) : Nat := i.name.size + i.args.length + 6
def szBlock (b : Block) : Nat := (b.ins.map szInst).sum + b.args.length + b.elses.length + 8
def szFunc (f : Func) : Nat := f.name.size + (f.blocks.map szBlock).sum + 4
def szGlob (g : Glob) : Nat := g.name.size + 4
theorem sum_ones {α : Type} (l : List α) : (l.map fun _ => 1).sum = l.length := by
  induction l with
  | nil => rfl
  | cons x l ih => simp only [List.map_cons, List.sum_cons, List.length_cons, ih]; omega

def bInst (i : Inst) : Prop := i.args.length ≤ 17592186044416 ∧ i.k < 18446744073709551616
def bBlock (b : Block) : Prop := (∀ i ∈ b.ins, bInst i) ∧ b.args.length ≤ 17592186044416 ∧ b.elses.length ≤ 17592186044416 ∧ b.ins.length ≤ 1954687338268
def bFunc (f : Func) : Prop := (∀ b ∈ f.blocks, bBlock b) ∧ f.blocks.length ≤ 2000000000000

section
variable {H : Type} {enc : TypeId × Value → H} {W : World}

theorem rdInt : RdT enc Try.prog W 3 1 (fun n : Int => [.int n]) (fun n => -9223372036854775808 ≤ n ∧ n ≤ 9223372036854775807) (fun _ => 1) := rd_int (by kernel_rfl) Try.underlying3
theorem rdU64 : RdT enc Try.prog W 29 1 (fun n : Nat => [.lit (.int .u64 n)]) (fun n => n < 18446744073709551616) (fun _ => 1) := rd_u64 (by kernel_rfl) Try.underlying29
theorem rdBool : RdT enc Try.prog W 4 1 (fun b : Bool => [.bool b]) (fun _ => True) (fun _ => 1) := rd_bool (by kernel_rfl) Try.underlying4
theorem rdStr : RdT enc Try.prog W 9 1 (fun s : ByteArray => [.str s]) (fun s => s.size ≤ reachBytes) (fun s => s.size + 1) := rd_string (by kernel_rfl) Try.underlying9

theorem rdInts : RdT enc Try.prog W 57 1 (fun xs : List Int => [intsD xs]) (fun xs => xs.length ≤ 17592186044416) (fun xs => xs.length + 1) :=
  (rd_slice (C := intC) (n := 1) (b := 8) (by kernel_rfl) Try.underlying57 (by decide) (by kernel_rfl) (fun _ => rfl) rdInt).map id (fun _ => rfl) (fun xs h => by
    have := h.2
    unfold reachBytes at this
    simp only [id]
    omega) (fun xs => by rw [sum_ones]; exact Nat.le_refl _)

set_option maxRecDepth 100000 in
theorem rdInst : RdT enc Try.prog W 64 6 instC bInst szInst := by
  have h := rd_struct (enc := enc) (W := W) (n := 6) Try.underlying64 rfl (by kernel_rfl) (rd_cons (n := 1) (m := 5) rfl rdInt (rd_cons (n := 1) (m := 4) rfl rdInt (rd_cons (n := 1) (m := 3) rfl rdInt (rd_cons (n := 1) (m := 2) rfl rdU64 (rd_cons (n := 1) (m := 1) rfl rdStr (rd_cons (n := 1) (m := 0) rfl rdInts (rd_nil 6)))))))
  exact h.map (fun p => ⟨p.1, p.2.1, p.2.2.1, p.2.2.2.1, p.2.2.2.2.1, p.2.2.2.2.2.1⟩) (fun _ => rfl) (fun p h => ⟨h.2.2.2.2.2.1, h.2.2.2.1⟩) (fun p => by simp only [szInst]; omega)

theorem rdIns : RdT enc Try.prog W 60 1 (fun xs : List Inst => [insD xs]) (fun xs => (∀ x ∈ xs, bInst x) ∧ xs.length ≤ 1954687338268) (fun xs => (xs.map szInst).sum + 1) :=
  (rd_slice (C := instC) (n := 6) (b := 72) (by kernel_rfl) Try.underlying60 (by decide) (by kernel_rfl) (fun _ => rfl) rdInst).map id (fun _ => rfl) (fun xs h => ⟨h.1, by
    have := h.2
    unfold reachBytes at this
    simp only [id]
    omega⟩) (fun _ => Nat.le_refl _)

set_option maxRecDepth 100000 in
theorem rdTerm : RdT enc Try.prog W 59 6 termC (fun b => b.args.length ≤ 17592186044416 ∧ b.elses.length ≤ 17592186044416) (fun b => b.args.length + b.elses.length + 6) := by
  have h := rd_struct (enc := enc) (W := W) (n := 6) Try.underlying59 rfl (by kernel_rfl) (rd_cons (n := 1) (m := 5) rfl rdInt (rd_cons (n := 1) (m := 4) rfl rdInt (rd_cons (n := 1) (m := 3) rfl rdInt (rd_cons (n := 1) (m := 2) rfl rdInts (rd_cons (n := 1) (m := 1) rfl rdInt (rd_cons (n := 1) (m := 0) rfl rdInts (rd_nil 6)))))))
  exact h.map (fun p => ⟨0, [], p.1, p.2.1, p.2.2.1, p.2.2.2.1, p.2.2.2.2.1, p.2.2.2.2.2.1⟩) (fun _ => rfl) (fun p h => ⟨h.2.2.2.1, h.2.2.2.2.2.1⟩) (fun p => by simp only []; omega)

set_option maxRecDepth 100000 in
theorem rdBlock : RdT enc Try.prog W 62 8 blockC bBlock szBlock := by
  have h := rd_struct (enc := enc) (W := W) (n := 8) Try.underlying62 rfl (by kernel_rfl) (rd_cons (n := 1) (m := 7) rfl rdInt (rd_cons (n := 1) (m := 6) rfl rdIns (rd_cons (n := 6) (m := 0) rfl rdTerm (rd_nil 8))))
  exact h.map (fun p => ⟨p.1, p.2.1, p.2.2.1.kind, p.2.2.1.ta, p.2.2.1.to, p.2.2.1.args, p.2.2.1.els, p.2.2.1.elses⟩) (fun _ => rfl) (fun p h => ⟨h.2.1.1, h.2.2.1.1, h.2.2.1.2, h.2.1.2⟩) (fun p => by simp only [szBlock]; omega)

theorem rdBlocks : RdT enc Try.prog W 54 1 (fun xs : List Block => [blocksD xs]) (fun xs => (∀ x ∈ xs, bBlock x) ∧ xs.length ≤ 2000000000000) (fun xs => (xs.map szBlock).sum + 1) :=
  (rd_slice (C := blockC) (n := 8) (b := 112) (by kernel_rfl) Try.underlying54 (by decide) (by kernel_rfl) (fun _ => rfl) rdBlock).map id (fun _ => rfl) (fun xs h => ⟨h.1, by
    have := h.2
    unfold reachBytes at this
    simp only [id]
    omega⟩) (fun _ => Nat.le_refl _)

set_option maxRecDepth 100000 in
theorem rdFunc : RdT enc Try.prog W 56 4 funcC bFunc szFunc := by
  have h := rd_struct (enc := enc) (W := W) (n := 4) Try.underlying56 rfl (by kernel_rfl) (rd_cons (n := 1) (m := 3) rfl rdStr (rd_cons (n := 1) (m := 2) rfl rdInt (rd_cons (n := 1) (m := 1) rfl rdInt (rd_cons (n := 1) (m := 0) rfl rdBlocks (rd_nil 4)))))
  exact h.map (fun p => ⟨p.1, p.2.1, p.2.2.1, p.2.2.2.1⟩) (fun _ => rfl) (fun p h => h.2.2.2.1) (fun p => by simp only [szFunc]; omega)

end

end Go.Proofs.Ytpfokkfomgmibaa
/- What arguments of this program's own types read as: globals, modules. -/
namespace Go.Proofs.Ytpfokkfomgmibaa
open Go.RowKit

def bGlob (g : Glob) : Prop := g.init < 18446744073709551616
def bModule (m : Module) : Prop := (∀ f ∈ m.funcs, bFunc f) ∧ m.funcs.length ≤ 2600000000000 ∧ m.globs.length ≤ 3600000000000 ∧ ∀ g ∈ m.globs, bGlob g

def szModule (m : Module) : Nat := (m.funcs.map szFunc).sum + (m.globs.map szGlob).sum + 2

section
variable {H : Type} {enc : TypeId × Value → H} {W : World}

set_option maxRecDepth 100000 in
theorem rdGlob : RdT enc Try.prog W 73 4 globC bGlob szGlob := by
  have h := rd_struct (enc := enc) (W := W) (n := 4) Try.underlying73 rfl (by kernel_rfl) (rd_cons (n := 1) (m := 3) rfl rdStr (rd_cons (n := 1) (m := 2) rfl rdInt (rd_cons (n := 1) (m := 1) rfl rdBool (rd_cons (n := 1) (m := 0) rfl rdU64 (rd_nil 4)))))
  exact h.map (fun p => ⟨p.1, p.2.1, p.2.2.1, p.2.2.2.1⟩) (fun _ => rfl) (fun p h => h.2.2.2.1) (fun p => by simp only [szGlob]; omega)

theorem rdGlobs : RdT enc Try.prog W 23 1 (fun xs : List Glob => [globsD xs]) (fun xs => (∀ x ∈ xs, bGlob x) ∧ xs.length ≤ 3600000000000) (fun xs => (xs.map szGlob).sum + 1) :=
  (rd_slice (C := globC) (n := 4) (b := 40) (by kernel_rfl) Try.underlying23 (by decide) (by kernel_rfl) (fun _ => rfl) rdGlob).map id (fun _ => rfl) (fun xs h => ⟨h.1, by
    have := h.2
    unfold reachBytes at this
    simp only [id]
    omega⟩) (fun _ => Nat.le_refl _)

theorem rdFuncs : RdT enc Try.prog W 22 1 (fun xs : List Func => [funcsD xs]) (fun xs => (∀ x ∈ xs, bFunc x) ∧ xs.length ≤ 2600000000000) (fun xs => (xs.map szFunc).sum + 1) :=
  (rd_slice (C := funcC) (n := 4) (b := 56) (by kernel_rfl) Try.underlying22 (by decide) (by kernel_rfl) (fun _ => rfl) rdFunc).map id (fun _ => rfl) (fun xs h => ⟨h.1, by
    have := h.2
    unfold reachBytes at this
    simp only [id]
    omega⟩) (fun _ => Nat.le_refl _)

set_option maxRecDepth 100000 in
theorem rdModule : RdT enc Try.prog W 25 2 moduleC bModule szModule := by
  have h := rd_struct (enc := enc) (W := W) (n := 2) Try.underlying25 rfl (by kernel_rfl) (rd_cons (n := 1) (m := 1) rfl rdFuncs (rd_cons (n := 1) (m := 0) rfl rdGlobs (rd_nil 2)))
  exact h.map (fun p => ⟨p.1, p.2.1⟩) (fun _ => rfl) (fun p h => ⟨h.1.1, h.1.2, h.2.1.2, h.2.1.1⟩) (fun p => by simp only [szModule]; omega)

end

end Go.Proofs.Ytpfokkfomgmibaa
/- From a contract of the evaluator to a claim's own form: what an argument reads as; the call. -/
namespace Go.Proofs.Ytpfokkfomgmibaa
open Go.RowKit

theorem own : ownKnob Try.prog.godebug = none := by kernel_rfl
theorem laid : laidOutB Try.prog = true := by kernel_rfl

theorem APure.yes {P : Program} {F : FuncId} {ds : List DV} (h : APure P F ds (.bool true)) {W : World} {args : Array Value} (hv : DReps xNone W args.toList ds) : Calls P F args W fun e w' => e = .returned (.bool true) ∧ Ext W w' := by
  refine (h.2 xNone W args (fun _ _ h => h.elim) hv).mono ?_
  rintro e w' ⟨hx, v, rfl, hv⟩
  cases hv
  exact ⟨rfl, hx⟩

section
variable {P : Program} {H : Type} {enc : TypeId × Value → H} {W : World} {α : Type} {t : TypeId} {n : Nat} {C : α → List DV} {B : α → Prop} {S : α → Nat} {v : Value} {d : DataW H} {ps : List MemPlace}

/-- A struct handed as an argument. -/
theorem open_aggS {fs : Array Field} (h : RdT enc P W t n C B S) (ht : P.underlying t = some (.struct fs)) (hval : Value.okWide P W .any 0 t v) (hd : DataW.Trod enc P W 0 (fun _ => true) true t v d ps) (hl : Light P d t) :
    ∃ a, DRep xNone W v (.agg (C a)) ∧ B a ∧ S a ≤ Rows.uptoBulk d := by
  obtain ⟨fuel, hd⟩ := hd
  obtain ⟨a, h1, h2⟩ := h.2 fuel _ _ hd hl
  unfold Value.okWide at hval
  rw [ht] at hval
  obtain ⟨cs, rfl, _⟩ := hval
  exact ⟨a, .agg cs.toList (C a) h1.1 h1.2, h2⟩

/-- A struct handed as an argument, its weight left out. -/
theorem open_agg {fs : Array Field} (h : RdT enc P W t n C B S) (ht : P.underlying t = some (.struct fs)) (hval : Value.okWide P W .any 0 t v) (hd : DataW.Trod enc P W 0 (fun _ => true) true t v d ps) (hl : Light P d t) :
    ∃ a, DRep xNone W v (.agg (C a)) ∧ B a := by
  obtain ⟨a, h1, h2, _⟩ := open_aggS h ht hval hd hl
  exact ⟨a, h1, h2⟩

/-- One cell handed as an argument. -/
theorem open_cellS {c : α → DV} (h : RdT enc P W t 1 (fun a => [c a]) B S) (ht : match P.underlying t with | some (.struct _) | some (.array _ _) => False | _ => True) (hval : Value.okWide P W .any 0 t v) (hd : DataW.Trod enc P W 0 (fun _ => true) true t v d ps) (hl : Light P d t) :
    ∃ a, DRep xNone W v (c a) ∧ B a ∧ S a ≤ Rows.uptoBulk d := by
  obtain ⟨fuel, hd⟩ := hd
  obtain ⟨a, h1, h2⟩ := h.2 fuel _ _ hd hl
  refine ⟨a, ?_, h2⟩
  have hc : v.cells = #[v] := by
    cases v with
    | agg cs =>
      unfold Value.okWide at hval
      split at hval
      · rename_i e; rw [e] at ht; exact ht.elim
      · rename_i e; rw [e] at ht; exact ht.elim
      · unfold Cell.okWide Cell.ok at hval
        generalize P.underlying t = u at hval
        cases u with
        | none => exact hval.elim
        | some u => cases u <;> exact hval.elim
    | _ => rfl
  rw [hc] at h1
  exact h1.2 0 (by simp) (by simp)

/-- One cell handed as an argument, its weight left out. -/
theorem open_cell {c : α → DV} (h : RdT enc P W t 1 (fun a => [c a]) B S) (ht : match P.underlying t with | some (.struct _) | some (.array _ _) => False | _ => True) (hval : Value.okWide P W .any 0 t v) (hd : DataW.Trod enc P W 0 (fun _ => true) true t v d ps) (hl : Light P d t) :
    ∃ a, DRep xNone W v (c a) ∧ B a := by
  obtain ⟨a, h1, h2, _⟩ := open_cellS h ht hval hd hl
  exact ⟨a, h1, h2⟩

theorem light_of {ts : List TypeId} {ds : List (DataW H)} (h : (DataW.weightsEach P ts ds).all (· ≤ reachBytes) = true) {j : Nat} (h1 : ts[j]? = some t) (h2 : ds[j]? = some d) : Light P d t := by
  intro n hn
  have := List.all_eq_true.1 h n (DataW.weights_mem_each h1 h2 n hn)
  simpa using this

end

end Go.Proofs.Ytpfokkfomgmibaa
