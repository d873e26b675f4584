/- What an argument's memory reads as, as plain data with bounds on its bulk: numbers, strings, slices, structs. -/
import Derived.Test.YtghlfjpmpalpdaaDat
import Derived.Test.YtghlfjpmpalpdaaRows
import Derived.ProofKit
import Derived.Deep.Slices
import Derived.SizedLaws
namespace Go.Proofs.Ytghlfjpmpalpdaa
open Go.RowKit

section
variable {H : Type} (enc : TypeId × Value → H) (P : Program) (W : World)

def xNone : Nat → Nat → Prop := fun _ _ => False

/-- All that is weighed stays within reach. -/
def Light (d : DataW H) (t : TypeId) : Prop := ∀ n, n ∈ d.weights P t → n ≤ reachBytes

/-- Values of type t, n cells each, read as C of plain data of which B holds, and which is of size S at most what the reading weighs. -/
def RdT {α : Type} (t : TypeId) (n : Nat) (C : α → List DV) (B : α → Prop) (S : α → Nat) : Prop :=
  P.cellsOf t = n ∧ ∀ fuel cs x, DataW.trod enc P W 0 (fun _ => true) true fuel t cs = some x → Light P x.1 t → ∃ a, DReps xNone W cs (C a) ∧ B a ∧ S a ≤ Rows.uptoBulk x.1

variable {enc P W}

theorem DReps.append {X : Nat → Nat → Prop} {w : World} {vs us : List Value} {xs ys : List DV} (h : DReps X w vs xs) (k : DReps X w us ys) : DReps X w (vs ++ us) (xs ++ ys) := by
  induction vs generalizing xs with
  | nil =>
    have : xs = [] := by have := h.1; simpa using this.symm
    subst this; simpa using k
  | cons v vs ih =>
    cases xs with
    | nil => exact absurd h.1 (by simp)
    | cons a l => exact DReps.cons (h.2 0 (by simp) (by simp)) (ih ⟨by simpa using h.1, fun i hi hi' => h.2 (i + 1) (by simpa using hi) (by simpa using hi')⟩)
theorem DReps.one {X : Nat → Nat → Prop} {w : World} {v : Value} {a : DV} (h : DRep X w v a) : DReps X w [v] [a] := DReps.cons h (DReps.nil _ _)

theorem RdT.map {α β : Type} {t : TypeId} {n : Nat} {C : α → List DV} {B : α → Prop} {C' : β → List DV} {B' : β → Prop} {S : α → Nat} {S' : β → Nat} (h : RdT enc P W t n C B S) (g : α → β) (hC : ∀ a, C a = C' (g a)) (hB : ∀ a, B a → B' (g a)) (hS : ∀ a, S' (g a) ≤ S a) : RdT enc P W t n C' B' S' := by
  refine ⟨h.1, fun fuel cs x hx hl => ?_⟩
  obtain ⟨a, h1, h2, h3⟩ := h.2 fuel cs x hx hl
  exact ⟨g a, hC a ▸ h1, hB a h2, Nat.le_trans (hS a) h3⟩

theorem bounds_i64 {n : Int} (h : (Lit.int .i64 n).wf = true) : -9223372036854775808 ≤ n ∧ n ≤ 9223372036854775807 := by
  have h1 : IntKind.i64.min = -9223372036854775808 := by decide
  have h2 : IntKind.i64.max = 9223372036854775807 := by decide
  simp [Lit.wf, h1, h2] at h
  exact h
theorem bounds_u64 {n : Int} (h : (Lit.int .u64 n).wf = true) : 0 ≤ n ∧ n < 18446744073709551616 := by
  have h1 : IntKind.u64.min = 0 := by decide
  have h2 : IntKind.u64.max = 18446744073709551615 := by decide
  simp [Lit.wf, h1, h2] at h
  omega
theorem rd_int {t : TypeId} (hc : P.cellsOf t = 1) (ht : P.underlying t = some (.int .i64)) : RdT enc P W t 1 (fun n : Int => [.int n]) (fun n => -9223372036854775808 ≤ n ∧ n ≤ 9223372036854775807) (fun _ => 1) := by
  refine ⟨hc, fun fuel cs x hx _ => ?_⟩
  obtain ⟨n, rfl, hx1, hw⟩ := DataW.trod_int ht hx
  refine ⟨n, DReps.one (.lit _), ?_, by rw [hx1]; simp [Rows.uptoBulk]⟩
  have := bounds_i64 hw
  omega
theorem rd_u64 {t : TypeId} (hc : P.cellsOf t = 1) (ht : P.underlying t = some (.int .u64)) : RdT enc P W t 1 (fun n : Nat => [.lit (.int .u64 n)]) (fun n => n < 18446744073709551616) (fun _ => 1) := by
  refine ⟨hc, fun fuel cs x hx _ => ?_⟩
  obtain ⟨n, rfl, hx1, hw⟩ := DataW.trod_int ht hx
  have := bounds_u64 hw
  obtain ⟨m, rfl⟩ := Int.eq_ofNat_of_zero_le this.1
  exact ⟨m, DReps.one (.lit _), by omega, by rw [hx1]; simp [Rows.uptoBulk]⟩
theorem rd_bool {t : TypeId} (hc : P.cellsOf t = 1) (ht : P.underlying t = some .bool) : RdT enc P W t 1 (fun b : Bool => [.bool b]) (fun _ => True) (fun _ => 1) := by
  refine ⟨hc, fun fuel cs x hx _ => ?_⟩
  obtain ⟨b, rfl, hx1⟩ := DataW.trod_bool ht hx
  exact ⟨b, DReps.one (.lit _), trivial, by rw [hx1]; simp [Rows.uptoBulk]⟩
theorem rd_string {t : TypeId} (hc : P.cellsOf t = 1) (ht : P.underlying t = some .string) : RdT enc P W t 1 (fun s : ByteArray => [.str s]) (fun s => s.size ≤ reachBytes) (fun s => s.size + 1) := by
  refine ⟨hc, fun fuel cs x hx hl => ?_⟩
  obtain ⟨s, rfl, rfl, _⟩ := DataW.trod_string ht hx
  refine ⟨s, DReps.one (.lit _), ?_, ?_⟩
  · have := hl s.data.toList.length (by simp [DataW.weights])
    simpa using this
  · simp only [Rows.uptoBulk]
    rw [Array.length_toList]
    exact Nat.le_refl _

theorem weightsAll_mem {e : TypeId} {d : DataW H} : ∀ {l : List (DataW H)}, d ∈ l → ∀ n, n ∈ d.weights P e → n ∈ DataW.weightsAll P e l
  | x :: l, h, n, hn => by
    simp only [DataW.weightsAll, List.mem_append]
    rcases List.mem_cons.1 h with rfl | h
    · exact .inl hn
    · exact .inr (weightsAll_mem h n hn)

theorem bulk_sum {β : Type} (S : β → Nat) (f : Nat → β) (D : Nat → DataW H) : ∀ l : List Nat, (∀ i ∈ l, S (f i) ≤ Rows.uptoBulk (D i)) → ((l.map f).map S).sum ≤ Rows.uptoBulkAll (l.map D)
  | [], _ => Nat.zero_le _
  | i :: l, h => by
    have h1 := h i (by simp)
    have h2 := bulk_sum S f D l fun j hj => h j (by simp [hj])
    simp only [List.map_cons, List.sum_cons, Rows.uptoBulkAll]
    omega

/-- Slices. -/
theorem rd_slice {α : Type} [Inhabited α] {t e : TypeId} {n b : Nat} {C : α → List DV} {B : α → Prop} (hc : P.cellsOf t = 1) (ht : P.underlying t = some (.slice e)) (hn : 0 < n) (hb : P.bytesOf e = b) {S : α → Nat} (hC : ∀ a, (C a).length = n) (h : RdT enc P W e n C B S) :
    RdT enc P W t 1 (fun xs : List α => [.sl n xs.length fun k => C (xs[k]?.getD default)]) (fun xs => (∀ x, x ∈ xs → B x) ∧ xs.length * b ≤ reachBytes) (fun xs => (xs.map S).sum + 1) := by
  refine ⟨hc, fun fuel cs x hx hl => ?_⟩
  obtain ⟨hce, h⟩ := h
  rcases Deep.open_slice ht hx with ⟨rfl, rfl⟩ | ⟨a, len, cap, m, n', D, Pl, rfl, hb0, hlc, hcm, hm, rfl, hel⟩
  · exact ⟨[], DReps.one (.nil _ _), ⟨fun x hx => by simp at hx, by simp⟩, by simp [Rows.uptoBulk]⟩
  · simp only [if_true] at hm
    subst hm
    rw [hce] at hel
    have hw : ((List.range len).map D).length + ((List.range (m - len)).map fun j => D (len + j)).length = m := by simp; omega
    have hlw : m * b ≤ reachBytes := by
      refine hl _ ?_
      simp only [DataW.weights, ht]
      rw [hw, hb]
      simp
    have hDl : ∀ i, i < len → Light P (D i) e := by
      intro i hi k hk
      refine hl k ?_
      simp only [DataW.weights, ht]
      refine List.mem_cons_of_mem _ (List.mem_append_left _ (weightsAll_mem (d := D i) ?_ k hk))
      exact List.mem_map.2 ⟨i, List.mem_range.2 hi, rfl⟩
    have hall : ∀ i, i < len → ∃ p : α × List Value, W.cells? 0 (a.add (i * n)) n = some p.2 ∧ DReps xNone W p.2 (C p.1) ∧ B p.1 ∧ S p.1 ≤ Rows.uptoBulk (D i) := by
      intro i hi
      obtain ⟨cs', h1, h2⟩ := hel i (by omega)
      obtain ⟨y, h3, h4⟩ := h _ _ _ h2 (hDl i hi)
      exact ⟨(y, cs'), h1, h3, h4⟩
    haveI : Inhabited (α × List Value) := ⟨(default, [])⟩
    obtain ⟨f, hf⟩ := Deep.choose_lt hall
    have hxs : ((List.range len).map fun i => (f i).1).length = len := by simp
    have hget : ∀ i, i < len → ((List.range len).map fun i => (f i).1)[i]?.getD default = (f i).1 := fun i hi => by simp [hi]
    refine ⟨(List.range len).map fun i => (f i).1, DReps.one ?_, ⟨?_, ?_⟩, ?_⟩
    · rw [hxs]
      by_cases hz : m = 0
      · subst hz
        obtain rfl : len = 0 := by omega
        exact .emp _ _ _
      · -- the first cell is there
        obtain ⟨cs0, h0, _⟩ := hel 0 (by omega)
        obtain ⟨_, hl0, hc0⟩ := World.cells?_some h0
        have hc00 := hc0 0 hn
        rw [List.getElem?_eq_getElem (by omega)] at hc00
        have hspot : a.spot = none := by
          simp [Addr.add] at hc00
          unfold World.cell? at hc00
          split at hc00
          · split at hc00
            · cases hc00
            · rename_i hs
              simpa using hs
          · cases hc00
        have hblk : a.block < W.heap.size := by
          have := World.block_lt_of_cell? W _ hc00
          simpa [Addr.add] using this
        obtain ⟨ab, ao, aq⟩ := a
        simp only at hspot hblk
        subst hspot
        refine .sl ab ao m n len _ (fun i => (f i).2) hlc hcm hblk (fun _ _ _ _ h => h) (fun i hi => ?_) (fun i hi j v hv => ?_) (fun i hi j hj hj' => ?_)
        · rw [hget i hi]
          exact ⟨hC _, (World.cells?_some (hf i hi).1).2.1⟩
        · obtain ⟨_, hl1, hc1⟩ := World.cells?_some (hf i hi).1
          have hj : j < n := by have := (List.getElem?_eq_some_iff.1 hv).1; omega
          have := hc1 j hj
          rw [hv] at this
          rw [addr_add, addr_add, Nat.add_assoc] at this
          rw [Nat.add_assoc]
          exact this
        · have h3 := (hf i hi).2.1
          have e := hget i hi
          simp only [e] at hj' ⊢
          exact h3.2 j hj hj'
    · intro y hy
      obtain ⟨i, hi, rfl⟩ := List.mem_map.1 hy
      exact (hf i (List.mem_range.1 hi)).2.2.1
    · rw [hxs]
      exact Nat.le_trans (Nat.mul_le_mul_right _ hlc) hlw
    · have := bulk_sum S (fun i => (f i).1) D (List.range len) fun i hi => (hf i (List.mem_range.1 hi)).2.2.2
      simp only [Rows.uptoBulk]
      omega

/-- A struct's fields from one offset on. -/
def RdF {α : Type} (enc : TypeId × Value → H) (P : Program) (W : World) (fs : List Field) (o n : Nat) (C : α → List DV) (B : α → Prop) (S : α → Nat) : Prop :=
  ∀ (fuel : Nat) (cs : List Value) (xs : List (DataW H × List MemPlace)), xs.length = fs.length → (∀ (i : Nat) (f : Field), fs[i]? = some f → DataW.trod enc P W 0 (fun _ => true) true fuel f.type ((cs.drop f.offset).take (P.cellsOf f.type)) = xs[i]?) →
    (∀ k, k ∈ DataW.weightsEach P (fs.map (·.type)) (xs.map (·.1)) → k ≤ reachBytes) → ∃ a, DReps xNone W ((cs.drop o).take n) (C a) ∧ B a ∧ S a ≤ Rows.uptoBulkAll (xs.map (·.1))

theorem rd_nil (o : Nat) : RdF enc P W [] o 0 (fun _ : Unit => []) (fun _ => True) (fun _ => 0) := by
  intro fuel cs xs hl _ _
  exact ⟨(), by simpa using DReps.nil _ _, trivial, Nat.zero_le _⟩
theorem rd_cons {α β : Type} {f : Field} {fs : List Field} {o n m : Nat} {C : α → List DV} {B : α → Prop} {C' : β → List DV} {B' : β → Prop} {S : α → Nat} {S' : β → Nat} (ho : f.offset = o) (h : RdT enc P W f.type n C B S) (k : RdF enc P W fs (o + n) m C' B' S') :
    RdF enc P W (f :: fs) o (n + m) (fun p : α × β => C p.1 ++ C' p.2) (fun p => B p.1 ∧ B' p.2) (fun p => S p.1 + S' p.2) := by
  intro fuel cs xs hl hx hw
  cases xs with
  | nil => simp at hl
  | cons x xs =>
    have h0 := hx 0 f rfl
    rw [ho, h.1] at h0
    obtain ⟨a, h1, h2, h5⟩ := h.2 fuel _ x h0 (fun j hj => hw j (by simp [DataW.weightsEach, hj]))
    obtain ⟨b, h3, h4, h6⟩ := k fuel cs xs (by simpa using hl) (fun i f' hf => hx (i + 1) f' hf) (fun j hj => hw j (by simp only [List.map_cons, DataW.weightsEach, List.mem_append]; exact .inr hj))
    refine ⟨(a, b), ?_, ⟨h2, h4⟩, by simp only [List.map_cons, Rows.uptoBulkAll]; omega⟩
    have e : (cs.drop o).take (n + m) = (cs.drop o).take n ++ (cs.drop (o + n)).take m := by
      rw [List.take_add, List.drop_drop]
    rw [e]
    exact h1.append h3
theorem rd_struct {α : Type} {t : TypeId} {fs : Array Field} {l : List Field} {n : Nat} {C : α → List DV} {B : α → Prop} (ht : P.underlying t = some (.struct fs)) (hl : fs.toList = l) {S : α → Nat} (hc : P.cellsOf t = n) (h : RdF enc P W l 0 n C B S) : RdT enc P W t n C B S := by
  refine ⟨hc, fun fuel cs x hx hw => ?_⟩
  obtain ⟨xs, k, rfl, rfl, hlen, hxl, hxs⟩ := DataW.trod_struct ht hx
  subst hl
  obtain ⟨a, h1, h2, h3⟩ := h k cs xs (by simpa using hxl) (fun i f hf => hxs i f (by simpa using hf)) (fun j hj => hw j (by simpa only [DataW.weights, ht] using hj))
  refine ⟨a, ?_, h2, Nat.le_trans h3 (by simp only [Rows.uptoBulk]; omega)⟩
  have : (cs.drop 0).take n = cs := by rw [List.drop_zero, List.take_of_length_le (by omega)]
  rw [this] at h1
  exact h1

end

end Go.Proofs.Ytghlfjpmpalpdaa
