/- 'append' onto a row of the call's own, or onto nil; literals of slices. -/
import Derived.Test.YtghlfjpmpalpdaaObj
import Derived.Laws.AppendOwnNone
namespace Go.Proofs.Ytghlfjpmpalpdaa
open Go.RowKit

theorem flat_length {f : Nat → List Value} {n : Nat} : ∀ (m : Nat), (∀ i, i < m → (f i).length = n) → ((List.range m).flatMap f).length = m * n
  | 0, _ => by simp
  | m + 1, h => by
    rw [List.range_succ, List.flatMap_append, List.length_append, flat_length m (fun i hi => h i (by omega))]
    simp [h m (by omega), Nat.add_mul]

theorem flat_idx {f : Nat → List Value} {n : Nat} : ∀ (m : Nat), (∀ i, i < m → (f i).length = n) → ∀ j u, ((List.range m).flatMap f)[j]? = some u → ∃ i k, i < m ∧ j = i * n + k ∧ (f i)[k]? = some u
  | 0, _, j, u, h => by simp at h
  | m + 1, hl, j, u, h => by
    rw [List.range_succ, List.flatMap_append] at h
    have hlen := flat_length m (fun i hi => hl i (by omega))
    by_cases hj : j < m * n
    · rw [List.getElem?_append_left (by omega)] at h
      obtain ⟨i, k, h1, h2, h3⟩ := flat_idx m (fun i hi => hl i (by omega)) j u h
      exact ⟨i, k, by omega, h2, h3⟩
    · rw [List.getElem?_append_right (by omega), hlen] at h
      simp at h
      exact ⟨m, j - m * n, by omega, by omega, h⟩

theorem flat_congr {α β : Type} {l : List α} {f g : α → List β} (h : ∀ i ∈ l, f i = g i) : l.flatMap f = l.flatMap g := by
  induction l with
  | nil => rfl
  | cons a l ih => rw [List.flatMap_cons, List.flatMap_cons, h a (by simp), ih (fun i hi => h i (by simp [hi]))]

theorem flat_append (f g : Nat → List Value) (a b : Nat) : (List.range a).flatMap f ++ (List.range b).flatMap g = (List.range (a + b)).flatMap (fun i => if i < a then f i else g (i - a)) := by
  rw [List.range_add, List.flatMap_append]
  congr 1
  · apply flat_congr
    intro i hi
    rw [if_pos (List.mem_range.1 hi)]
  · rw [List.flatMap_map]
    apply flat_congr
    intro i _
    rw [if_neg (by omega)]
    congr 1
    omega

section
variable {P : Program} {X0 : Nat → Nat → Prop} {W0 : World} {γ : Nat → Option Value} {w : World} {H : Heap}

/-- The law of 'append' to a row that is owned, and where the new one lies. -/
theorem app_run (base : Nat) (t ty e : TypeId) (i : TypeInfo) (z : Value) (ht : P.underlying t = some (.slice e)) (hi : P.info? e = some i) (hz : i.zero = some z) (hzs : z.cells.size = i.size) (hsz : 0 < i.size)
    (v : Value) (n : Nat) (xs : List Value) (hown : w.ownsRow base e i.size v n xs) (a : Addr) (m c : Nat) (news : List Value) (hl : news.length = m * i.size) (hnews : ∀ j u, news[j]? = some u → w.cell? (a.add j) = some u) (h1 : ∀ u ∈ news, u.oneCell' = true)
    (h63 : n + m ≤ maxLen) (hbytes : (n + m) * i.bytes ≤ 140737488355328) (hbase : base ≤ w.heap.size) :
    ∃ v' w', (Builtin.append_ #[t, t] ty #[v, .slice (some a) m c]).run P w = .ok v' w' ∧ w'.ownsRow base e i.size v' (n + m) (xs ++ news) ∧ w.grownBy w' v.ownBlock ∧ (∀ b, blk v' = some b → blk v = some b ∨ w.heap.size ≤ b) ∧ (∀ b q, blk v = some b → q < n * i.size → w'.cell? ⟨b, q, none⟩ = w.cell? ⟨b, q, none⟩) := by
  obtain ⟨v', w', hr, k1, k2, k3⟩ := run_append_own (P := P) w base t ty e i z i.size i.bytes ht hi hz rfl rfl hzs hsz v n xs hown a m c news hl hnews h1 h63 hbytes hbase
  have hsmall : n + m ≤ 9223372036854775807 := by simp only [maxLen] at h63; omega
  refine ⟨v', w', hr, k1, k2, fun b hb => ?_, fun b q hb hq => ?_⟩
  rotate_left
  · rcases hown.2 with ⟨rfl, rfl⟩ | ⟨g, cap, cur, rfl, hbg, hg, hnc, hcm, hcs, htake⟩
    · simp [blk] at hb
    · simp [blk] at hb
      subst hb
      have hlt : g < w.heap.size := (Array.getElem?_eq_some_iff.1 hg).1
      by_cases hroom : n + m ≤ cap
      · have hfit : n * i.size + news.length ≤ cur.size := by rw [hl, hcs, ← Nat.add_mul]; exact Nat.mul_le_mul_right _ hroom
        have hr2 := run_append_room (P := P) w t ty e i ht hi g n cap cur hg a m c news hl hnews h1 hroom hfit
        rw [hr] at hr2
        injection hr2 with e1 e2
        subst e2
        rw [cell_setRow_same w g q cur _ e (0, 0) hg]
        have hq2 : q < cur.toList.length := by simp; omega
        have e3 : (cur.toList.take (n * i.size) ++ news ++ cur.toList.drop (n * i.size + news.length)).toArray[q]? = cur.toList[q]? := by
          rw [List.getElem?_toArray, List.append_assoc, List.getElem?_append_left (by simp; omega), List.getElem?_take, if_pos hq]
        rw [e3]
        simp [World.cell?, hg]
      · have holds : ∀ j u, xs[j]? = some u → w.cell? ((⟨g, 0, none⟩ : Addr).add j) = some u := hown.cells (g := g) rfl
        have hr2 := run_append_grow (P := P) w t ty e i z ht hi hz ⟨g, 0, none⟩ n cap xs hown.1 holds a m c news hl hnews (by omega) (by omega) (growslice_fits (by omega) hbytes)
        rw [hr] at hr2
        injection hr2 with e1 e2
        subst e2
        exact World.cell?_of_block (w := w) (a := ⟨g, q, none⟩) (Below.heap_alloc w.drew _ g hlt)
  rcases hown.2 with ⟨rfl, rfl⟩ | ⟨g, cap, cur, rfl, hbg, hg, hnc, hcm, hcs, htake⟩
  · by_cases hm : m = 0
    · have := k3.2 ⟨rfl, hm⟩
      subst this
      simp [blk] at hb
    · have hr2 := run_append_nil (P := P) w t ty e i z ht hi hz a m c news hl hnews (by omega) (by omega) (by have hb := hbytes; simp only [Nat.zero_add] at hb; omega)
      rw [hr] at hr2
      injection hr2 with e1 e2
      subst e1
      simp [blk] at hb
      exact .inr (by omega)
  · by_cases hroom : n + m ≤ cap
    · have hfit : n * i.size + news.length ≤ cur.size := by rw [hl, hcs, ← Nat.add_mul]; exact Nat.mul_le_mul_right _ hroom
      have hr2 := run_append_room (P := P) w t ty e i ht hi g n cap cur hg a m c news hl hnews h1 hroom hfit
      rw [hr] at hr2
      injection hr2 with e1 e2
      subst e1
      exact .inl hb
    · have holds : ∀ j u, xs[j]? = some u → w.cell? ((⟨g, 0, none⟩ : Addr).add j) = some u := hown.cells (g := g) rfl
      have hr2 := run_append_grow (P := P) w t ty e i z ht hi hz ⟨g, 0, none⟩ n cap xs hown.1 holds a m c news hl hnews (by omega) (by omega) (growslice_fits (by omega) hbytes)
      rw [hr] at hr2
      injection hr2 with e1 e2
      subst e1
      simp [blk] at hb
      exact .inr (by omega)

/-- A slice of elements that may be read: where its cells lie. -/
theorem sl_news {b off n len : Nat} {row : Nat → List DV} {vals : Nat → List Value} (hl : ∀ i, i < len → (row i).length = n ∧ (vals i).length = n)
    (hc : ∀ i, i < len → ∀ j v, (vals i)[j]? = some v → w.cell? ⟨b, off + i * n + j, none⟩ = some v) : ∀ j u, ((List.range len).flatMap vals)[j]? = some u → w.cell? ((⟨b, off, none⟩ : Addr).add j) = some u := by
  intro j u hj
  obtain ⟨i, k, h1, h2, h3⟩ := flat_idx len (fun i hi => (hl i hi).2) j u hj
  rw [addr_add, h2, ← Nat.add_assoc]
  exact hc i h1 k u h3

/-- One object less, and one more in its place: a row that has grown. -/
theorem St.regrow (hS : St X0 W0 γ w H) {w' : World} {v v' : Value} {id id' : Nat} (o' : AObj) (hcl : ∀ b, blk v = some b → ∃ arr t fr, w.heap[b]? = some (.cells arr t fr)) (hv : blk v = none ∨ ∃ o, hget H id = some o ∧ γ id = some v) (hid : γ id' = none) (hg : w.grownBy w' v.ownBlock) (hvb : v.ownBlock = blk v)
    (hb : ∀ b, blk v' = some b → blk v = some b ∨ w.heap.size ≤ b) (hturn : ∀ b q, blk v = some b → blk v' = some b → turns o' q → XOf X0 γ H b q) (hpre : ∀ b q, blk v = some b → ¬ XOf X0 γ H b q → w'.cell? ⟨b, q, none⟩ = w.cell? ⟨b, q, none⟩)
    (ho : ∀ γ' X', γ' = upd γ id' v' → Keeps (XOf X0 γ H) X' w w' → ORep γ' X' W0.heap.size w' v' o') :
    St X0 W0 (upd γ id' v') w' (hadd id' o' (hdel H id)) ∧ Knows γ (upd γ id' v') ∧ Keeps (XOf X0 γ H) (XOf X0 (upd γ id' v') (hadd id' o' (hdel H id))) w w' := by
  have hkn := upd_knows v' hid
  have hne : ∀ k o, hget H k = some o → k ≠ id' := fun k o' hk' e => by
    obtain ⟨u, hu, _⟩ := hS.obj k o' hk'
    rw [e, hid] at hu; cases hu
  have hold : ∀ k o, k ≠ id' → hget (hadd id' o' (hdel H id)) k = some o → k ≠ id ∧ hget H k = some o := by
    intro k o hk h
    simp only [hget_add, if_neg (Ne.symm hk), hget_del] at h
    split at h
    · cases h
    · rename_i e; exact ⟨Ne.symm e, h⟩
  have hXv : ∀ b, blk v = some b → W0.heap.size ≤ b := by
    intro b hbv
    rcases hv with h | ⟨o, h1, h2⟩
    · rw [h] at hbv; cases hbv
    · exact (hS.blk_lt h1 h2 hbv).1
  have hstay : ∀ b q, b < w.heap.size → ¬ XOf X0 γ H b q → w'.cell? ⟨b, q, none⟩ = w.cell? ⟨b, q, none⟩ := by
    intro b q hb' hX
    by_cases hbv : blk v = some b
    · exact hpre b q hbv hX
    · exact World.cell?_of_block (w := w) (a := ⟨b, q, none⟩) (hg.block b hb' (fun e => hbv (hvb ▸ e.symm)))
  have hK : Keeps (XOf X0 γ H) (XOf X0 (upd γ id' v') (hadd id' o' (hdel H id))) w w' := by
    refine ⟨hg.size, fun b q u hb' hX hc => (hstay b q hb' hX).trans hc, fun b q hb' h => ?_, fun b o ho hn hX => ?_⟩
    rotate_left
    · refine (hg.block b (Array.getElem?_eq_some_iff.1 ho).1 (fun e => ?_)).trans ho
      obtain ⟨arr, t, fr, hh⟩ := hcl b (hvb ▸ e.symm)
      rw [hh] at ho
      injection ho with ho
      subst ho
      cases hn
    rcases h with h | ⟨k, o, u, h1, h2, h3, h5⟩
    · exact .inl h
    · by_cases e : k = id'
      · subst e
        simp [upd] at h2
        subst h2
        simp [hget_add] at h1
        subst h1
        rcases hb b h3 with h4 | h4
        · exact hturn b q h4 h3 h5
        · omega
      · obtain ⟨_, h1'⟩ := hold k o e h1
        exact .inr ⟨k, o, u, h1', by simpa [upd, e] using h2, h3, h5⟩
  have hext : Ext W0 w' := by
    refine ⟨hg.os.trans hS.ext.os, hg.tape.trans hS.ext.tape, hg.output.trans hS.ext.output, Nat.le_trans hS.ext.size hg.size, fun k hk => ?_⟩
    rw [hg.block k (Nat.lt_of_lt_of_le hk hS.ext.size) (fun e => by have := hXv k (hvb ▸ e.symm); omega)]
    exact hS.ext.block k hk
  have hapart : ∀ k o u b, k ≠ id → hget H k = some o → γ k = some u → blk u = some b → ¬ blk v = some b := by
    intro k o u b hk h1 h2 h3 h4
    rcases hv with h | ⟨o2, g1, g2⟩
    · rw [h] at h4; cases h4
    · exact hk (hS.dis k id o o2 u v b h1 g1 h2 g2 h3 h4)
  refine ⟨⟨hS.hx, hext, fun k o hk => ?_, fun k k' o1 o2 v1 v2 b h1 h2 g1 g2 b1 b2 => ?_⟩, hkn, hK⟩
  · by_cases e : k = id'
    · subst e
      simp only [hget_add, if_true] at hk
      injection hk with hk
      subst hk
      exact ⟨v', by simp [upd], ho _ _ rfl hK⟩
    · obtain ⟨hk1, hk2⟩ := hold k o e hk
      obtain ⟨u, hu, hr⟩ := hS.obj k o hk2
      exact ⟨u, hkn _ _ hu, hr.mono hkn hK (fun b hbu hlt => hg.block b hlt (fun e2 => hapart k o u b hk1 hk2 hu hbu (hvb ▸ e2.symm)))⟩
  · have other : ∀ k o u, k ≠ id' → hget (hadd id' o' (hdel H id)) k = some o → upd γ id' v' k = some u → ∀ b, blk u = some b → ¬ blk v' = some b := by
      intro k o u e h1 h2 b hbu hbv
      obtain ⟨hk1, hk2⟩ := hold k o e h1
      have h2' : γ k = some u := by simpa [upd, e] using h2
      rcases hb b hbv with h4 | h4
      · exact hapart k o u b hk1 hk2 h2' hbu h4
      · have := (hS.blk_lt hk2 h2' hbu).2; omega
    by_cases e1 : k = id' <;> by_cases e2 : k' = id'
    · exact e1.trans e2.symm
    · subst e1
      simp [upd] at g1
      subst g1
      exact (other k' o2 v2 e2 h2 g2 b b2 b1).elim
    · subst e2
      simp [upd] at g2
      subst g2
      exact (other k o1 v1 e1 h1 g1 b b1 b2).elim
    · obtain ⟨_, a1⟩ := hold k o1 e1 h1
      obtain ⟨_, a2⟩ := hold k' o2 e2 h2
      exact hS.dis k k' o1 o2 v1 v2 b a1 a2 (by simpa [upd, e1] using g1) (by simpa [upd, e2] using g2) b1 b2

/-- The base of an 'append': its length, its rows; the elements' type e, n cells each. -/
def baseV (H : Heap) (e : TypeId) (n : Nat) : AV → Option (Option Nat × Nat × (Nat → List DV))
  | .own id len => match hget H id with
    | some (.row e' n' len' row) => if e' = e ∧ n' = n ∧ len' = len then some (some id, len, row) else none
    | _ => none
  | .d (.lit (.slice none 0 0)) => some (none, 0, fun _ => [])
  | _ => none
/-- What is appended: how many, its rows. -/
def moreV (n : Nat) : AV → Option (Nat × (Nat → List DV))
  | .d (.sl n' m row) => if n' = n then some (m, row) else none
  | .d (.sn n' m row) => if n' = n then some (m, row) else none
  | .d (.lit (.slice none 0 0)) => some (0, fun _ => [])
  | _ => none

def appRow (len : Nat) (row more : Nat → List DV) : Nat → List DV := fun i => if i < len then row i else more (i - len)

def hdelO (o : Option Nat) (H : Heap) : Heap := match o with
  | some id => hdel H id
  | none => H

def appV (H : Heap) (e : TypeId) (n id' : Nat) (s x : AV) : AV × Heap :=
  match baseV H e n s, moreV n x with
  | some (o, len, row), some (m, more) => (.own id' (len + m), hadd id' (.row e n (len + m) (appRow len row more)) (hdelO o H))
  | _, _ => (.d .top, H)
def appOk (H : Heap) (e : TypeId) (n bytes : Nat) (s x : AV) : Prop :=
  match baseV H e n s, moreV n x with
  | some (_, len, _), some (m, more) => (len + m) * bytes ≤ 140737488355328 ∧ ∀ i, i < m → (more i).length = n ∧ (more i).all DV.cell = true
  | _, _ => False

theorem hdel_none {H : Heap} {id : Nat} (h : hget H id = none) : hdel H id = H := by
  funext k
  unfold hdel
  split
  · rename_i e; subst e; exact h.symm
  · rfl

theorem run_app {t ty e : TypeId} {i : TypeInfo} {z : Value} (ht : P.underlying t = some (.slice e)) (hi : P.info? e = some i) (hz : i.zero = some z) (hzs : z.cells.size = i.size) (hsz : 0 < i.size) (hby : 0 < i.bytes)
    (hS : St X0 W0 γ w H) {v u : Value} {s x : AV} {id' : Nat} (hid : γ id' = none) (hv : Rep γ (XOf X0 γ H) w v s) (hu : Rep γ (XOf X0 γ H) w u x) (hok : appOk H e i.size i.bytes s x) :
    ∃ v' w' γ', (Builtin.append_ #[t, t] ty #[v, u]).run P w = .ok v' w' ∧ St X0 W0 γ' w' (appV H e i.size id' s x).2 ∧ Rep γ' (XOf X0 γ' (appV H e i.size id' s x).2) w' v' (appV H e i.size id' s x).1 ∧ γ' = upd γ id' v' ∧ Knows γ γ' ∧
      Keeps (XOf X0 γ H) (XOf X0 γ' (appV H e i.size id' s x).2) w w' := by
  unfold appOk at hok
  split at hok
  · rename_i o len row m more hb hm
    obtain ⟨hbytes, hmore⟩ := hok
    -- the base
    have hbase : ∃ xs : Nat → List Value, w.ownsRow W0.heap.size e i.size v len ((List.range len).flatMap xs) ∧ (∀ j, j < len → (xs j).length = i.size ∧ DReps (XOf X0 γ H) w (xs j) (row j)) ∧ (∀ idd, o = some idd → hget H idd = some (.row e i.size len row) ∧ γ idd = some v) ∧ (o = none → blk v = none) := by
      unfold baseV at hb
      split at hb
      · rename_i id len'
        split at hb
        · rename_i e' n' l' row' ho
          split at hb
          · rename_i hc
            obtain ⟨rfl, rfl, rfl⟩ := hc
            simp at hb
            obtain ⟨rfl, rfl, rfl⟩ := hb
            obtain ⟨v0, hv0, xs, hown, hr⟩ := hS.obj id _ ho
            cases hv with | own _ _ _ h =>
            rw [h] at hv0
            injection hv0 with hv0
            subst hv0
            exact ⟨xs, hown, hr, fun idd hidd => by injection hidd with hidd; subst hidd; exact ⟨ho, h⟩, fun h => by cases h⟩
          · cases hb
        · cases hb
      · simp at hb
        obtain ⟨rfl, rfl, rfl⟩ := hb
        obtain rfl := hv.lit
        exact ⟨fun _ => [], by simpa using World.ownsRow_nil w _ _ _, fun j hj => by omega, (fun idd h => by cases h), fun _ => rfl⟩
      · cases hb
    obtain ⟨xs, hown, hrow, hsome, hnone⟩ := hbase
    -- what is appended
    have hlen : len + m ≤ 140737488355328 := Nat.le_trans (Nat.le_mul_of_pos_right _ hby) hbytes
    have hrun : ∃ (ys : Nat → List Value) (v' : Value) (w' : World), (Builtin.append_ #[t, t] ty #[v, u]).run P w = .ok v' w' ∧ w'.ownsRow W0.heap.size e i.size v' (len + m) ((List.range len).flatMap xs ++ (List.range m).flatMap ys) ∧
        (∀ j, j < m → (ys j).length = i.size ∧ DReps (XOf X0 γ H) w (ys j) (more j)) ∧ w.grownBy w' v.ownBlock ∧ (∀ b, blk v' = some b → blk v = some b ∨ w.heap.size ≤ b) ∧ (∀ b q, blk v = some b → q < len * i.size → w'.cell? ⟨b, q, none⟩ = w.cell? ⟨b, q, none⟩) := by
      have hzero : m = 0 → (∃ a, u = .slice a 0 0) → ∃ (ys : Nat → List Value) (v' : Value) (w' : World), (Builtin.append_ #[t, t] ty #[v, u]).run P w = .ok v' w' ∧ w'.ownsRow W0.heap.size e i.size v' (len + m) ((List.range len).flatMap xs ++ (List.range m).flatMap ys) ∧
          (∀ j, j < m → (ys j).length = i.size ∧ DReps (XOf X0 γ H) w (ys j) (more j)) ∧ w.grownBy w' v.ownBlock ∧ (∀ b, blk v' = some b → blk v = some b ∨ w.heap.size ≤ b) ∧ (∀ b q, blk v = some b → q < len * i.size → w'.cell? ⟨b, q, none⟩ = w.cell? ⟨b, q, none⟩) := by
        rintro rfl ⟨a0, rfl⟩
        refine ⟨fun _ => [], v, w, ?_, by simpa using hown, fun j hj => by omega, ⟨rfl, rfl, rfl, Nat.le_refl _, fun _ _ _ => rfl⟩, fun b h => .inl h, fun _ _ _ _ => rfl⟩
        rcases hown.2 with ⟨rfl, rfl⟩ | ⟨g, cap, cur, rfl, hbg, hg, hnc, hcm, hcs, htake⟩
        · cases a0 <;> simp [Builtin.append_, run_underlying ht, sizeOf, typeInfo, hi, Builtin.lenOf, Builtin.firstCells, loadCells, loadCellsFrom]
        · have hle : ¬ cap < len := by omega
          cases a0 <;> simp [Builtin.append_, run_underlying ht, sizeOf, typeInfo, hi, Builtin.lenOf, Builtin.firstCells, loadCells, loadCellsFrom, storeCells, hnc]
      have key : ∀ (n' m' : Nat) (row' : Nat → List DV), DRep (XOf X0 γ H) w u (.sl n' m' row') → (if n' = i.size then some (m', row') else none) = some (m, more) → ∃ (ys : Nat → List Value) (v' : Value) (w' : World), (Builtin.append_ #[t, t] ty #[v, u]).run P w = .ok v' w' ∧ w'.ownsRow W0.heap.size e i.size v' (len + m) ((List.range len).flatMap xs ++ (List.range m).flatMap ys) ∧
          (∀ j, j < m → (ys j).length = i.size ∧ DReps (XOf X0 γ H) w (ys j) (more j)) ∧ w.grownBy w' v.ownBlock ∧ (∀ b, blk v' = some b → blk v = some b ∨ w.heap.size ≤ b) ∧ (∀ b q, blk v = some b → q < len * i.size → w'.cell? ⟨b, q, none⟩ = w.cell? ⟨b, q, none⟩) := by
        intro n' m' row' hd hm
        split at hm
        · rename_i hc
          subst hc
          simp at hm
          obtain ⟨rfl, rfl⟩ := hm
          cases hd with
          | nil n row => exact hzero rfl ⟨_, rfl⟩
          | emp a n row => exact hzero rfl ⟨_, rfl⟩
          | sl b off cap _ _ _ vals hc1 hc2 hbb hX hl hc hr =>
            have hone : ∀ q ∈ (List.range m').flatMap vals, q.oneCell' = true := by
              intro q hq
              obtain ⟨j, hj, hq⟩ := List.mem_flatMap.1 hq
              have hj' := List.mem_range.1 hj
              obtain ⟨k, hk, rfl⟩ := List.getElem_of_mem hq
              have hk' : k < (row' j).length := by rw [(hl j hj').1, ← (hl j hj').2]; exact hk
              exact (hr j hj' k hk hk').one (List.all_eq_true.1 (hmore j hj').2 _ (List.getElem_mem hk'))
            obtain ⟨v', w', r1, r2, r3, r4, r5⟩ := app_run (P := P) W0.heap.size t ty e i z ht hi hz hzs hsz v len _ hown ⟨b, off, none⟩ m' cap _ (flat_length m' (fun j hj => (hl j hj).2)) (sl_news hl hc) hone (by unfold maxLen; omega) hbytes hS.ext.size
            exact ⟨vals, v', w', r1, r2, fun j hj => ⟨(hl j hj).2, (hl j hj).2.trans (hl j hj).1.symm, hr j hj⟩, r3, r4, r5⟩
        · cases hm
      unfold moreV at hm
      split at hm
      · cases hu with | d _ _ hd => exact key _ _ _ hd hm
      · cases hu with | d _ _ hd => cases hd with | sn _ _ _ _ hd _ => exact key _ _ _ hd hm
      · simp at hm
        obtain ⟨rfl, rfl⟩ := hm
        exact hzero rfl ⟨_, hu.lit⟩
      · cases hm
    obtain ⟨ys, v', w', hrun, hown', hys, hgrow, hb', hpre'⟩ := hrun
    rw [flat_append] at hown'
    have hob : v.ownBlock = blk v := by
      rcases hown.2 with ⟨rfl, _⟩ | ⟨g, cap, cur, rfl, _⟩ <;> rfl
    have hcls : ∀ b, blk v = some b → ∃ arr t fr, w.heap[b]? = some (.cells arr t fr) := by
      intro b hb0
      rcases hown.2 with ⟨rfl, _⟩ | ⟨g, cap, cur, rfl, _, hg, _⟩
      · simp [blk] at hb0
      · simp [blk] at hb0
        subst hb0
        exact ⟨_, _, _, hg⟩
    have hobj : ∀ γ' X', γ' = upd γ id' v' → Keeps (XOf X0 γ H) X' w w' → ORep γ' X' W0.heap.size w' v' (.row e i.size (len + m) (appRow len row more)) := by
      rintro γ' X' rfl hK
      refine ⟨_, hown', fun j hj => ?_⟩
      unfold appRow
      by_cases hjl : j < len
      · rw [if_pos hjl, if_pos hjl]
        exact ⟨(hrow j hjl).1, (hrow j hjl).2.mono hK⟩
      · rw [if_neg hjl, if_neg hjl]
        exact ⟨(hys _ (by omega)).1, (hys _ (by omega)).2.mono hK⟩
    have hV : appV H e i.size id' s x = (.own id' (len + m), hadd id' (.row e i.size (len + m) (appRow len row more)) (hdelO o H)) := by
      unfold appV; rw [hb, hm]
    rw [hV]
    cases ho : o with
    | some id =>
      obtain ⟨hs1, hs2⟩ := hsome id ho
      obtain ⟨g1, g2, g3⟩ := hS.regrow (v := v) (v' := v') (id := id) (id' := id') (.row e i.size (len + m) (appRow len row more)) hcls (.inr ⟨_, hs1, hs2⟩) hid hgrow hob hb'
        (fun b q h1 h2 h3 => .inr ⟨id, _, v, hs1, hs2, h1, by
          have h3' : (len + m) * i.size ≤ q := h3
          rw [Nat.add_mul] at h3'
          show len * i.size ≤ q
          omega⟩)
        (fun b q h1 h2 => hpre' b q h1 (Nat.lt_of_not_le fun hle => h2 (.inr ⟨id, _, v, hs1, hs2, h1, hle⟩))) hobj
      exact ⟨v', w', _, hrun, g1, .own v' id' _ (by simp [upd]), rfl, g2, g3⟩
    | none =>
      have hfree : hget H id' = none := by
        cases h : hget H id' with
        | none => rfl
        | some ob =>
          obtain ⟨u0, hu0, _⟩ := hS.obj id' ob h
          rw [hid] at hu0; cases hu0
      obtain ⟨g1, g2, g3⟩ := hS.regrow (v := v) (v' := v') (id := id') (id' := id') (.row e i.size (len + m) (appRow len row more)) hcls (.inl (hnone ho)) hid hgrow hob hb' (fun b q h1 => by rw [hnone ho] at h1; cases h1) (fun b q h1 => by rw [hnone ho] at h1; cases h1) hobj
      rw [hdel_none hfree] at g1 g3
      exact ⟨v', w', _, hrun, g1, .own v' id' _ (by simp [upd]), rfl, g2, g3⟩
  · exact hok.elim

/-- A slice's literal with at least one element. -/
def mkslV (n : Nat) (parts : List AV) (all : List AV) : AV :=
  match allD all with
  | some ds => .d (.sl n parts.length fun i => (ds.drop (i * n)).take n)
  | none => .d .top

/-- A new row of cells that nobody else knows: a slice that stays as it is. -/
theorem Rep.newRow {X : Nat → Nat → Prop} (hX : ∀ b o, X b o → b < w.heap.size) {arr : Array Value} {t : TypeId} {ds : List DV} {n len : Nat} (hr : DReps X w arr.toList ds) (hn : ds.length = len * n) (hm : len ≤ maxLen) :
    DRep X (w.alloc (.cells arr t)) (.slice (some ⟨w.heap.size, 0, none⟩) len len) (.sl n len fun i => (ds.drop (i * n)).take n) := by
  have hl := hr.1
  have hK : Keeps X X w (w.alloc (.cells arr t)) := .of_ext (Ext.alloc w _)
  refine .sl w.heap.size 0 len n len _ (fun i => (arr.toList.drop (i * n)).take n) (Nat.le_refl _) hm (by simp) (fun i hi j hj h => by have := hX _ _ h; omega) (fun i hi => ?_) (fun i hi j v hv => ?_) (fun i hi j hj hj' => ?_)
  · have : (i + 1) * n ≤ len * n := Nat.mul_le_mul_right _ (by omega)
    rw [Nat.add_mul, Nat.one_mul] at this
    simp only [List.length_take, List.length_drop]
    omega
  · rw [List.getElem?_take] at hv
    split at hv
    · rw [List.getElem?_drop] at hv
      simp only [World.cell?, heap_alloc_new]
      simpa using hv
    · cases hv
  · simp only [List.getElem_take, List.getElem_drop]
    exact (hr.2 _ _ _).mono hK

end

end Go.Proofs.Ytghlfjpmpalpdaa
