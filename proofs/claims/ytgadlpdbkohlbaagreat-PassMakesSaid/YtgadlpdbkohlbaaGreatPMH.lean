/- Texts of one kind, one behind the other (merged by program; the bodies of functions are printed by program). -/
import Derived.Test.YtgadlpdbkohlbaaGreatPMG
import Derived.WalkKit
import Derived.WalkSpells
import Derived.WalkLawsBesides
namespace Go.Proofs.YtgadlpdbkohlbaaGreat
open Go.RowKit
theorem qkv {cs : List DV} {x y : DV} (h : DLe x y) : DLe (.agg (cs ++ [x])) (.agg (cs ++ [y])) := by
 refine DLe.agg (by simp) fun i h1 h2 => ?_
 by_cases hi : i < cs.length
 ·rw [List.getElem_append_left hi, List.getElem_append_left hi]
  exact DLe.refl _
 ·have : i = cs.length := by simp at h1; omega
  subst this
  rw [List.getElem_append_right (Nat.le_refl _), List.getElem_append_right (Nat.le_refl _)]
  simpa using h
def mapT {α β : Type} (g : α → β) (xs : List α) (k : Nat) : List β := (xs.take k).map g
@[simp] theorem mapT_zero {α β : Type} (g : α → β) (xs : List α) : mapT g xs 0 = [] := by simp [mapT]
theorem q8z {α β : Type} (g : α → β) (xs : List α) (k : Nat) : (mapT g xs k).length ≤ xs.length := by simp [mapT]; omega
theorem qcg {α β : Type} (g : α → β) {xs : List α} {k : Nat} (hk : k < xs.length) : mapT g xs (k + 1) = mapT g xs k ++ [g xs[k]] := by
 unfold mapT
 rw [List.take_succ_eq_append_getElem hk, List.map_append]
 rfl
theorem qhp {α β : Type} (g : α → β) {xs : List α} {k : Nat} (h : xs.length ≤ k) : mapT g xs k = xs.map g := by
 unfold mapT
 rw [List.take_of_length_le h]
set_option maxRecDepth 10000 in
theorem z1y (xs : List Block) (hl : xs.length ≤ 1000000) (F : FuncId) (g : Block → Block) (hF : ∀ v ∈ xs, APure Tryz.prog F [.agg (qd v)] (.agg (qd (g v)))) : APure Tryz.prog 91 [q1k xs, .fn F []] (q1k (xs.map g)) := by
 refine qb _ _ Tryz.func91 (by kernel_rfl) q5q q5s rfl rfl (fun _ => ?_)
 simp [q2n, q2p]
 refine qe (κ := Nat) (fun k => k ≤ xs.length) (fun k => xs.length - k) (fun k => [(sl 10, .int k), (sl 5, .own 0 (mapT g xs k).length)]) (fun k => [(0, .row 58 8 (mapT g xs k).length fun i => qd ((mapT g xs k)[i]?.getD default))]) 10 0 (srcs [(0, .nil)]) (by simp) (by simp) ?_
 rintro k hk
 simp
 have hlen := q8z g xs k
 refine ⟨fun hlt => ⟨hlt, ?_⟩, fun hge => ?_⟩
 ·rw [getD_some hlt]
  have hsucc := qcg g hlt
  refine q4 (ds := [.agg (qd xs[k])]) _ (by simp) (by simp) (fun _ => by simp; rfl) (fun _ => hF _ (List.getElem_mem hlt)) ?_
  simp
  refine ⟨by omega, k + 1, by omega, by omega, srcs [(0, .id 20)], ?_⟩
  simp [SLeK, hsucc]
  exact ⟨q6 (q5 (by omega)), fun i hi => qf qd default rfl hi⟩
 ·rw [qhp g hge]
  exact DLe.refl _
set_option maxRecDepth 10000 in
theorem z1z (xs : List Func) (hl : xs.length ≤ 1000000) (F : FuncId) (g : Func → Func) (hF : ∀ v ∈ xs, APure Tryz.prog F [.agg (qm v)] (.agg (qm (g v)))) : APure Tryz.prog 65 [q24 xs, .fn F []] (q24 (xs.map g)) := by
 refine qb _ _ Tryz.func65 (by kernel_rfl) q6y q71 rfl rfl (fun _ => ?_)
 simp [q30, q32]
 refine qe (κ := Nat) (fun k => k ≤ xs.length) (fun k => xs.length - k) (fun k => [(sl 10, .int k), (sl 5, .own 0 (mapT g xs k).length)]) (fun k => [(0, .row 61 4 (mapT g xs k).length fun i => qm ((mapT g xs k)[i]?.getD default))]) 10 0 (srcs [(0, .nil)]) (by simp) (by simp) ?_
 rintro k hk
 simp
 have hlen := q8z g xs k
 refine ⟨fun hlt => ⟨hlt, ?_⟩, fun hge => ?_⟩
 ·rw [getD_some hlt]
  have hsucc := qcg g hlt
  refine q4 (ds := [.agg (qm xs[k])]) _ (by simp) (by simp) (fun _ => by simp; rfl) (fun _ => hF _ (List.getElem_mem hlt)) ?_
  simp
  refine ⟨by omega, k + 1, by omega, by omega, srcs [(0, .id 20)], ?_⟩
  simp [SLeK, hsucc]
  exact ⟨q6 (q5 (by omega)), fun i hi => qf qm default rfl hi⟩
 ·rw [qhp g hge]
  exact DLe.refl _
set_option maxRecDepth 10000 in
theorem z1u (xs : List Inst) (hl : xs.length ≤ 1000000) : AOwnV Tryz.prog 113 [insD xs] 53 6 xs.length (fun i => qp (xs[i]?.getD default)) := by
 refine AOwnV.nilSplit (fun h0 => ?_) ?_
 ·refine qts _ _ Tryz.func113 (by kernel_rfl) q29 q2b rfl rfl (fun _ => ?_)
  simp [q10, q12]
  exact List.length_eq_zero_iff.1 h0
 ·refine qts _ _ Tryz.func113 (by kernel_rfl) q29 q2b rfl rfl (fun _ => ?_)
  simp [q10, q12]
  omega
def q58 (b : Block) (i : Nat) : List Inst := (q1n b).take i ++ b.ins.drop i
theorem qrz (b : Block) : q58 b 0 = b.ins := by simp [q58]
theorem qul {b : Block} {i : Nat} (h : b.ins.length ≤ i) : q58 b i = q1n b := by
 unfold q58
 rw [List.take_of_length_le (by rw [qw]; exact h), List.drop_eq_nil_of_le h, List.append_nil]
theorem qxn {b : Block} {i : Nat} (hi : i < b.ins.length) : (q58 b i)[i]? = some b.ins[i] := by
 unfold q58
 rw [List.getElem?_append_right (by rw [List.length_take, qw]; omega), List.length_take, qw, List.getElem?_drop, Nat.min_eq_left (by omega), Nat.sub_self, Nat.add_zero, List.getElem?_eq_getElem hi]
theorem qhe {b : Block} {i : Nat} (hi : i < b.ins.length) (j : Nat) : (q58 b (i + 1))[j]? = if j = i then (q1n b)[i]? else (q58 b i)[j]? := by
 have hl := qw b
 unfold q58
 by_cases h : j = i
 ·subst h
  rw [if_pos rfl, List.getElem?_append_left (by rw [List.length_take]; omega), List.getElem?_take, if_pos (by omega)]
 ·rw [if_neg h]
  by_cases h1 : j < i
  ·rw [List.getElem?_append_left (by rw [List.length_take]; omega), List.getElem?_append_left (by rw [List.length_take]; omega), List.getElem?_take, List.getElem?_take, if_pos h1, if_pos (by omega)]
  ·rw [List.getElem?_append_right (by rw [List.length_take]; omega), List.getElem?_append_right (by rw [List.length_take]; omega), List.getElem?_drop, List.getElem?_drop, List.length_take, List.length_take]
   congr 1
   omega
set_option maxRecDepth 10000 in
theorem qxl (b : Block) (hp : 0 ≤ b.params ∧ b.params ≤ 1000) (hn : b.ins.length ≤ 1000) (hk : ∀ x ∈ b.ins, x.k < 18446744073709551616) : APure Tryz.prog 92 [.agg (qd b)] (.agg (qd (q57 b))) := by
  refine qb _ _ Tryz.func92 (by kernel_rfl) qwj qwy rfl rfl (fun _ => ?_)
  have hmx : (if b.params < 0 then 0 else b.params) = b.params := if_neg (by omega)
  simp [qji, qjz, hmx]
  refine q4 (ds := [.agg (qd b)]) _ (by simp) (by simp) (fun _ => by simp; rfl) (fun _ => quw b hp hn hk) ?_
  simp
  refine qh1 b.ins.length _ (by simp) (by simp) (by simp) (z1u b.ins (by omega)) ?_
  simp
  refine qe (κ := Nat) (fun i => i ≤ b.ins.length) (fun i => b.ins.length - i) (fun i => [(sl 23, .int i)])
    (fun i => [(14, .vec 53 6 b.ins.length fun j => (qp ((q58 b i)[j]?.getD default)).map .d), (0, .box [.int b.params, .own 14 b.ins.length, .int b.kind, .int b.ta, .int b.to, .d (ql b.args), .int b.els, .d (ql b.elses)]), (1, .box [.int 0, .d (.lit (.slice none 0 0)), .int 0, .int 0, .int 0, .d (.lit (.slice none 0 0)), .int 0, .d (.lit (.slice none 0 0))])]) 21 0 (srcs [(14, .id 14), (0, .id 0), (1, .id 1)]) (by simp) (by simp [qrz]) ?_
  intro i hi
  have hlv : (q1h b).length = b.params.toNat + b.ins.length := q8t b
  have hfirst : IntKind.i64.wrap ((q1h b).length - b.ins.length) = b.params := by rw [hlv, qq (by omega)]; omega
  have hend : ∀ (kd ta to el : Int) (ar es : List Int), b.ins.length ≤ i → DLe (DV.agg [.int b.params, .sl 6 b.ins.length fun j => qp ((q58 b i)[j]?.getD default), .int kd, .int ta, .int to, ql ar, .int el, ql es]) (.agg (qd ⟨b.params, q1n b, kd, ta, to, ar, el, es⟩)) := fun kd ta to el ar es hge => by
    rw [qul hge]
    have e : (DV.sl 6 b.ins.length fun j => qp ((q1n b)[j]?.getD default)) = insD (q1n b) := by rw [← qw b]
    rw [e]
    exact DLe.refl _
  simp [hfirst]
  refine ⟨fun hlt => ?_, fun hge => ?_⟩
  · have hw : IntKind.i64.wrap (b.params + (i : Int)) = b.params + i := qq (by omega)
    have hin : (b.params + (i : Int)).toNat = b.params.toNat + i := by omega
    have hx := q87 (List.getElem?_eq_getElem hlt)
    have hat : (q1h b)[b.params.toNat + i]? = some (foldV (foldL (q4w b) (b.ins.take i)) b.ins[i]) := by
      have h := ql2 (l := q4w b) (List.getElem?_eq_getElem hlt)
      rw [q3s] at h
      exact h
    simp only [hw, hin, hat]
    refine ⟨⟨by omega, by omega⟩, ?_⟩
    generalize foldV (foldL (q4w b) (b.ins.take i)) b.ins[i] = o at *
    cases o with
    | none =>
      simp
      refine ⟨i + 1, by omega, by omega, srcs [(14, .id 14), (0, .id 0), (1, .id 1)], ?_⟩
      simp [SLeK]
      refine ⟨q6 (q5 (by omega)), fun j hj => ?_⟩
      rw [qhe hlt, hx]
      by_cases hji : j = i
      · subst hji
        rw [if_pos rfl, qxn hlt]
        simp [qxo]
      · rw [if_neg hji]
        simp
    | some v =>
      have hv0 : 0 ≤ v := (KnOk.foldL _ hk (.none b) v (List.mem_of_getElem? hat)).1
      simp
      refine ⟨hlt, i + 1, by omega, by omega, srcs [(14, .id 14), (0, .id 0), (1, .id 1)], ?_⟩
      simp [SLeK]
      refine ⟨q6 (q5 (by omega)), fun j hj => ?_⟩
      rw [qhe hlt, hx]
      by_cases hji : j = i
      · subst hji
        rw [if_pos rfl, if_pos rfl]
        simp [qxo]
        exact ⟨z4a (by rw [Int.max_eq_left hv0]), q3d⟩
      · rw [if_neg hji, if_neg hji]
        simp
  · generalize hL : q1h b = l at *
    refine ⟨fun h1 h2 h3 => ⟨⟨⟨h1, h2⟩, h3⟩, h2, h3⟩, fun h => ?_, fun h1 h2 h3 h4 => ⟨⟨h2, h3⟩, fun h5 => ?_, fun h5 => ?_⟩⟩
    · have e : q57 b = ⟨b.params, q1n b, b.kind, b.ta, b.to, b.args, b.els, b.elses⟩ := by
        unfold q57
        rw [hL]
        split
        · rename_i h1
          have : atO l b.ta = none := by
            unfold atO
            split
            · rename_i h2
              rcases h with ((h | h) | h) | h
              · exact absurd h1 h
              · omega
              · rw [List.getElem?_eq_none (by omega)]; rfl
              · exact h
            · rfl
          rw [this]
        · rfl
      rw [e]
      exact hend _ _ _ _ _ _ hge
    · obtain ⟨v, hv⟩ := Option.isSome_iff_exists.1 h4
      rw [hv] at h5
      simp only [Option.getD_some] at h5
      have e : q57 b = ⟨b.params, q1n b, 1, 0, b.els, b.elses, 0, []⟩ := by
        unfold q57
        have : atO l b.ta = some v := by unfold atO; rw [if_pos h2]; exact hv
        rw [hL, if_pos h1, this]
        exact if_pos h5
      rw [e]
      exact (qkv (cs := [_, _, _, _, _, _, _]) q3d).trans (hend _ _ _ _ _ _ hge)
    · obtain ⟨v, hv⟩ := Option.isSome_iff_exists.1 h4
      rw [hv] at h5
      simp only [Option.getD_some] at h5
      have e : q57 b = ⟨b.params, q1n b, 1, 0, b.to, b.args, 0, []⟩ := by
        unfold q57
        have : atO l b.ta = some v := by unfold atO; rw [if_pos h2]; exact hv
        rw [hL, if_pos h1, this]
        exact if_neg h5
      rw [e]
      exact (qkv (cs := [_, _, _, _, _, _, _]) q3d).trans (hend _ _ _ _ _ _ hge)
set_option maxRecDepth 10000 in
theorem z26 (f : Func) (hb : f.blocks.length ≤ 1000) (hp : ∀ b ∈ f.blocks, (0 ≤ b.params ∧ b.params ≤ 1000) ∧ b.ins.length ≤ 1000 ∧ ∀ x ∈ b.ins, x.k < 18446744073709551616) : APure Tryz.prog 66 [.agg (qm f)] (.agg (qm (qhd f))) := by
 refine qb _ _ Tryz.func66 (by kernel_rfl) qyw qzc rfl rfl (fun _ => ?_)
 simp [qls, qn9]
 refine q4 (ds := [q1k f.blocks, .fn 92 []]) _ (by simp) (by simp) (fun _ => by simp) (fun _ => z1y f.blocks (by omega) _ q57 fun b hbm => qxl b (hp b hbm).1 (hp b hbm).2.1 (hp b hbm).2.2) ?_
 simp
 exact DLe.refl _
set_option maxRecDepth 10000 in
theorem quj (m : Module) (hok : ModOk m) (hk : KOk' m) : APure Tryz.prog 39 [.agg (q8 m)] (.agg (q8 (qxm m))) := by
 refine qb _ _ Tryz.func39 (by kernel_rfl) qsz qtb rfl rfl (fun _ => ?_)
 simp [qgr, qhw]
 have hnf := hok.nf
 refine q4 (ds := [q24 m.funcs, .fn 66 []]) _ (by simp) (by simp) (fun _ => by simp) (fun _ => z1z m.funcs (by omega) _ qhd fun f hf => z26 f ?_ ?_) ?_
 ·have := q1v (hok.funcs f hf)
  omega
 ·intro b hb
  obtain ⟨h0, h6, h32, _⟩ := qh.1 (q35 (hok.funcs f hf) b hb)
  exact ⟨⟨h0, by omega⟩, by omega, hk f hf b hb⟩
 simp
 exact DLe.refl _
def rowK (b : Block) (j : Nat) : List DV := match (q1h b)[b.params.toNat + j]?.getD none with
 | some v => [.int 1, .int 0, .int 0, .lit (.int .u64 v), .str ⟨#[]⟩, .lit (.slice none 0 0)]
 | none => qp (b.ins[j]?.getD default)
theorem qw4 {b : Block} {j : Nat} (h : (q1h b)[b.params.toNat + j]? = some none) : rowK b j = qp (b.ins[j]?.getD default) := by unfold rowK; rw [h]; rfl
theorem qw6 {b : Block} {j : Nat} {v : Int} (h : (q1h b)[b.params.toNat + j]? = some (some v)) : rowK b j = [.int 1, .int 0, .int 0, .lit (.int .u64 v), .str ⟨#[]⟩, .lit (.slice none 0 0)] := by unfold rowK; rw [h]; rfl
theorem qw5 {b : Block} {i : Nat} {more : Nat → List DV} (h : more 0 = rowK b i) (j : Nat) (hj : j < i + 1) : q13 i (rowK b) more j = rowK b j := by
 unfold q13
 split
 ·rfl
 ·obtain rfl : j = i := by omega
  rw [Nat.sub_self, h]
theorem rowK_le (b : Block) (hk : ∀ x ∈ b.ins, x.k < 18446744073709551616) : DLe (.sl 6 b.ins.length (rowK b)) (insD (q1n b)) := by
  rw [show b.ins.length = (q1n b).length from (qw b).symm]
  refine qc1 fun i hi => ?_
  rw [qw] at hi
  have hx := q87 (List.getElem?_eq_getElem hi)
  have hat : (q1h b)[b.params.toNat + i]? = some (foldV (foldL (q4w b) (b.ins.take i)) b.ins[i]) := by
    have h := ql2 (l := q4w b) (List.getElem?_eq_getElem hi)
    rw [q3s] at h
    exact h
  rw [hx]
  generalize foldV (foldL (q4w b) (b.ins.take i)) b.ins[i] = o at *
  cases o with
  | none =>
    rw [qw4 hat, getD_some hi]
    simp [qxo, qp]
  | some v =>
    have hv0 : 0 ≤ v := (KnOk.foldL _ hk (.none b) v (List.mem_of_getElem? hat)).1
    rw [qw6 hat]
    simp [qxo, qp]
    exact ⟨z4a (by rw [Int.max_eq_left hv0]), q3d⟩
set_option maxRecDepth 10000 in
theorem qtx (b : Block) (hp : 0 ≤ b.params ∧ b.params ≤ 1000) (hn : b.ins.length ≤ 1000) (hk : ∀ x ∈ b.ins, x.k < 18446744073709551616) : APure Tryz.prog 44 [.agg (qd b)] (.agg (qd (q57 b))) := by
  refine qb _ _ Tryz.func44 (by kernel_rfl) qdx qea rfl rfl (fun _ => ?_)
  simp [q7g, q7t]
  refine q4 (ds := [.agg (qd b)]) _ (by simp) (by simp) (fun _ => by simp; rfl) (fun _ => qtl b hp.2 hn hk) ?_
  simp
  refine qe (κ := Nat) (fun i => i ≤ b.ins.length) (fun i => b.ins.length - i) (fun i => [(sl 5, .int i)])
    (fun i => [(0, .row 53 6 i (rowK b)), (10, .box [.int b.params, .own 0 i, .int b.kind, .int b.ta, .int b.to, .d (ql b.args), .int b.els, .d (ql b.elses)]), (1, .box [.int 0, .d (.lit (.slice none 0 0)), .int 0, .int 0, .int 0, .d (.lit (.slice none 0 0)), .int 0, .d (.lit (.slice none 0 0))])]) 21 0 (srcs [(0, .nil), (10, .id 10), (1, .id 1)]) (by simp) (by simp) ?_
  intro i hi
  have hlv : (q1h b).length = b.params.toNat + b.ins.length := q8t b
  have hfirst : IntKind.i64.wrap ((q1h b).length - b.ins.length) = b.params := by rw [hlv, qq (by omega)]; omega
  simp [hfirst]
  refine ⟨fun hlt => ?_, fun hge => ?_⟩
  · have hw : IntKind.i64.wrap (b.params + (i : Int)) = b.params + i := qq (by omega)
    have hin : (b.params + (i : Int)).toNat = b.params.toNat + i := by omega
    have hx := q87 (List.getElem?_eq_getElem hlt)
    have hat : (q1h b)[b.params.toNat + i]? = some (foldV (foldL (q4w b) (b.ins.take i)) b.ins[i]) := by
      have h := ql2 (l := q4w b) (List.getElem?_eq_getElem hlt)
      rw [q3s] at h
      exact h
    simp only [hw, hin, hat]
    refine ⟨⟨by omega, by omega⟩, ?_⟩
    generalize foldV (foldL (q4w b) (b.ins.take i)) b.ins[i] = o at *
    cases o with
    | none =>
      simp
      refine ⟨hlt, by omega, i + 1, by omega, by omega, srcs [(0, .id 49), (10, .id 10), (1, .id 1)], ?_⟩
      simp [SLeK]
      exact ⟨q6 (q5 (by omega)), fun j hj => qw5 (by rw [qw4 hat]; rfl) j hj⟩
    | some v =>
      simp
      refine ⟨by omega, i + 1, by omega, by omega, srcs [(0, .id 47), (10, .id 10), (1, .id 1)], ?_⟩
      simp [SLeK]
      exact ⟨q6 (q5 (by omega)), fun j hj => qw5 (by rw [qw6 hat]; rfl) j hj⟩
  · obtain rfl : i = b.ins.length := by omega
    refine q4 (ds := [knsD (q1h b), .int b.ta]) _ (by simp) (by simp) (fun _ => by simp) (fun _ => qc3 _ b.ta) ?_
    have hend : ∀ (kd ta to el : Int) (ar es : List Int), DLe (DV.agg [.int b.params, .sl 6 b.ins.length (rowK b), .int kd, .int ta, .int to, ql ar, .int el, ql es]) (.agg (qd ⟨b.params, q1n b, kd, ta, to, ar, el, es⟩)) := fun kd ta to el ar es => by
      refine DLe.agg (by simp) fun j h1 h2 => ?_
      match j, h1 with
      | 0, _ | 2, _ | 3, _ | 4, _ | 5, _ | 6, _ | 7, _ => exact DLe.refl _
      | 1, _ => exact rowK_le b hk
    cases hv : atO (q1h b) b.ta with
    | none =>
      have e : q57 b = ⟨b.params, q1n b, b.kind, b.ta, b.to, b.args, b.els, b.elses⟩ := by
        unfold q57
        rw [hv]
        split <;> rfl
      simp [hv]
      rw [e]
      exact hend _ _ _ _ _ _
    | some v =>
      by_cases h1 : b.kind = 2
      · by_cases h2 : v = 0
        · have e : q57 b = ⟨b.params, q1n b, 1, 0, b.els, b.elses, 0, []⟩ := by
            unfold q57
            rw [hv, if_pos h1]
            exact if_pos h2
          simp [hv, h1, h2]
          rw [e]
          exact (qkv (cs := [_, _, _, _, _, _, _]) q3d).trans (hend _ _ _ _ _ _)
        · have e : q57 b = ⟨b.params, q1n b, 1, 0, b.to, b.args, 0, []⟩ := by
            unfold q57
            rw [hv, if_pos h1]
            exact if_neg h2
          simp [hv, h1, h2]
          rw [e]
          exact (qkv (cs := [_, _, _, _, _, _, _]) q3d).trans (hend _ _ _ _ _ _)
      · have e : q57 b = ⟨b.params, q1n b, b.kind, b.ta, b.to, b.args, b.els, b.elses⟩ := by
          unfold q57
          rw [if_neg h1]
        simp [hv, h1]
        rw [e]
        exact hend _ _ _ _ _ _
set_option maxRecDepth 10000 in
theorem qse (m : Module) (hok : ModOk m) (hk : KOk' m) : APure Tryz.prog 26 [.agg (q8 m)] (.agg (q8 (qxm m))) := by
 refine qb _ _ Tryz.func26 (by kernel_rfl) qcv qd4 rfl rfl (fun _ => ?_)
 simp [q6h, q6s]
 have hnf := hok.nf
 obtain ⟨fs, hfs⟩ : ∃ fs, m.funcs.map qhd = fs := ⟨_, rfl⟩
 have hfl : fs.length = m.funcs.length := by rw [← hfs]; simp
 refine qe (κ := Nat) (fun i => i ≤ m.funcs.length) (fun i => m.funcs.length - i) (fun i => [(sl 4, .int i)])
  (fun i => [(0, .row 61 4 i fun j => qm (fs[j]?.getD default)), (5, .box [.own 0 i, .d (q2u m.globs)]), (1, .box [.d (.lit (.slice none 0 0)), .d (.lit (.slice none 0 0))])]) 8 0 (srcs [(0, .nil), (5, .id 5), (1, .id 1)]) (by simp) (by simp) ?_
 intro i hi
 simp
 refine ⟨fun hlt => ?_, fun hge => ?_⟩
 rotate_left
 ·obtain rfl : i = m.funcs.length := by omega
  have e : qxm m = { m with funcs := fs } := by unfold qxm mapM; rw [hfs]
  rw [e]
  refine DLe.of_eq ?_
  simp [q8, q24, hfl]
 refine ⟨hlt, ?_⟩
 rw [getD_some hlt]
 obtain ⟨f, hf⟩ : ∃ f, m.funcs[i] = f := ⟨_, rfl⟩
 have hfm : f ∈ m.funcs := by rw [← hf]; exact List.getElem_mem hlt
 have hfo := hok.funcs f hfm
 have hbl := q1v hfo
 simp only [hf]
 obtain ⟨bs, hbs⟩ : ∃ bs, f.blocks.map q57 = bs := ⟨_, rfl⟩
 have hbsl : bs.length = f.blocks.length := by rw [← hbs]; simp
 have hfi : fs[i]?.getD default = { f with blocks := bs } := by rw [← hfs, ← hbs]; simp [hlt, hf, qhd]
 refine qe (κ := Nat) (fun k => k ≤ f.blocks.length) (fun k => f.blocks.length - k) (fun k => [(sl 7, .int k)])
  (fun k => [(2, .row 58 8 k fun j => qd (bs[j]?.getD default)), (27, .box [.d (.str f.name), .d (.int f.bind), .d (.int f.params), .own 2 k]), (0, .row 61 4 i fun j => qm (fs[j]?.getD default)), (5, .box [.own 0 i, .d (q2u m.globs)]), (1, .box [.d (.lit (.slice none 0 0)), .d (.lit (.slice none 0 0))])])
  31 0 (srcs [(2, .nil), (27, .id 27), (0, .id 0), (5, .id 5), (1, .id 1)]) (by simp) (by simp) ?_
 intro k hk1
 simp
 refine ⟨fun hkl => ?_, fun hge => ?_⟩
 ·refine ⟨hkl, ?_⟩
  rw [getD_some hkl]
  have hbo : qj f f.blocks[k] = true := q31 hfo hkl
  obtain ⟨h0, h6, h32, _⟩ := qh.1 hbo
  refine q4 (ds := [.agg (qd f.blocks[k])]) _ (by simp) (by simp) (fun _ => by simp; rfl) (fun _ => qtx f.blocks[k] ⟨h0, by omega⟩ (by omega) (hk f hfm _ (List.getElem_mem hkl))) ?_
  simp
  refine ⟨by omega, k + 1, by omega, by omega, srcs [(2, .id 45), (27, .id 27), (0, .id 0), (5, .id 5), (1, .id 1)], ?_⟩
  simp [SLeK]
  refine ⟨q6 (q5 (by omega)), fun j hj => ?_⟩
  unfold q13
  split
  ·rfl
  ·obtain rfl : j = k := by omega
   rw [← hbs]
   simp [hkl, qd]
 ·obtain rfl : k = f.blocks.length := by omega
  refine ⟨by omega, i + 1, by omega, by omega, srcs [(0, .id 40), (5, .id 5), (1, .id 1)], ?_⟩
  simp [SLeK]
  refine ⟨q6 (q5 (by omega)), fun j hj => ?_⟩
  unfold q13
  split
  ·rfl
  ·obtain rfl : j = i := by omega
   rw [hfi]
   simp [qm, q1k, hbsl]
def qly : ACode :=
 (.seq (.reg [Ro 1 (.box true (Sv 0)), Ro 2 (.mv (.c (.bool false)))])
 (.seq (.reg [Ro 3 (Fd 1 0), Ro 4 (Ld 3), Ro 5 (.bin .eql (Sv 4) (Ci 13)), Ro 6 (Mv 5), Rg 7 6 false (Fd 1 0), Rg 8 6 false (Ld 7), Rg 9 6 false (.bin .eql (Sv 8) (Ci 14)), Ro 10 (.pick (Sv 6) (.c (.bool true)) (Sv 9)), Ro 11 (Mv 10), Rg 12 11 false (Fd 1 0), Rg 13 11 false (Ld 12), Rg 14 11 false (.bin .eql (Sv 13) (Ci 15)), Ro 15 (.pick (Sv 11) (.c (.bool true)) (Sv 14)), Ro 16 (Mv 15), Rg 17 16 false (Fd 1 0), Rg 18 16 false (Ld 17), Rg 19 16 false (.bin .eql (Sv 18) (Ci 16)), Ro 20 (.pick (Sv 16) (.c (.bool true)) (Sv 19)), Ro 2 (Mv 20)])
 .ret))
def qnf : List ARes := [(.tmp (sl 2))]
theorem qz2 : (Tryz.f116).body.bind (q9 Tryz.prog 8 (Tryz.f116).ntmps [] [] (drOk 8)) = some qly := by kernel_rfl
theorem qzi : qa Tryz.prog 8 (Tryz.f116).results.toList = some qnf := by kernel_rfl
def qlz : ACode :=
 (.seq (.reg [Ro 1 (.box true (Sv 0)), Ro 2 (.mv (.c (.slice none 0 0)))])
 (.seq (.reg [Rl 4 (Fd 1 3) 0, Rl 5 (Ld 4) 1, Rl 6 (.callo 3 1 (.f 137) [Sv 5]) 2, Rl 7 (Fd 1 5) 3, Rl 8 (Ld 7) 4, Rl 9 (.app 3 1 8 (Sv 6) (Sv 8)) 5, Rl 3 (Mv 9) 6])
 (.seq (.seq (.reg [Ro 10 (Fd 1 0), Ro 11 (Ld 10), Ro 12 (.bin .neq (Sv 11) (Ci 1))])
 (.cond (Sv 12)
 (.reg [Ro 13 (Mv 3), Ro 14 (Fd 1 1), Ro 15 (Ld 14), Ro 16 (.mksl 1 1 [(.int .i64 0)] [(0, 1, (Sv 15))]), Ro 17 (.app 3 1 8 (Sv 13) (Sv 16)), Ro 3 (Mv 17)])
 .skip))
 (.seq (.reg [Ro 18 (Mv 3), Ro 2 (Mv 18)])
 .ret))))
def qng : List ARes := [(.tmp (sl 2))]
theorem qz3 : (Tryz.f136).body.bind (q9 Tryz.prog 8 (Tryz.f136).ntmps [2, 3, 6, 9, 13, 17, 18] [(137, 3, 1)] (drOk 8)) = some qlz := by kernel_rfl
theorem qzj : qa Tryz.prog 8 (Tryz.f136).results.toList = some qng := by kernel_rfl
def qlx : ACode :=
 (.seq (.reg [Ro 1 (.box true (Sv 0)), Ro 2 (.mv (.c (.slice none 0 0)))])
 (.seq (.reg [Ro 7 (Lk 1 8), Ro 8 (.call true (.f 130) [Sv 7]), Ro 9 (.vop 3 4 1 1 (Sv 8) (.c (.agg #[(.bool false)]))), Ro 3 (.new [(.slice none 0 0)]), Rn (.st (Sv 3) (Sv 9) 1)])
 (.seq (.reg [Ro 10 (.mkfn 135 [Sv 3]), Ro 4 (Mv 10)])
 (.seq (.reg [Ro 11 (Mv 4), Ro 12 (Fd 1 2), Ro 13 (Lk 12 6), Ro 14 (.call true (.f 136) [Sv 13]), Ro 15 (.calle (Sv 11) [Sv 14])])
 (.seq .skip
 (.seq (.seq (.reg [Ro 16 (Fd 1 1), Ro 17 (Ld 16), Ro 18 (.len false (Sv 17)), Ro 19 (.bin .sub (Sv 18) (Ci 1)), Ro 5 (Mv 19)])
 (.block 0
 (.loop (.seq (.seq (.reg [Ro 20 (Mv 5), Ro 21 (.bin .geq (Sv 20) (Ci 0))])
 (.cond (Sv 21)
 .skip
 (.exit 0)))
 (.seq (.block 1
 (.seq (.seq (.reg [Ro 24 (Fd 1 1), Ro 25 (Ld 24), Ro 26 (Mv 5), Ro 27 (.idx true (Sv 25) (Sv 26) 6), Ro 28 (Lk 27 6), Ro 6 (.new [(.int .i64 0), (.int .i64 0), (.int .i64 0), (.int .u64 0), (.string ⟨#[]⟩), (.slice none 0 0)]), Rn (.ini 1 (Sv 6) (Sv 28) 6)])
 (.frz (sl 6)))
 (.seq (.seq (.reg [Ro 29 (Lk 6 6), Ro 30 (.call true (.f 116) [Sv 29]), Ro 31 (.not (Sv 30)), Ro 32 (Mv 31), Rg 33 32 true (.ld false (Sv 3) none), Rg 34 32 true (Fd 1 0), Rg 35 32 true (Ld 34), Rg 36 32 true (Mv 5), Rg 37 32 true (.bin .add (Sv 35) (Sv 36)), Rg 38 32 true (.idx false (Sv 33) (Sv 37) 1), Rg 39 32 true (.ld false (Sv 38) none), Rg 40 32 true (.not (Sv 39)), Ro 41 (.pick (Sv 32) (Sv 40) (.c (.bool false)))])
 (.cond (Sv 41)
 (.exit 1)
 .skip))
 (.reg [Ro 42 (Mv 4), Ro 43 (Lk 6 6), Ro 44 (.call true (.f 117) [Sv 43]), Ro 45 (.calle (Sv 42) [Sv 44])]))))
 (.reg [Ro 22 (Mv 5), Ro 23 (.bin .sub (Sv 22) (Ci 1)), Ro 5 (Mv 23)]))))))
 (.seq (.reg [Ro 46 (.ld false (Sv 3) none), Ro 2 (Mv 46)])
 .ret)))))))
def qne : List ARes := [(.tmp (sl 2))]
theorem qz1 : (Tryz.f115).body.bind (q9 Tryz.prog 8 (Tryz.f115).ntmps [2, 3, 4, 10, 11, 33, 38, 39, 42, 46] [(6000009, 0, 1), (8000003, 0, 1), (1000011, 0, 0), (1000042, 0, 0)] (drOk 8)) = some qlx := by kernel_rfl
theorem qzh : qa Tryz.prog 8 (Tryz.f115).results.toList = some qne := by kernel_rfl
def qgz : ACode :=
 (.seq (.reg [Ro 5 (Mv 0), Ro 6 (.len false (Sv 5)), Ro 7 (.mv (Ci 0))])
 (.block 0
 (.loop (.seq (.reg [Ro 8 (.bin .lss (Sv 7) (Sv 6))])
 (.seq (.cond (Sv 8)
 .skip
 (.exit 0))
 (.seq (.block 1
 (.seq (.reg [Ro 9 (.idx true (Sv 5) (Sv 7) 1), Ro 10 (Ld 9), Ro 4 (Mv 10)])
 (.reg [Ro 11 (.ld false (Sv 1) none), Ro 12 (Mv 4), Ro 13 (.idx false (Sv 11) (Sv 12) 1), Rn (.st (Sv 13) (.c (.bool true)) 1)])))
 (.reg [Ro 14 (.bin .add (Sv 7) (Ci 1)), Ro 7 (Mv 14)])))))))
def qi4 : List ARes := []
theorem qt7 : (Tryz.f135).body.bind (q9 Tryz.prog 8 (Tryz.f135).ntmps [1, 11, 13] [] (drOk 8)) = some qgz := by kernel_rfl
theorem qtj : qa Tryz.prog 8 (Tryz.f135).results.toList = some qi4 := by kernel_rfl
def qbj : ACode :=
 (.seq (.reg [Ro 4 (.mv (.c (.slice none 0 0)))])
 (.seq (.reg [Ro 5 (.mv (.c (.slice none 0 0)))])
 (.seq (.seq (.reg [Ro 8 (Mv 0), Ro 9 (.len false (Sv 8)), Ro 10 (.mv (Ci 0))])
 (.block 0
 (.loop (.seq (.reg [Ro 11 (.bin .lss (Sv 10) (Sv 9))])
 (.seq (.cond (Sv 11)
 .skip
 (.exit 0))
 (.seq (.block 1
 (.seq (.reg [Ro 12 (.idx true (Sv 8) (Sv 10) 1), Ro 13 (Ld 12), Ro 7 (Mv 13)])
 (.reg [Ro 14 (Mv 5), Ro 15 (Mv 1), Ro 16 (Mv 7), Ro 17 (.mget (Sv 15) (Sv 16) false (.int .i64) (.int .i64 0)), Ro 18 (.mksl 1 1 [(.int .i64 0)] [(0, 1, (Sv 17))]), Ro 19 (.app 3 1 8 (Sv 14) (Sv 18)), Ro 5 (Mv 19)])))
 (.reg [Ro 20 (.bin .add (Sv 10) (Ci 1)), Ro 10 (Mv 20)])))))))
 (.seq (.reg [Ro 21 (Mv 5), Ro 4 (Mv 21)])
 .ret))))
def qbo : List ARes := [(.tmp (sl 4))]
theorem qkn : (Tryz.f118).body.bind (q9 Tryz.prog 8 (Tryz.f118).ntmps [4, 5, 14, 19, 21] [] (drOk 8)) = some qbj := by kernel_rfl
theorem qkr : qa Tryz.prog 8 (Tryz.f118).results.toList = some qbo := by kernel_rfl
def qjn : ACode :=
 (.seq (.reg [Ro 1 (.box true (Sv 0)), Ro 2 (.new [(.int .i64 0), (.slice none 0 0), (.int .i64 0), (.int .i64 0), (.int .i64 0), (.slice none 0 0), (.int .i64 0), (.slice none 0 0)])])
 (.seq (.reg [Ro 10 (Lk 1 8), Ro 11 (.call true (.f 115) [Sv 10]), Ro 3 (Mv 11)])
 (.seq (.reg [Ro 12 (.mmk (.int .i64)), Ro 4 (Mv 12)])
 (.seq (.seq (.reg [Ro 13 (Fd 1 0), Ro 14 (Ld 13), Ro 15 (.mv (Ci 0))])
 (.block 0
 (.loop (.seq (.reg [Ro 16 (.bin .lss (Sv 15) (Sv 14))])
 (.seq (.cond (Sv 16)
 .skip
 (.exit 0))
 (.seq (.block 1
 (.seq (.reg [Ro 17 (Mv 15), Ro 5 (Mv 17)])
 (.reg [Ro 18 (Mv 4), Ro 19 (Mv 5), Ro 20 (Mv 5), Rn (.mset false (Sv 18) (Sv 19) (Sv 20) (.int .i64))])))
 (.reg [Ro 21 (.bin .add (Sv 15) (Ci 1)), Ro 15 (Mv 21)])))))))
 (.seq (.reg [Ro 6 (.mv (.c (.slice none 0 0)))])
 (.seq (.seq (.reg [Ro 22 (Fd 1 1), Ro 23 (Ld 22), Ro 24 (.len false (Sv 23)), Ro 25 (.mv (Ci 0))])
 (.block 2
 (.loop (.seq (.reg [Ro 26 (.bin .lss (Sv 25) (Sv 24))])
 (.seq (.cond (Sv 26)
 .skip
 (.exit 2))
 (.seq (.block 3
 (.seq (.reg [Ro 27 (Mv 25), Ro 28 (.idx true (Sv 23) (Sv 25) 6), Ro 29 (Lk 28 6), Ro 8 (.new [(.int .i64 0), (.int .i64 0), (.int .i64 0), (.int .u64 0), (.string ⟨#[]⟩), (.slice none 0 0)]), Ro 7 (Mv 27), Rn (.ini 2 (Sv 8) (Sv 29) 6)])
 (.seq (.seq (.reg [Ro 30 (.ld false (Sv 8) (some 6)), Ro 31 (.call false (.f 116) [Sv 30]), Ro 32 (.not (Sv 31)), Ro 33 (Mv 32), Rg 34 33 true (Mv 3), Rg 35 33 true (Fd 1 0), Rg 36 33 true (Ld 35), Rg 37 33 true (Mv 7), Rg 38 33 true (.bin .add (Sv 36) (Sv 37)), Rg 39 33 true (.idx true (Sv 34) (Sv 38) 1), Rg 40 33 true (Ld 39), Rg 41 33 true (.not (Sv 40)), Ro 42 (.pick (Sv 33) (Sv 41) (.c (.bool false)))])
 (.cond (Sv 42)
 (.exit 3)
 .skip))
 (.seq (.reg [Ro 43 (Mv 4), Ro 44 (Fd 1 0), Ro 45 (Ld 44), Ro 46 (Mv 7), Ro 47 (.bin .add (Sv 45) (Sv 46)), Ro 48 (Fd 1 0), Ro 49 (Ld 48), Ro 50 (Mv 6), Ro 51 (.len false (Sv 50)), Ro 52 (.bin .add (Sv 49) (Sv 51)), Rn (.mset false (Sv 43) (Sv 47) (Sv 52) (.int .i64))])
 (.seq (.seq (.reg [Ro 53 (.ld false (Sv 8) (some 6)), Ro 54 (.call false (.f 117) [Sv 53]), Ro 55 (.len false (Sv 54)), Ro 56 (.bin .gtr (Sv 55) (Ci 0))])
 (.cond (Sv 56)
 (.seq (.reg [Rl 57 (Mv 4) 0, Rl 58 (Fd 8 1) 1, Rl 59 (.ld false (Sv 58) none) 2, Rl 60 (.mget (Sv 57) (Sv 59) false (.int .i64) (.int .i64 0)) 3, Rl 61 (Mv 4) 4, Rl 62 (Fd 8 2) 5, Rl 63 (.ld false (Sv 62) none) 6, Rl 64 (.mget (Sv 61) (Sv 63) false (.int .i64) (.int .i64 0)) 7, Rl 65 (Fd 8 1) 8, ⟨none, none, (.st (Sv 65) (Sv 60) 1), (some (9, []))⟩, Rl 66 (Fd 8 2) 10, ⟨none, none, (.st (Sv 66) (Sv 64) 1), (some (11, []))⟩])
 (.reg [Ro 67 (Fd 8 5), Ro 68 (.ld false (Sv 67) none), Ro 69 (Mv 4), Ro 70 (.calle (.f 118) [Sv 68, Sv 69]), Ro 71 (Fd 8 5), Rn (.st (Sv 71) (Sv 70) 1)]))
 .skip))
 (.seq (.seq (.reg [Ro 72 (Fd 8 0), Ro 73 (.ld false (Sv 72) none), Ro 74 (.bin .eql (Sv 73) (Ci 14)), Ro 75 (Mv 74), Rg 76 75 false (Fd 8 0), Rg 77 75 false (.ld false (Sv 76) none), Rg 78 75 false (.bin .eql (Sv 77) (Ci 13)), Ro 79 (.pick (Sv 75) (.c (.bool true)) (Sv 78)), Ro 80 (Mv 79), Rg 81 80 false (Fd 8 0), Rg 82 80 false (.ld false (Sv 81) none), Rg 83 80 false (.bin .eql (Sv 82) (Ci 16)), Ro 84 (.pick (Sv 80) (.c (.bool true)) (Sv 83))])
 (.cond (Sv 84)
 (.reg [Ro 85 (Fd 8 2), Rn (.st (Sv 85) (Ci 0) 1)])
 .skip))
 (.seq (.seq (.reg [Ro 86 (Fd 8 0), Ro 87 (.ld false (Sv 86) none), Ro 88 (.bin .eql (Sv 87) (Ci 14))])
 (.cond (Sv 88)
 (.reg [Ro 89 (Fd 8 1), Rn (.st (Sv 89) (Ci 0) 1)])
 .skip))
 (.reg [Ro 90 (Mv 6), Ro 91 (.ld false (Sv 8) (some 6)), Ro 92 (.mksl 6 1 [(.int .i64 0), (.int .i64 0), (.int .i64 0), (.int .u64 0), (.string ⟨#[]⟩), (.slice none 0 0)] [(0, 6, (Sv 91))]), Ro 93 (.app 53 6 72 (Sv 90) (Sv 92)), Ro 6 (Mv 93)]))))))))
 (.reg [Ro 94 (.bin .add (Sv 25) (Ci 1)), Ro 25 (Mv 94)])))))))
 (.seq (.reg [Ro 95 (Fd 1 2), Ro 96 (Lk 95 6), Ro 9 (.new [(.int .i64 0), (.int .i64 0), (.int .i64 0), (.slice none 0 0), (.int .i64 0), (.slice none 0 0)]), Rn (.ini 1 (Sv 9) (Sv 96) 6)])
 (.seq (.reg [Rl 97 (Fd 9 3) 0, Rl 98 (.ldk 43 (Sv 97) none) 1, Rl 99 (Mv 4) 2, Rl 100 (.callk 43 (.f 118) [Sv 98, Sv 99]) 3, Rl 101 (Fd 9 5) 4, Rl 102 (.ldk 43 (Sv 101) none) 5, Rl 103 (Mv 4) 6, Rl 104 (.callk 43 (.f 118) [Sv 102, Sv 103]) 7, Rl 105 (Fd 9 3) 8, ⟨none, none, (.st (Sv 105) (Sv 100) 1), (some (9, []))⟩, Rl 106 (Fd 9 5) 10, ⟨none, none, (.st (Sv 106) (Sv 104) 1), (some (11, []))⟩])
 (.seq (.seq (.reg [Ro 107 (Fd 9 0), Ro 108 (.ld false (Sv 107) none), Ro 109 (.bin .neq (Sv 108) (Ci 1))])
 (.cond (Sv 109)
 (.reg [Ro 110 (Mv 4), Ro 111 (Fd 9 1), Ro 112 (.ld false (Sv 111) none), Ro 113 (.mget (Sv 110) (Sv 112) false (.int .i64) (.int .i64 0)), Ro 114 (Fd 9 1), Rn (.st (Sv 114) (Sv 113) 1)])
 .skip))
 (.seq (.reg [Ro 115 (Fd 1 0), Ro 116 (Ld 115), Ro 117 (Mv 6), Ro 118 (.ld false (Sv 9) (some 6)), Ro 119 (.bld [(.int .i64 0), (.slice none 0 0), (.int .i64 0), (.int .i64 0), (.int .i64 0), (.slice none 0 0), (.int .i64 0), (.slice none 0 0)] [(0, 1, (Sv 116)), (1, 1, (Sv 117)), (2, 6, (Sv 118))]), Rn (.st (Sv 2) (Sv 119) 8)])
 .ret))))))))))
def qk4 : List ARes := [(.cell (sl 2) (some 8))]
theorem qwo : (Tryz.f94).body.bind (q9 Tryz.prog 8 (Tryz.f94).ntmps [2, 6, 8, 9, 30, 50, 53, 58, 59, 62, 63, 65, 66, 67, 68, 70, 71, 72, 73, 76, 77, 81, 82, 85, 86, 87, 89, 90, 91, 92, 93, 97, 98, 100, 101, 102, 104, 105, 106, 107, 108, 111, 112, 114, 117, 118, 119] [(118, 0, 0), (7000098, 0, 43), (7000100, 0, 43), (7000102, 0, 43), (7000104, 0, 43)] (drOk 8)) = some qjn := by kernel_rfl
theorem qx3 : qa Tryz.prog 8 (Tryz.f94).results.toList = some qk4 := by kernel_rfl
def qej : ACode :=
 (.seq (.reg [Ro 1 (.box true (Sv 0)), Ro 2 (.mv (.c (.slice none 0 0)))])
 (.seq (.reg [Ro 5 (Fd 1 3), Ro 6 (Ld 5), Ro 7 (.len false (Sv 6)), Ro 8 (.vop 3 4 1 1 (Sv 7) (.c (.agg #[(.bool false)]))), Ro 3 (.new [(.slice none 0 0)]), Rn (.st (Sv 3) (Sv 8) 1)])
 (.seq (.reg [Ro 4 (.new [.nilFunc])])
 (.seq (.reg [Ro 9 (.mkfn 114 [Sv 3, Sv 1, Sv 4]), Rn (.st (Sv 4) (Sv 9) 1)])
 (.seq (.seq (.reg [Ro 10 (.ld false (Sv 3) none), Ro 11 (.len false (Sv 10)), Ro 12 (.bin .gtr (Sv 11) (Ci 0))])
 (.cond (Sv 12)
 (.reg [Ro 13 (.ld false (Sv 4) none), Ro 14 (.calle (Sv 13) [Ci 0])])
 .skip))
 (.seq (.reg [Ro 15 (.ld false (Sv 3) none), Ro 2 (Mv 15)])
 .ret))))))
def qeq : List ARes := [(.tmp (sl 2))]
theorem qor : (Tryz.f93).body.bind (q9 Tryz.prog 8 (Tryz.f93).ntmps [2, 3, 4, 9, 10, 13, 15] [(6000008, 0, 1), (8000003, 0, 1), (1000013, 0, 0)] (drOk 8)) = some qej := by kernel_rfl
theorem qox : qa Tryz.prog 8 (Tryz.f93).results.toList = some qeq := by kernel_rfl
def q3a : ACode :=
 (.seq (.seq (.reg [Ro 6 (.ld false (Sv 1) none), Ro 7 (Mv 0), Ro 8 (.idx false (Sv 6) (Sv 7) 1), Ro 9 (.ld false (Sv 8) none)])
 (.cond (Sv 9)
 .ret
 .skip))
 (.seq (.reg [Ro 10 (.ld false (Sv 1) none), Ro 11 (Mv 0), Ro 12 (.idx false (Sv 10) (Sv 11) 1), Rn (.st (Sv 12) (.c (.bool true)) 1)])
 (.seq (.seq (.reg [Ro 13 (Fd 2 3), Ro 14 (Ld 13), Ro 15 (Mv 0), Ro 16 (.idx true (Sv 14) (Sv 15) 8), Ro 17 (Fd 16 2), Ro 18 (Lk 17 6), Ro 5 (.new [(.int .i64 0), (.int .i64 0), (.int .i64 0), (.slice none 0 0), (.int .i64 0), (.slice none 0 0)]), Rn (.ini 1 (Sv 5) (Sv 18) 6)])
 (.frz (sl 5)))
 (.seq (.seq (.reg [Ro 19 (Fd 5 0), Ro 20 (Ld 19), Ro 21 (.bin .neq (Sv 20) (Ci 3))])
 (.cond (Sv 21)
 (.reg [Ro 22 (.ld false (Sv 3) none), Ro 23 (Fd 5 2), Ro 24 (Ld 23), Ro 25 (.calle (Sv 22) [Sv 24])])
 .skip))
 (.seq (.reg [Ro 26 (Fd 5 0), Ro 27 (Ld 26), Ro 28 (.bin .eql (Sv 27) (Ci 2))])
 (.cond (Sv 28)
 (.reg [Ro 29 (.ld false (Sv 3) none), Ro 30 (Fd 5 4), Ro 31 (Ld 30), Ro 32 (.calle (Sv 29) [Sv 31])])
 .skip))))))
def q3f : List ARes := []
theorem qkm : (Tryz.f114).body.bind (q9 Tryz.prog 8 (Tryz.f114).ntmps [1, 3, 6, 8, 9, 10, 12, 22, 29] [(1000022, 0, 0), (1000029, 0, 0)] (drOk 8)) = some q3a := by kernel_rfl
theorem qkq : qa Tryz.prog 8 (Tryz.f114).results.toList = some q3f := by kernel_rfl
def qlw : ACode :=
 (.seq (.reg [Ro 1 (.box false (Sv 0)), Ro 2 (.new [(.string ⟨#[]⟩), (.int .i64 0), (.int .i64 0), (.slice none 0 0)])])
 (.seq (.reg [Ro 11 (.ld false (Sv 1) (some 4)), Ro 12 (.call false (.f 93) [Sv 11]), Ro 3 (Mv 12)])
 (.seq (.reg [Ro 13 (.mmk (.int .i64)), Ro 4 (Mv 13)])
 (.seq (.reg [Ro 5 (.mv (Ci 0))])
 (.seq (.seq (.reg [Ro 14 (Mv 3), Ro 15 (.len false (Sv 14)), Ro 16 (.mv (Ci 0))])
 (.block 0
 (.loop (.seq (.reg [Ro 17 (.bin .lss (Sv 16) (Sv 15))])
 (.seq (.cond (Sv 17)
 .skip
 (.exit 0))
 (.seq (.block 1
 (.seq (.reg [Ro 18 (Mv 16), Ro 19 (.idx true (Sv 14) (Sv 16) 1), Ro 20 (Ld 19), Ro 6 (Mv 18), Ro 7 (Mv 20)])
 (.seq (.reg [Ro 21 (Mv 7)])
 (.cond (Sv 21)
 (.seq (.reg [Ro 22 (Mv 4), Ro 23 (Mv 6), Ro 24 (Mv 5), Rn (.mset false (Sv 22) (Sv 23) (Sv 24) (.int .i64))])
 (.reg [Ro 25 (Mv 5), Ro 26 (.bin .add (Sv 25) (Ci 1)), Ro 5 (Mv 26)]))
 .skip))))
 (.reg [Ro 27 (.bin .add (Sv 16) (Ci 1)), Ro 16 (Mv 27)])))))))
 (.seq (.reg [Ro 8 (.mv (.c (.slice none 0 0)))])
 (.seq (.seq (.reg [Ro 28 (Fd 1 3), Ro 29 (.ld false (Sv 28) none), Ro 30 (.len false (Sv 29)), Ro 31 (.mv (Ci 0))])
 (.block 2
 (.loop (.seq (.reg [Ro 32 (.bin .lss (Sv 31) (Sv 30))])
 (.seq (.cond (Sv 32)
 .skip
 (.exit 2))
 (.seq (.block 3
 (.seq (.reg [Ro 33 (Mv 31), Ro 34 (.idx false (Sv 29) (Sv 31) 8), Ro 35 (.ld false (Sv 34) (some 8)), Ro 10 (.new [(.int .i64 0), (.slice none 0 0), (.int .i64 0), (.int .i64 0), (.int .i64 0), (.slice none 0 0), (.int .i64 0), (.slice none 0 0)]), Ro 9 (Mv 33), Rn (.ini 2 (Sv 10) (Sv 35) 8)])
 (.seq (.seq (.reg [Ro 36 (Mv 3), Ro 37 (Mv 9), Ro 38 (.idx true (Sv 36) (Sv 37) 1), Ro 39 (Ld 38), Ro 40 (.not (Sv 39))])
 (.cond (Sv 40)
 (.exit 3)
 .skip))
 (.seq (.reg [Ro 41 (.ld false (Sv 10) (some 8)), Ro 42 (.call false (.f 94) [Sv 41]), Rn (.st (Sv 10) (Sv 42) 8)])
 (.seq (.seq (.reg [Ro 43 (Fd 10 2), Ro 44 (Fd 43 0), Ro 45 (.ld false (Sv 44) none), Ro 46 (.bin .neq (Sv 45) (Ci 3))])
 (.cond (Sv 46)
 (.reg [Ro 47 (Mv 4), Ro 48 (Fd 10 2), Ro 49 (Fd 48 2), Ro 50 (.ld false (Sv 49) none), Ro 51 (.mget (Sv 47) (Sv 50) false (.int .i64) (.int .i64 0)), Ro 52 (Fd 10 2), Ro 53 (Fd 52 2), Rn (.st (Sv 53) (Sv 51) 1)])
 .skip))
 (.seq (.seq (.reg [Ro 54 (Fd 10 2), Ro 55 (Fd 54 0), Ro 56 (.ld false (Sv 55) none), Ro 57 (.bin .eql (Sv 56) (Ci 2))])
 (.cond (Sv 57)
 (.reg [Ro 58 (Mv 4), Ro 59 (Fd 10 2), Ro 60 (Fd 59 4), Ro 61 (.ld false (Sv 60) none), Ro 62 (.mget (Sv 58) (Sv 61) false (.int .i64) (.int .i64 0)), Ro 63 (Fd 10 2), Ro 64 (Fd 63 4), Rn (.st (Sv 64) (Sv 62) 1)])
 .skip))
 (.reg [Ro 65 (Mv 8), Ro 66 (.ld false (Sv 10) (some 8)), Ro 67 (.mksl 8 1 [(.int .i64 0), (.slice none 0 0), (.int .i64 0), (.int .i64 0), (.int .i64 0), (.slice none 0 0), (.int .i64 0), (.slice none 0 0)] [(0, 8, (Sv 66))]), Ro 68 (.app 58 8 112 (Sv 65) (Sv 67)), Ro 8 (Mv 68)])))))))
 (.reg [Ro 69 (.bin .add (Sv 31) (Ci 1)), Ro 31 (Mv 69)])))))))
 (.seq (.reg [Ro 70 (Mv 8), Ro 71 (Fd 1 3), Rn (.st (Sv 71) (Sv 70) 1)])
 (.seq (.reg [Ro 72 (.ld false (Sv 1) (some 4)), Rn (.st (Sv 2) (Sv 72) 4)])
 .ret)))))))))
def qnd : List ARes := [(.cell (sl 2) (some 4))]
theorem qz0 : (Tryz.f68).body.bind (q9 Tryz.prog 8 (Tryz.f68).ntmps [1, 2, 8, 10, 11, 28, 29, 34, 35, 41, 43, 44, 45, 48, 49, 50, 52, 53, 54, 55, 56, 59, 60, 61, 63, 64, 65, 66, 67, 68, 70, 71, 72] [] (drOk 8)) = some qlw := by kernel_rfl
theorem qzg : qa Tryz.prog 8 (Tryz.f68).results.toList = some qnd := by kernel_rfl
def qgy : ACode :=
 (.seq (.reg [Ro 1 (.box false (Sv 0)), Ro 2 (.new [(.slice none 0 0), (.slice none 0 0)])])
 (.seq (.reg [Ro 5 (Fd 1 0), Ro 6 (.ld false (Sv 5) none), Ro 7 (.callv 61 4 (.f 67) [Sv 6]), Ro 8 (Fd 1 0), Rn (.st (Sv 8) (Sv 7) 1)])
 (.seq (.seq (.reg [Ro 9 (Fd 1 0), Ro 10 (.ld false (Sv 9) none), Ro 11 (.len false (Sv 10)), Ro 12 (.mv (Ci 0))])
 (.block 0
 (.loop (.seq (.reg [Ro 13 (.bin .lss (Sv 12) (Sv 11))])
 (.seq (.cond (Sv 13)
 .skip
 (.exit 0))
 (.seq (.block 1
 (.seq (.seq (.reg [Ro 14 (Mv 12), Ro 15 (.idx false (Sv 10) (Sv 12) 4), Ro 16 (.ld false (Sv 15) (some 4)), Ro 4 (.new [(.string ⟨#[]⟩), (.int .i64 0), (.int .i64 0), (.slice none 0 0)]), Ro 3 (Mv 14), Rn (.ini 2 (Sv 4) (Sv 16) 4)])
 (.frz (sl 4)))
 (.seq (.reg [Ro 17 (Lk 4 4), Ro 18 (.call true (.f 57) [Sv 17])])
 (.cond (Sv 18)
 (.reg [Rl 19 (Fd 1 0) 0, Rl 20 (.ld false (Sv 19) none) 1, Rl 21 (Mv 3) 2, Rl 22 (Lk 4 4) 3, Rl 23 (.call true (.f 68) [Sv 22]) 4, Rl 24 (.idx false (Sv 20) (Sv 21) 4) 5, ⟨none, none, (.st (Sv 24) (Sv 23) 4), (some (6, []))⟩])
 .skip))))
 (.reg [Ro 25 (.bin .add (Sv 12) (Ci 1)), Ro 12 (Mv 25)])))))))
 (.seq (.reg [Ro 26 (.ld false (Sv 1) (some 2)), Rn (.st (Sv 2) (Sv 26) 2)])
 .ret))))
def qi3 : List ARes := [(.cell (sl 2) (some 2))]
theorem qt6 : (Tryz.f40).body.bind (q9 Tryz.prog 8 (Tryz.f40).ntmps [1, 2, 5, 6, 7, 8, 9, 10, 15, 16, 19, 20, 24, 26] [(67, 61, 1004)] (drOk 8)) = some qgy := by kernel_rfl
theorem qti : qa Tryz.prog 8 (Tryz.f40).results.toList = some qi3 := by kernel_rfl
theorem qud (x : Inst) : APure Tryz.prog 116 [.agg (qp x)] (.bool (qaw x.op)) := by
 refine qb _ _ Tryz.func116 (by kernel_rfl) qz2 qzi rfl rfl (fun _ => ?_)
 simp [qly, qnf]
 exact qc (by rw [Bool.eq_iff_iff]; simp [qaw])
theorem qm5 (x : Inst) : APure Tryz.prog 104 [.agg (qp x)] (.bool (qaw x.op)) := by
 refine qb _ _ Tryz.func104 (by kernel_rfl) qfq qg8 rfl rfl (fun _ => ?_)
 simp [q8m, q9c]
 exact qc (by rw [Bool.eq_iff_iff]; simp [qaw])
theorem qpt (l : List Int) (n : Int) : APure Tryz.prog 128 [ql l, .int n] (.bool (l.contains n)) := by
 refine qb _ _ Tryz.func128 (by kernel_rfl) qid qil rfl rfl (fun hx => len1 hx fun hl => ?_)
 clear hx
 simp [q9q, q9w]
 refine qe (κ := Nat) (fun k => k ≤ l.length ∧ (l.take k).contains n = false) (fun k => l.length - k) (fun k => [(sl 5, .int k)]) (fun _ => []) 0 0 (srcs []) (by simp) (by simp) ?_
 rintro k ⟨hk, hb⟩
 simp
 refine ⟨fun hlt => ⟨hlt, ?_⟩, fun hge => ?_⟩
 ·rw [getD_some hlt]
  refine ⟨fun h => qc ?_, fun h => ⟨k + 1, ⟨by omega, ?_⟩, by omega, srcs [], ?_⟩⟩
  ·symm
   rw [decide_eq_true_iff, ← h]
   exact List.getElem_mem hlt
  ·rw [List.take_succ_eq_append_getElem hlt]
   simp only [List.contains_eq_mem, decide_eq_false_iff_not] at hb ⊢
   intro hm
   rcases List.mem_append.1 hm with hm | hm
   ·exact hb hm
   ·exact h (List.mem_singleton.1 hm).symm
  ·simp [SLeK]
   exact q6 (q5 (by omega))
 ·rw [List.take_of_length_le hge, List.contains_eq_mem] at hb
  rw [hb]
  exact DLe.refl _
theorem q20 (u : List Bool) (v : Int) (hv : v.toNat ≤ u.length) (hl : u.length ≤ 1000000) : APure Tryz.prog 77 [q22 u, .int v] (.int (nst u v.toNat)) := by
 refine qb _ _ Tryz.func77 (by kernel_rfl) qcy qd7 rfl rfl (fun _ => ?_)
 simp [q6k, q6v]
 refine qe (κ := Nat) (fun k => k ≤ v.toNat) (fun k => v.toNat - k) (fun k => [(sl 6, .int k), (sl 5, .int (nst u k))]) (fun _ => []) 0 0 (srcs []) (by simp) (by simp [nst]) ?_
 intro k hk
 have hle := qqd u k
 simp
 refine ⟨fun hlt => ?_, fun hge => ?_⟩
 ·have hlt' : k < u.length := by omega
  rw [getD_some hlt']
  refine ⟨hlt', fun h => ⟨k + 1, by omega, by omega, srcs [], ?_⟩, fun h => ⟨k + 1, by omega, by omega, srcs [], ?_⟩⟩
  ·have hs := qb2 (l := u) (List.getElem?_eq_getElem hlt')
   rw [h] at hs
   simp [SLeK]
   rw [hs]
   exact ⟨q6 (q5 (by omega)), q6 (q5 (by omega))⟩
  ·have hs := qb2 (l := u) (List.getElem?_eq_getElem hlt')
   rw [h] at hs
   simp at hs
   simp [SLeK, hs]
   exact q6 (q5 (by omega))
 ·obtain rfl : k = v.toNat := by omega
  exact DLe.refl _
set_option maxRecDepth 10000 in
theorem q2m (u : List Bool) (l : List Int) (hv : ∀ v ∈ l, v.toNat ≤ u.length) (hl : u.length ≤ 1000000) (hn : l.length ≤ 1000000) : APure Tryz.prog 105 [q22 u, ql l] (ql (l.map fun v => (nst u v.toNat : Int))) := by
 refine qb _ _ Tryz.func105 (by kernel_rfl) qbv qc0 rfl rfl (fun _ => ?_)
 simp [q5y, q64]
 refine qe (κ := Nat) (fun k => k ≤ l.length) (fun k => l.length - k) (fun k => [(sl 6, .int k), (sl 5, .own 0 (mapT (fun v => (nst u v.toNat : Int)) l k).length)]) (fun k => [(0, .row 3 1 (mapT (fun v => (nst u v.toNat : Int)) l k).length fun i => intC ((mapT (fun v => (nst u v.toNat : Int)) l k)[i]?.getD 0))]) 10 0 (srcs [(0, .nil)]) (by simp) (by simp) ?_
 intro k hk
 simp
 have hlen := q8z (fun v => (nst u v.toNat : Int)) l k
 refine ⟨fun hlt => ⟨hlt, ?_⟩, fun hge => ?_⟩
 ·rw [getD_some hlt]
  have hsucc := qcg (fun v => (nst u v.toNat : Int)) hlt
  refine q4 (ds := [q22 u, .int l[k]]) _ (by simp) (by simp) (fun _ => by simp; rfl) (fun _ => q20 u l[k] (hv _ (List.getElem_mem hlt)) hl) ?_
  simp
  refine ⟨by omega, k + 1, by omega, by omega, srcs [(0, .id 22)], ?_⟩
  simp [SLeK, hsucc]
  exact ⟨q6 (q5 (by omega)), fun i hi => qf intC 0 rfl hi⟩
 ·rw [qhp _ hge]
  exact DLe.refl _
theorem AOwn.nilSplit {P : Program} {F : FuncId} {n len : Nat} {row : Nat → List DV} {as' : List DV} {te : TypeId} {m l : Nat} {r : Nat → List DV} (h0 : len = 0 → AOwn P F (.lit (.slice none 0 0) :: as') te m l r) (h1 : AOwn P F (.sn n len row :: as') te m l r) : AOwn P F (.sl n len row :: as') te m l r := by
 refine ⟨h1.1, fun X w vs hX hvs => ?_⟩
 obtain ⟨v, vs', he, hv, hr⟩ := hvs.uncons
 by_cases hn : v = .slice none 0 0
 ·have hl : len = 0 := by
   subst hn
   cases hv
   rfl
  subst hn
  exact (h0 hl).2 X w vs hX (by rw [he]; exact DReps.cons (.lit _) hr)
 ·exact h1.2 X w vs hX (by rw [he]; exact DReps.cons (.sn v _ _ _ hv hn) hr)
set_option maxRecDepth 10000 in
theorem z1v (xs : List Int) (hl : xs.length ≤ 1000000) : AOwn Tryz.prog 137 [ql xs] 3 1 xs.length (fun i => intC (xs[i]?.getD 0)) := by
 refine AOwn.nilSplit (fun h0 => ?_) ?_
 ·refine z4s _ _ Tryz.func137 (by kernel_rfl) q1i q1j rfl rfl (fun _ => ?_)
  simp [qv, qx]
  exact List.length_eq_zero_iff.1 h0
 ·refine z4s _ _ Tryz.func137 (by kernel_rfl) q1i q1j rfl rfl (fun _ => ?_)
  simp [qv, qx]
  omega
set_option maxRecDepth 10000 in
theorem z5f (b : Block) (h1 : b.args.length ≤ 1000) (h2 : b.elses.length ≤ 1000) : APure Tryz.prog 136 [.agg (qd1 b)] (ql (q2r b)) := by
 refine qb _ _ Tryz.func136 (by kernel_rfl) qz3 qzj rfl rfl (fun _ => ?_)
 simp [qlz, qng]
 refine qro (ds := [ql b.args]) _ _ rfl (by simp) (by simp) (z1v b.args (by omega)) ?_
 simp
 have hr : ∀ i, i < b.args.length + b.elses.length → q13 b.args.length (fun i => intC (b.args[i]?.getD 0)) (fun k => intC (b.elses[k]?.getD 0)) i = intC ((b.args ++ b.elses)[i]?.getD 0) := fun i hi => by
  unfold q13
  split
  ·rename_i h; rw [List.getElem?_append_left h]
  ·rename_i h; rw [List.getElem?_append_right (by omega)]
 refine ⟨by omega, fun hk => ⟨by omega, ?_⟩, fun hk => ?_⟩
 ·have e : q2r b = (b.args ++ b.elses) ++ [b.ta] := by unfold q2r; rw [if_neg hk]
  rw [e]
  refine qku (by simp; omega) fun i hi => ?_
  have h := qf intC 0 (acc := b.args ++ b.elses) (x := b.ta) (more := fun i => List.take 1 (List.drop i [DV.lit (Value.int IntKind.i64 b.ta)])) rfl (i := i) (by rw [List.length_append]; exact hi)
  rw [← h]
  unfold q13
  rw [List.length_append]
  split
  ·rename_i h1
   exact hr i h1
  ·rfl
 ·have e : q2r b = b.args ++ b.elses := by unfold q2r; rw [if_pos hk, List.append_nil]
  rw [e]
  exact qku (by simp) fun i hi => hr i hi
def rowU (u : List Bool) : Nat → List AV := fun j => (qkg (u[j]?.getD false)).map .d
def LU (u : List Bool) : List (Nat × AObj) := [(1000000, .box [.own 1000001 u.length]), (1000001, .vec 4 1 u.length (rowU u))]
theorem hof_LU (u : List Bool) : hof (LU u) = hadd 1000000 (.box [.own 1000001 u.length]) (hadd 1000001 (.vec 4 1 u.length (rowU u)) hnil) := rfl
theorem LU_end {u u' : List Bool} {row : Nat → List AV} (hl : u'.length = u.length) (hr : ∀ j, j < u.length → row j = rowU u' j) : qoz (LU u) (LU u') (hadd 1000000 (.box [.own 1000001 u.length]) (hadd 1000001 (.vec 4 1 u.length row) hnil)) := by
 refine ⟨.none, ?_, ?_⟩
 ·simp [LU, gE, hl]
  intro j hj
  rw [hr j hj]
  simp [rowU]
 ·simp [LU, gE]
theorem q6f {u : List Bool} {v : Nat} (hv : v < u.length) (b : Bool) (j : Nat) : (if j = v then [.d (.bool b)] else rowU u j) = rowU (u.set v b) j := by
 unfold rowU
 split
 ·rename_i h
  subst h
  simp [hv]
 ·rename_i h
  rw [List.getElem?_set_ne (by omega)]
@[simp] theorem z79 (u : List Bool) (j : Nat) : (rowU u j).tail = [] := rfl
@[simp] theorem rowU_length (u : List Bool) (j : Nat) : (rowU u j).length = 1 := rfl
@[simp] theorem rowU_0 (u : List Bool) (j : Nat) : (rowU u j)[0]? = some (.d (.bool (u[j]?.getD false))) := rfl
@[simp] theorem rowU_dv (u : List Bool) (j : Nat) : (rowU u j).map AV.dv = qkg (u[j]?.getD false) := rfl
@[simp] theorem ren_rowU (τ : Nat → Nat) (u : List Bool) (j : Nat) : AV.ren.renL τ (rowU u j) = rowU u j := by simp [rowU]
theorem z0z {n j : Nat} : rowU (List.replicate n false) j = [.d (.bool false)] := by
 unfold rowU
 rw [List.getElem?_replicate]
 split <;> rfl
theorem qj2 {u : List Bool} {l : List Int} {k : Nat} (hk : k < l.length) : q3k u (l.take (k + 1)) = (q3k u (l.take k)).set l[k].toNat true := by
 unfold q3k
 rw [List.take_succ_eq_append_getElem hk, List.foldl_append]
 rfl
set_option maxRecDepth 10000 in
theorem qsd (u : List Bool) (l : List Int) (hl : l.length ≤ 1000000) (hv : ∀ v ∈ l, 0 ≤ v ∧ v.toNat < u.length) : AEff Tryz.prog 135 [.d (ql l), .ptr 1000000 0] (LU u) (.tup []) (LU (q3k u l)) := by
 refine qx7 _ _ Tryz.func135 (by kernel_rfl) qt7 qtj rfl rfl (by simp [LU]) (by simp [LU, q2x]) (fun _ => ?_)
 simp [qgz, qi4, hof_LU]
 refine qe (κ := Nat) (fun k => k ≤ l.length) (fun k => l.length - k) (fun k => [(sl 7, .int k)]) (fun k => LU (q3k u (l.take k))) 0 0 (srcs []) (by simp) (by simp [LU, rowU, q3k]) ?_
 rintro k hk
 simp [hof_LU]
 refine ⟨fun hlt => ⟨hlt, ?_⟩, fun hge => ?_⟩
 ·rw [getD_some hlt]
  have hin := hv _ (List.getElem_mem hlt)
  refine ⟨⟨hin.1, by omega⟩, hin.2, k + 1, by omega, by omega, srcs [], ?_⟩
  simp [SLeK, LU, qj2 hlt]
  refine ⟨q6 (q5 (by omega)), fun j hj => ?_⟩
  have e := q6f (u := q3k u (l.take k)) (v := l[k].toNat) (by rw [q19]; exact hin.2) true j
  rw [e]
  simp [rowU]
 ·rw [List.take_of_length_le hge] at *
  exact LU_end (q19 _ _) fun _ _ => rfl
def tauU (c : Nat) (a b : Nat) : Nat → Nat := fun i => if i = 1000000 then a else if i = 1000001 then b else c
set_option maxRecDepth 10000 in
theorem z8a (f : Func) (b : Block) (hb : qj f b = true) (ha : b.args.length ≤ 1000) (he : b.elses.length ≤ 1000) (hi : ∀ x ∈ b.ins, x.args.length ≤ 1000) : APure Tryz.prog 115 [.agg (qd b)] (q22 (q5o b)) := by
  obtain ⟨h0, h6, h32, _⟩ := qh.1 hb
  have hfit := qp5 hb
  have hw : IntKind.i64.wrap (b.params + b.ins.length) = b.params + b.ins.length := qq (by omega)
  refine qb _ _ Tryz.func115 (by kernel_rfl) qz1 qzh rfl rfl (fun _ => ?_)
  simp [qlx, qne]
  refine q4 (ds := [.agg (qd b)]) _ (by simp) (by simp) (fun _ => by simp; rfl) (fun _ => qo6 b) ?_
  have hN : (b.params + (b.ins.length : Int)).toNat = b.params.toNat + b.ins.length := by omega
  simp [hw, hN]
  refine ⟨⟨by omega, by omega, by omega⟩, ?_⟩
  refine q4 (ds := [.agg (qd1 b)]) _ (by simp) (by simp) (fun _ => by simp; rfl) (fun _ => z5f b ha he) ?_
  simp
  have hel : (q2r b).length ≤ 3000 := by
    unfold q2r
    split <;> simp <;> omega
  obtain ⟨n, hn⟩ : ∃ n, b.params.toNat + b.ins.length = n := ⟨_, rfl⟩
  simp only [hn]
  refine q43 (qsd (List.replicate n false) (q2r b) (by omega) (fun v hv => ?_)) (tauU _ 5 4) rfl [.d (ql (q2r b)), .ptr 5 0] (by simp) (by simp) (by simp) (by simp [gOf, LU, tauU]) ?_ (by simp [gOf, LU, tauU]) (by simp [LU, q2x]) ?_
  · have := hfit.ends v hv
    simp
    omega
  · simp [gOf, LU, tauU, z0z]
  simp [LU, tauU]
  have hu0 : q4h b b.ins.length (q3k (List.replicate n false) (q2r b)) = q5o b := by unfold q5o; rw [hn]
  refine qe (κ := Nat × List Bool) (fun p => p.1 ≤ b.ins.length ∧ p.2.length = n ∧ q4h b p.1 p.2 = q5o b) (fun p => p.1) (fun p => [(sl 5, .int ((p.1 : Int) - 1))]) (fun p => [(5, .box [.own 4 n]), (4, .vec 4 1 n (rowU p.2))]) 19 (b.ins.length, q3k (List.replicate n false) (q2r b)) (srcs [(5, .id 5), (4, .id 4)]) ⟨by simp, by simp, hu0⟩ ?_ ?_
  · simp [rowU]
    exact q6 (qq (by omega))
  rintro ⟨k, u⟩ ⟨hk, hul, huk⟩
  simp only at hk hul huk
  cases k with
  | zero =>
    simp
    rw [← huk]
    show DLe _ (q22 u)
    rw [← hul]
    exact DLe.refl _
  | succ k =>
    have hlt : k < b.ins.length := by omega
    obtain ⟨x, hx⟩ : ∃ x, b.ins[k] = x := ⟨_, rfl⟩
    have hxa : b.ins[k]? = some x := by rw [List.getElem?_eq_getElem hlt, hx]
    have hxm : x ∈ b.ins := List.mem_of_getElem? hxa
    have hus : q4h b (k + 1) u = if qaw x.op = true ∨ u[b.params.toNat + k]? = some true then q4h b k (q3k u (uses x)) else q4h b k u := by
      conv => lhs; unfold q4h
      rw [hxa]
    have hp : IntKind.i64.wrap (b.params + (k : Int)) = b.params + k := qq (by omega)
    have hpt : (b.params + (k : Int)).toNat = b.params.toNat + k := by omega
    have hun : b.params.toNat + k < u.length := by omega
    simp
    refine ⟨by omega, ?_⟩
    rw [getD_some hlt, hx]
    refine q4 (ds := [.agg (qp x)]) _ (by simp) (by simp) (fun _ => by simp; rfl) (fun _ => qud x) ?_
    have hul1 : (uses x).length ≤ 1000000 := by
      have := hi x hxm
      unfold uses
      repeat' split
      all_goals simp
      all_goals omega
    have huv : ∀ v ∈ uses x, 0 ≤ v ∧ v.toNat < u.length := fun v hv => by
      have := hfit.ins k x hxa v hv
      omega
    cases hd : qaw x.op with
    | true =>
      have huy : q4h b k (q3k u (uses x)) = q5o b := by rw [← huk, hus, if_pos (.inl hd)]
      simp [hp, hpt]
      refine q4 (ds := [.agg (qp x)]) _ (by simp) (by simp) (fun _ => by simp; rfl) (fun _ => qiq x (by have := hi x hxm; omega)) ?_
      simp
      refine q43 (qsd u (uses x) hul1 huv) (tauU _ 5 4) rfl [.d (ql (uses x)), .ptr 5 0] (by simp) (by simp) (by simp) (by simp [gOf, LU, tauU]) (by simp [gOf, LU, tauU, hul, rowU]) (by simp [gOf, LU, tauU]) (by simp [LU, q2x]) ?_
      simp [LU, tauU, hul]
      refine ⟨k, q3k u (uses x), ⟨by omega, by rw [q19]; exact hul, huy⟩, by omega, srcs [(5, .id 5), (4, .id 4)], ?_⟩
      simp [SLeK, rowU]
      exact q6 (qq (by omega))
    | false =>
      simp [hp, hpt]
      refine ⟨⟨by omega, by omega⟩, by omega, fun hf => ?_, fun hf => ?_⟩
      · have huy : q4h b k u = q5o b := by
          rw [← huk, hus, if_neg]
          rintro (h | h)
          · rw [hd] at h; cases h
          · rw [h] at hf; cases hf
        refine ⟨k, u, ⟨by omega, hul, huy⟩, by omega, srcs [(5, .id 5), (4, .id 4)], ?_⟩
        simp [SLeK, rowU]
        exact q6 (qq (by omega))
      have huy : q4h b k (q3k u (uses x)) = q5o b := by
        have hut : u[b.params.toNat + k]? = some true := by
          rw [List.getElem?_eq_getElem hun] at hf ⊢
          simpa using hf
        rw [← huk, hus, if_pos (.inr hut)]
      refine q4 (ds := [.agg (qp x)]) _ (by simp) (by simp) (fun _ => by simp; rfl) (fun _ => qiq x (by have := hi x hxm; omega)) ?_
      simp
      refine q43 (qsd u (uses x) hul1 huv) (tauU _ 5 4) rfl [.d (ql (uses x)), .ptr 5 0] (by simp) (by simp) (by simp) (by simp [gOf, LU, tauU]) (by simp [gOf, LU, tauU, hul, rowU]) (by simp [gOf, LU, tauU]) (by simp [LU, q2x]) ?_
      simp [LU, tauU, hul]
      refine ⟨k, q3k u (uses x), ⟨by omega, by rw [q19]; exact hul, huy⟩, by omega, srcs [(5, .id 5), (4, .id 4)], ?_⟩
      simp [SLeK, rowU]
      exact q6 (qq (by omega))
def endE (b : Block) (v : Nat) : Bool := (b.args.contains (v : Int) || b.elses.contains (v : Int)) || (decide (¬ b.kind = 1) && decide (b.ta = (v : Int)))
def endU (b : Block) (n k : Nat) : List Bool := (List.range n).map fun v : Nat => decide (v < k) && endE b v
@[simp] theorem qxi (b : Block) (n k : Nat) : (endU b n k).length = n := by simp [endU]
theorem qrv {b : Block} {n k j : Nat} (hj : j < n) : (endU b n k)[j]? = some (decide (j < k) && endE b j) := by
 unfold endU
 rw [List.getElem?_map, List.getElem?_range hj]
 rfl
theorem z5e {b : Block} {n k : Nat} (hk : k < n) : endU b n (k + 1) = (endU b n k).set k (endE b k) := by
 apply List.ext_getElem?
 intro j
 by_cases hj : j < n
 ·rw [qrv hj, List.getElem?_set]
  split
  ·rename_i h
   subst h
   simp [hk]
  ·rename_i h
   rw [qrv hj]
   congr 2
   rw [decide_eq_decide]
   omega
 ·rw [List.getElem?_eq_none (by simp; omega), List.getElem?_eq_none (by simp; omega)]
theorem endU_eq {b : Block} {n : Nat} (hv : ∀ v ∈ q2r b, 0 ≤ v) : endU b n n = q3k (List.replicate n false) (q2r b) := by
 apply List.ext_getElem?
 intro j
 have hl : (q3k (List.replicate n false) (q2r b)).length = n := by rw [q19, List.length_replicate]
 by_cases hj : j < n
 ·have h1 : (endU b n n)[j]? = some (endE b j) := by
   rw [qrv hj, decide_eq_true hj]
   rfl
  rw [h1]
  unfold endE
  by_cases hm : (j : Int) ∈ q2r b
  ·have h2 := ql6 (u := List.replicate n false) hm (by simpa using hj)
   rw [Int.toNat_natCast] at h2
   rw [h2]
   unfold q2r at hm
   simp only [List.mem_append] at hm
   rcases hm with (hm | hm) | hm
   ·simp [hm]
   ·simp [hm]
   ·split at hm
    ·cases hm
    ·rename_i hk
     simp [hk, (List.mem_singleton.1 hm).symm]
  ·have h2 := qmw (u := List.replicate n false) (l := q2r b) (i := j) fun v hvm e => hm (by
    have := hv v hvm
    rw [show (j : Int) = v by omega]
    exact hvm)
   rw [h2]
   unfold q2r at hm
   simp only [List.mem_append, not_or] at hm
   obtain ⟨⟨m1, m2⟩, m3⟩ := hm
   have h3 : ¬ (¬ b.kind = 1 ∧ b.ta = j) := fun ⟨q1, q2⟩ => by
    rw [if_neg q1] at m3
    exact m3 (by rw [q2]; exact List.mem_singleton.2 rfl)
   simp [hj, m1, m2]
   intro q1 q2
   exact h3 ⟨q1, q2⟩
 ·rw [List.getElem?_eq_none (by simp; omega), List.getElem?_eq_none (by omega)]
set_option maxRecDepth 10000 in
theorem z42 (f : Func) (b : Block) (hb : qj f b = true) (ha : b.args.length ≤ 1000) (he : b.elses.length ≤ 1000) (hi : ∀ x ∈ b.ins, x.args.length ≤ 1000) : AOwnV Tryz.prog 103 [.agg (qd b)] 4 1 (b.params.toNat + b.ins.length) (fun j => qkg ((q5o b)[j]?.getD false)) := by
  obtain ⟨h0, h6, h32, _⟩ := qh.1 hb
  have hfit := qp5 hb
  have hw : IntKind.i64.wrap (b.params + b.ins.length) = b.params + b.ins.length := qq (by omega)
  refine qts _ _ Tryz.func103 (by kernel_rfl) qfs qga rfl rfl (fun _ => ?_)
  have hN : (b.params + (b.ins.length : Int)).toNat = b.params.toNat + b.ins.length := by omega
  obtain ⟨n, hn⟩ : ∃ n, b.params.toNat + b.ins.length = n := ⟨_, rfl⟩
  have hni : (b.params + (b.ins.length : Int)) = n := by omega
  have hwn : IntKind.i64.wrap (n : Int) = n := qq (by omega)
  simp [q8o, q9e, hni, hwn]
  refine ⟨by omega, ?_⟩
  refine qe (κ := Nat) (fun k => k ≤ n) (fun k => n - k) (fun k => [(sl 5, .int k), (sl 4, .own 10 n)]) (fun k => [(10, .vec 4 1 n (rowU (endU b n k)))]) 20 0 (srcs [(10, .id 10)]) (by simp) (by
    simp [rowU]
    intro i hi
    rw [qrv hi]
    exact DLe.refl _) ?_
  intro k hk
  simp
  refine ⟨fun hlt => ?_, fun hge => ?_⟩
  · refine q4 (ds := [ql b.args, .int k]) _ (by simp) (by simp) (fun _ => by simp) (fun _ => qpt b.args k) ?_
    simp
    refine q4 (ds := [ql b.elses, .int k]) _ (by simp) (by simp) (fun _ => by simp) (fun _ => qpt b.elses k) ?_
    simp
    refine ⟨fun q1 q2 => ⟨⟨q1, q2⟩, fun q3 => ⟨⟨q1, q2⟩, q3⟩⟩, hlt, k + 1, by omega, by omega, srcs [(10, .id 10)], ?_⟩
    simp [SLeK]
    refine ⟨q6 (q5 (by omega)), fun j hj => ?_⟩
    have hE : (decide ((k : Int) ∈ b.args) || decide ((k : Int) ∈ b.elses) || !decide (b.kind = 1) && decide (b.ta = (k : Int))) = endE b k := by simp [endE]
    rw [hE, z5e hlt]
    have e := q6f (u := endU b n k) (v := k) (by rw [qxi]; exact hlt) (endE b k) j
    rw [e]
    simp [rowU]
  obtain rfl : k = n := by omega
  rw [endU_eq fun v hv => (hfit.ends v hv).1]
  have hu0 : q4h b b.ins.length (q3k (List.replicate k false) (q2r b)) = q5o b := by unfold q5o; rw [hn]
  refine qe (κ := Nat × List Bool) (fun p => p.1 ≤ b.ins.length ∧ p.2.length = k ∧ q4h b p.1 p.2 = q5o b) (fun p => p.1) (fun p => [(sl 8, .int ((p.1 : Int) - 1)), (sl 4, .own 10 k)]) (fun p => [(10, .vec 4 1 k (rowU p.2))]) 20 (b.ins.length, q3k (List.replicate k false) (q2r b)) (srcs [(10, .id 10)]) ⟨by simp, by simp, hu0⟩ ?_ ?_
  · simp [rowU]
    exact q6 (qq (by omega))
  rintro ⟨q, u⟩ ⟨hq, hul, huk⟩
  simp only at hq hul huk
  cases q with
  | zero =>
    simp
    rw [← huk, hn]
    exact ⟨rfl, fun _ _ => rfl⟩
  | succ q =>
    have hlt : q < b.ins.length := by omega
    obtain ⟨x, hx⟩ : ∃ x, b.ins[q] = x := ⟨_, rfl⟩
    have hxa : b.ins[q]? = some x := by rw [List.getElem?_eq_getElem hlt, hx]
    have hxm : x ∈ b.ins := List.mem_of_getElem? hxa
    have hus : q4h b (q + 1) u = if qaw x.op = true ∨ u[b.params.toNat + q]? = some true then q4h b q (q3k u (uses x)) else q4h b q u := by
      conv => lhs; unfold q4h
      rw [hxa]
    have hp : IntKind.i64.wrap (b.params + (q : Int)) = b.params + q := qq (by omega)
    have hpt : (b.params + (q : Int)).toNat = b.params.toNat + q := by omega
    have hun : b.params.toNat + q < u.length := by omega
    simp
    refine ⟨by omega, ?_⟩
    rw [getD_some hlt, hx]
    refine q4 (ds := [.agg (qp x)]) _ (by simp) (by simp) (fun _ => by simp) (fun _ => qm5 x) ?_
    have hul1 : (uses x).length ≤ 1000000 := by
      have := hi x hxm
      unfold uses
      repeat' split
      all_goals simp
      all_goals omega
    have huv : ∀ v ∈ uses x, 0 ≤ v ∧ v.toNat < u.length := fun v hv => by
      have := hfit.ins q x hxa v hv
      omega
    cases hd : qaw x.op with
    | true =>
      have huy : q4h b q (q3k u (uses x)) = q5o b := by rw [← huk, hus, if_pos (.inl hd)]
      simp [hp, hpt]
      refine ⟨hlt, ?_⟩
      rw [getD_some hlt, hx]
      refine q4 (ds := [.agg (qp x)]) _ (by simp) (by simp) (fun _ => by simp) (fun _ => qcn x (by have := hi x hxm; omega)) ?_
      simp
      refine qe (κ := Nat) (fun i => i ≤ (uses x).length) (fun i => (uses x).length - i) (fun i => [(sl 11, .int i), (sl 4, .own 10 k)]) (fun i => [(10, .vec 4 1 k (rowU (q3k u ((uses x).take i))))]) 20 0 (srcs [(10, .id 10)]) (by simp) (by simp [rowU, q3k]) ?_
      intro i hil
      simp
      refine ⟨fun hil => ⟨hil, ?_⟩, fun hil => ?_⟩
      · rw [getD_some hil]
        have hin := huv _ (List.getElem_mem hil)
        refine ⟨⟨hin.1, by omega⟩, by omega, i + 1, by omega, by omega, srcs [(10, .id 10)], ?_⟩
        simp [SLeK, qj2 hil]
        refine ⟨q6 (q5 (by omega)), fun j hj => ?_⟩
        have e := q6f (u := q3k u ((uses x).take i)) (v := (uses x)[i].toNat) (by rw [q19]; exact hin.2) true j
        rw [e]
        simp [rowU]
      · rw [List.take_of_length_le hil]
        refine ⟨q, q3k u (uses x), ⟨by omega, by rw [q19]; exact hul, huy⟩, by omega, srcs [(10, .id 10)], ?_⟩
        simp [SLeK, rowU]
        exact q6 (qq (by omega))
    | false =>
      simp [hp, hpt]
      refine ⟨⟨by omega, by omega⟩, by omega, fun hf => ?_, fun hf => ?_⟩
      · have huy : q4h b q u = q5o b := by
          rw [← huk, hus, if_neg]
          rintro (h | h)
          · rw [hd] at h; cases h
          · rw [h] at hf; cases hf
        refine ⟨q, u, ⟨by omega, hul, huy⟩, by omega, srcs [(10, .id 10)], ?_⟩
        simp [SLeK, rowU]
        exact q6 (qq (by omega))
      have huy : q4h b q (q3k u (uses x)) = q5o b := by
        have hut : u[b.params.toNat + q]? = some true := by
          rw [List.getElem?_eq_getElem hun] at hf ⊢
          simpa using hf
        rw [← huk, hus, if_pos (.inr hut)]
      refine ⟨hlt, ?_⟩
      rw [getD_some hlt, hx]
      refine q4 (ds := [.agg (qp x)]) _ (by simp) (by simp) (fun _ => by simp) (fun _ => qcn x (by have := hi x hxm; omega)) ?_
      simp
      refine qe (κ := Nat) (fun i => i ≤ (uses x).length) (fun i => (uses x).length - i) (fun i => [(sl 11, .int i), (sl 4, .own 10 k)]) (fun i => [(10, .vec 4 1 k (rowU (q3k u ((uses x).take i))))]) 20 0 (srcs [(10, .id 10)]) (by simp) (by simp [rowU, q3k]) ?_
      intro i hil
      simp
      refine ⟨fun hil => ⟨hil, ?_⟩, fun hil => ?_⟩
      · rw [getD_some hil]
        have hin := huv _ (List.getElem_mem hil)
        refine ⟨⟨hin.1, by omega⟩, by omega, i + 1, by omega, by omega, srcs [(10, .id 10)], ?_⟩
        simp [SLeK, qj2 hil]
        refine ⟨q6 (q5 (by omega)), fun j hj => ?_⟩
        have e := q6f (u := q3k u ((uses x).take i)) (v := (uses x)[i].toNat) (by rw [q19]; exact hin.2) true j
        rw [e]
        simp [rowU]
      · rw [List.take_of_length_le hil]
        refine ⟨q, q3k u (uses x), ⟨by omega, by rw [q19]; exact hul, huy⟩, by omega, srcs [(10, .id 10)], ?_⟩
        simp [SLeK, rowU]
        exact q6 (qq (by omega))
def stE (b : Block) (k i j : Nat) : Bool := ((q5o b)[j]?.getD false || decide (j < k)) || (decide (b.params.toNat ≤ j ∧ j < b.params.toNat + i) && qaw (b.ins[j - b.params.toNat]?.getD default).op)
def stG (b : Block) (k i : Nat) : List Bool := (List.range (b.params.toNat + b.ins.length)).map (stE b k i)
@[simp] theorem q2w (b : Block) (k i : Nat) : (stG b k i).length = b.params.toNat + b.ins.length := by simp [stG]
theorem qno {b : Block} {k i j : Nat} (hj : j < b.params.toNat + b.ins.length) : (stG b k i)[j]? = some (stE b k i j) := by
 unfold stG
 rw [List.getElem?_map, List.getElem?_range hj]
 rfl
theorem stG_zero (b : Block) : stG b 0 0 = q5o b := by
 apply List.ext_getElem?
 intro j
 by_cases hj : j < b.params.toNat + b.ins.length
 ·rw [qno hj, List.getElem?_eq_getElem (by rw [q4v]; exact hj)]
  have : ¬ (b.params.toNat ≤ j ∧ j < b.params.toNat + 0) := by omega
  unfold stE
  rw [decide_eq_false this, List.getElem?_eq_getElem (by rw [q4v]; exact hj)]
  simp
 ·rw [List.getElem?_eq_none (by rw [q2w]; omega), List.getElem?_eq_none (by rw [q4v]; omega)]
theorem z7j {b : Block} {k : Nat} (hk : k < b.params.toNat) : stG b (k + 1) 0 = (stG b k 0).set k true := by
 apply List.ext_getElem?
 intro j
 rw [List.getElem?_set]
 by_cases hj : j < b.params.toNat + b.ins.length
 ·rw [qno hj, qno hj]
  split
  ·rename_i h
   subst h
   rw [if_pos (by rw [q2w]; exact hj)]
   simp [stE]
  ·rename_i h
   have : decide (j < k + 1) = decide (j < k) := by rw [decide_eq_decide]; omega
   simp only [stE, this]
 ·rw [List.getElem?_eq_none (by rw [q2w]; omega), List.getElem?_eq_none (by rw [q2w]; omega)]
  split
  ·rw [if_neg (by rw [q2w]; omega)]
  ·rfl
theorem stG_ins {b : Block} {i : Nat} (hi : i < b.ins.length) : stG b b.params.toNat (i + 1) = (stG b b.params.toNat i).set (b.params.toNat + i) (((stG b b.params.toNat i)[b.params.toNat + i]?.getD false) || qaw b.ins[i].op) := by
 apply List.ext_getElem?
 intro j
 rw [List.getElem?_set, qno (j := b.params.toNat + i) (by omega)]
 by_cases hj : j < b.params.toNat + b.ins.length
 ·rw [qno hj, qno hj]
  split
  ·rename_i h
   subst h
   rw [if_pos (by rw [q2w]; exact hj)]
   simp [stE, hi]
  ·rename_i h
   have : decide (b.params.toNat ≤ j ∧ j < b.params.toNat + (i + 1)) = decide (b.params.toNat ≤ j ∧ j < b.params.toNat + i) := by rw [decide_eq_decide]; omega
   simp only [stE, this]
 ·rw [List.getElem?_eq_none (by rw [q2w]; omega), List.getElem?_eq_none (by rw [q2w]; omega)]
  split
  ·omega
  ·rfl
theorem stG_all (b : Block) : stG b b.params.toNat b.ins.length = q1s b := by
 apply List.ext_getElem?
 intro j
 by_cases hj : j < b.params.toNat + b.ins.length
 ·rw [qno hj]
  by_cases hp : j < b.params.toNat
  ·rw [q9k hp]
   simp [stE, hp]
  ·obtain ⟨k, rfl⟩ : ∃ k, j = b.params.toNat + k := ⟨j - b.params.toNat, by omega⟩
   have hk : k < b.ins.length := by omega
   rw [qib (List.getElem?_eq_getElem hk)]
   have hd1 : decide (b.params.toNat + k < b.params.toNat) = false := decide_eq_false (by omega)
   have hd2 : decide (b.params.toNat ≤ b.params.toNat + k ∧ b.params.toNat + k < b.params.toNat + b.ins.length) = true := decide_eq_true (by omega)
   unfold stE
   rw [hd1, hd2]
   simp [hk, Bool.or_comm]
 ·rw [List.getElem?_eq_none (by rw [q2w]; omega), List.getElem?_eq_none (by rw [q3u]; omega)]
def qbw (b : Block) (k : Nat) : List Inst := (sel ((q1s b).drop b.params.toNat) (b.ins.take k)).map (qi (gT b))
@[simp] theorem trimK_zero (b : Block) : qbw b 0 = [] := by
 unfold qbw
 rw [List.take_zero]
 cases (q1s b).drop b.params.toNat with
 | nil => rfl
 | cons s l => cases s <;> rfl
theorem qwu {b : Block} {k : Nat} (h : b.ins.length ≤ k) : qbw b k = q9l b := by
 unfold qbw q9l
 rw [List.take_of_length_le h]
theorem qra {b : Block} {k : Nat} {s : Bool} (hk : k < b.ins.length) (hs : (q1s b)[b.params.toNat + k]? = some s) : qbw b (k + 1) = qbw b k ++ (if s = true then [qi (gT b) b.ins[k]] else []) := by
 unfold qbw
 rw [List.take_succ_eq_append_getElem hk, qss (s := s) (by rw [List.getElem?_drop, List.length_take, Nat.min_eq_left (by omega)]; exact hs), List.map_append]
 cases s <;> rfl
theorem qd2 (b : Block) (k : Nat) : (qbw b k).length ≤ k := by
 unfold qbw
 rw [List.length_map, q8a (by rw [List.length_take, List.length_drop, q3u]; omega)]
 exact Nat.le_trans (qqd _ _) (by rw [List.length_take]; omega)
set_option maxRecDepth 10000 in
set_option maxHeartbeats 1000000 in
theorem qty (f : Func) (b : Block) (hb : qj f b = true) (ha : b.args.length ≤ 1000) (he : b.elses.length ≤ 1000) : APure Tryz.prog 76 [.agg (qd b)] (.agg (qd (q6c b))) := by
  obtain ⟨h0, h6, h32, hio, hen⟩ := qh.1 hb
  have hfit := qp5 hb
  have hi : ∀ x ∈ b.ins, x.args.length ≤ 1000 := fun x hx => by
    obtain ⟨k, hk, rfl⟩ := List.getElem_of_mem hx
    have := q8w (hio k hk)
    omega
  obtain ⟨n, hn⟩ : ∃ n, b.params.toNat + b.ins.length = n := ⟨_, rfl⟩
  refine qb _ _ Tryz.func76 (by kernel_rfl) qdy qeb rfl rfl (fun _ => ?_)
  simp [q7h, q7u]
  refine qh1 n _ (by simp) (by simp) (by simp; rfl) (hn ▸ z42 f b hb ha he hi) ?_
  simp
  refine qe (κ := Nat) (fun k => k ≤ b.params.toNat) (fun k => b.params.toNat - k) (fun k => [(sl 4, .int k), (sl 3, .own 3 n)]) (fun k => [(3, .vec 4 1 n (rowU (stG b k 0))), (1, .box [.int 0, .d (.lit (.slice none 0 0)), .int 0, .int 0, .int 0, .d (.lit (.slice none 0 0)), .int 0, .d (.lit (.slice none 0 0))])]) 20 0 (srcs [(3, .id 3), (1, .id 1)]) (by simp) (by simp [rowU, stG_zero]) ?_
  intro k hk
  simp
  refine ⟨fun hlt => ?_, fun hge => ?_⟩
  · refine ⟨by omega, k + 1, by omega, by omega, srcs [(3, .id 3), (1, .id 1)], ?_⟩
    simp [SLeK]
    refine ⟨q6 (q5 (by omega)), fun j hj => ?_⟩
    rw [z7j (by omega)]
    have e := q6f (u := stG b k 0) (v := k) (by rw [q2w]; omega) true j
    rw [e]
    simp [rowU]
  obtain rfl : k = b.params.toNat := by omega
  refine qe (κ := Nat) (fun i => i ≤ b.ins.length) (fun i => b.ins.length - i) (fun i => [(sl 5, .int i), (sl 3, .own 3 n)]) (fun i => [(3, .vec 4 1 n (rowU (stG b b.params.toNat i))), (1, .box [.int 0, .d (.lit (.slice none 0 0)), .int 0, .int 0, .int 0, .d (.lit (.slice none 0 0)), .int 0, .d (.lit (.slice none 0 0))])]) 20 0 (srcs [(3, .id 3), (1, .id 1)]) (by simp) (by simp [rowU]) ?_
  intro i hi1
  simp
  refine ⟨fun hlt => ?_, fun hge => ?_⟩
  · refine ⟨hlt, ?_⟩
    rw [getD_some hlt]
    have hp : IntKind.i64.wrap (b.params + (i : Int)) = b.params + i := qq (by omega)
    have hpt : (b.params + (i : Int)).toNat = b.params.toNat + i := by omega
    refine q4 (ds := [.agg (qp b.ins[i])]) _ (by simp) (by simp) (fun _ => by simp; rfl) (fun _ => qm5 b.ins[i]) ?_
    simp [hp, hpt]
    refine ⟨⟨by omega, by omega⟩, by omega, ⟨by omega, by omega⟩, by omega, i + 1, by omega, by omega, srcs [(3, .id 3), (1, .id 1)], ?_⟩
    simp [SLeK]
    refine ⟨q6 (q5 (by omega)), fun j hj => ?_⟩
    have e := q6f (u := stG b b.params.toNat i) (v := b.params.toNat + i) (by rw [q2w]; omega) (((stG b b.params.toNat i)[b.params.toNat + i]?.getD false) || qaw b.ins[i].op) j
    rw [stG_ins hlt, e]
    simp [rowU]
  obtain rfl : i = b.ins.length := by omega
  rw [stG_all]
  have hsl := q3u b
  obtain ⟨u, hu⟩ : ∃ u, q1s b = u := ⟨_, rfl⟩
  rw [hu] at hsl
  refine qe (κ := Nat) (fun i => i ≤ b.ins.length) (fun i => b.ins.length - i) (fun i => [(sl 8, .int i), (sl 3, .own 3 u.length)]) (fun i => [(0, .row 53 6 (qbw b i).length fun j => qp ((qbw b i)[j]?.getD default)), (30, .box [.int b.params, .own 0 (qbw b i).length, .int b.kind, .int b.ta, .int b.to, .d (ql b.args), .int b.els, .d (ql b.elses)]), (3, .row 4 1 u.length (fun j => qkg (u[j]?.getD false))), (1, .box [.int 0, .d (.lit (.slice none 0 0)), .int 0, .int 0, .int 0, .d (.lit (.slice none 0 0)), .int 0, .d (.lit (.slice none 0 0))])]) 31 0 (srcs [(0, .nil), (30, .id 30), (3, .id 3), (1, .id 1)]) (by simp) (by simp [rowU, hu, hsl, hn]) ?_
  have hg : ∀ v : Int, (nst u v.toNat : Int) = gT b v := fun v => by unfold gT; rw [hu]
  intro i hi2
  simp
  refine ⟨fun hlt => ?_, fun hge => ?_⟩
  · have hp : IntKind.i64.wrap (b.params + (i : Int)) = b.params + i := qq (by omega)
    have hpt : (b.params + (i : Int)).toNat = b.params.toNat + i := by omega
    obtain ⟨x, hx⟩ : ∃ x, b.ins[i] = x := ⟨_, rfl⟩
    have hxa : b.ins[i]? = some x := by rw [List.getElem?_eq_getElem hlt, hx]
    have hxm : x ∈ b.ins := List.mem_of_getElem? hxa
    have hus : ∀ v ∈ uses x, v.toNat ≤ u.length := fun v hv => by
      have := hfit.ins i x hxa v hv
      omega
    have hxargs : ∀ v ∈ x.args, v.toNat ≤ u.length := fun v hv => by
      by_cases h14 : x.op = 14
      · refine hus v ?_
        unfold uses
        rw [if_neg (by omega), if_neg (by omega), if_pos h14]
        exact hv
      · have h := hx ▸ hio i hlt
        unfold qt at h
        simp only [Bool.and_eq_true, Bool.or_eq_true, beq_iff_eq] at h
        have h1 := h.1.1.2
        rcases h1 with h1 | h1
        · exact absurd h1 h14
        · rw [List.length_eq_zero_iff.1 h1] at hv
          cases hv
    have hut : b.params.toNat + i < u.length := by omega
    obtain ⟨s, hs⟩ : ∃ s, u[b.params.toNat + i]? = some s := ⟨_, List.getElem?_eq_getElem hut⟩
    have hnext := qra hlt (s := s) (by rw [hu]; exact hs)
    have hln := qd2 b i
    rw [hx] at hnext
    rw [hp, hpt, hs, hxa]
    simp only [Option.getD_some]
    refine ⟨⟨by omega, by omega⟩, ?_⟩
    cases s with
    | false =>
      simp
      refine ⟨i + 1, by omega, by omega, srcs [(0, .id 0), (30, .id 30), (3, .id 3), (1, .id 1)], ?_⟩
      simp at hnext
      simp [SLeK, hnext]
      exact q6 (q5 (by omega))
    | true =>
      simp only [if_pos] at hnext
      have hop := z68 (hx ▸ hio i hlt)
      by_cases htwo : 2 ≤ x.op ∧ x.op ≤ 11
      · have htw : q73 x.op = true := (q4b _).2 htwo
        have hon : q69 x.op = true := (q27 _).2 (.inl htwo)
        have hux : uses x = [x.a, x.b] := by unfold uses; rw [if_pos htwo]
        obtain ⟨hop1, hop2⟩ := htwo
        have hno : ¬ 11 < x.op := by omega
        simp [hop1, hop2, hno]
        refine ⟨hlt, ?_⟩
        refine q4 (ds := [q22 u, .int x.a]) _ (by simp) (by simp) (fun _ => by simp) (fun _ => q20 u x.a (hus _ (by rw [hux]; simp)) (by omega)) ?_
        simp [hop1, hop2]
        refine q4 (ds := [q22 u, .int x.b]) _ (by simp) (by simp) (fun _ => by simp) (fun _ => q20 u x.b (hus _ (by rw [hux]; simp)) (by omega)) ?_
        simp
        refine q4 (ds := [q22 u, ql x.args]) _ (by simp) (by simp) (fun _ => by simp) (fun _ => q2m u x.args hxargs (by omega) (by have := hi x hxm; omega)) ?_
        simp
        refine ⟨by omega, i + 1, by omega, by omega, srcs [(0, .id 99), (30, .id 30), (3, .id 3), (1, .id 1)], ?_⟩
        simp [SLeK, hnext]
        refine ⟨q6 (q5 (by omega)), fun j hj => qf qp default ?_ hj⟩
        simp [qp, qi, hg, htw, hon]
      have htw : q73 x.op = false := by rw [← Bool.not_eq_true, q4b]; exact htwo
      by_cases hone : x.op = 13 ∨ x.op = 16
      · have hux : uses x = [x.a] := by unfold uses; rw [if_neg htwo, if_pos hone]
        have hon : q69 x.op = true := (q27 _).2 (.inr hone)
        rcases hone with hone | hone
        · simp [hone]
          refine ⟨hlt, ?_⟩
          refine q4 (ds := [q22 u, .int x.a]) _ (by simp) (by simp) (fun _ => by simp) (fun _ => q20 u x.a (hus _ (by rw [hux]; simp)) (by omega)) ?_
          simp [hone]
          refine q4 (ds := [q22 u, ql x.args]) _ (by simp) (by simp) (fun _ => by simp) (fun _ => q2m u x.args hxargs (by omega) (by have := hi x hxm; omega)) ?_
          simp
          refine ⟨by omega, i + 1, by omega, by omega, srcs [(0, .id 93), (30, .id 30), (3, .id 3), (1, .id 1)], ?_⟩
          simp [SLeK, hnext]
          refine ⟨q6 (q5 (by omega)), fun j hj => qf qp default ?_ hj⟩
          simp [qp, qi, hg, htw, hon, hone]
          exact ⟨fun h => absurd h (by decide), fun h => absurd h (by decide)⟩
        · simp [hone]
          refine ⟨hlt, ?_⟩
          refine q4 (ds := [q22 u, .int x.a]) _ (by simp) (by simp) (fun _ => by simp) (fun _ => q20 u x.a (hus _ (by rw [hux]; simp)) (by omega)) ?_
          simp [hone]
          refine q4 (ds := [q22 u, ql x.args]) _ (by simp) (by simp) (fun _ => by simp) (fun _ => q2m u x.args hxargs (by omega) (by have := hi x hxm; omega)) ?_
          simp
          refine ⟨by omega, i + 1, by omega, by omega, srcs [(0, .id 93), (30, .id 30), (3, .id 3), (1, .id 1)], ?_⟩
          simp [SLeK, hnext]
          refine ⟨q6 (q5 (by omega)), fun j hj => qf qp default ?_ hj⟩
          simp [qp, qi, hg, htw, hon, hone]
          exact ⟨fun h => absurd h (by decide), fun h => absurd h (by decide)⟩
      · have hon : q69 x.op = false := by rw [← Bool.not_eq_true, q27]; rintro (h | h); exact htwo h; exact hone h
        have hno1 : ¬ x.op = 13 := fun h => hone (.inl h)
        have hno2 : ¬ x.op = 16 := fun h => hone (.inr h)
        by_cases hop1 : 2 ≤ x.op
        · have hop2 : ¬ x.op ≤ 11 := fun h => htwo ⟨hop1, h⟩
          simp [hno1, hno2, hop1, hop2]
          refine ⟨hlt, fun _ => .inr (by omega), fun _ => ?_⟩
          refine q4 (ds := [q22 u, ql x.args]) _ (by simp) (by simp) (fun _ => by simp) (fun _ => q2m u x.args hxargs (by omega) (by have := hi x hxm; omega)) ?_
          simp
          refine ⟨by omega, i + 1, by omega, by omega, srcs [(0, .id 87), (30, .id 30), (3, .id 3), (1, .id 1)], ?_⟩
          simp [SLeK, hnext]
          refine ⟨q6 (q5 (by omega)), fun j hj => qf qp default ?_ hj⟩
          simp [qp, qi, hg, htw, hon]
        · simp [hno1, hno2, hop1]
          refine ⟨hlt, .inl (by omega), ?_⟩
          refine q4 (ds := [q22 u, ql x.args]) _ (by simp) (by simp) (fun _ => by simp) (fun _ => q2m u x.args hxargs (by omega) (by have := hi x hxm; omega)) ?_
          simp
          refine ⟨by omega, i + 1, by omega, by omega, srcs [(0, .id 87), (30, .id 30), (3, .id 3), (1, .id 1)], ?_⟩
          simp [SLeK, hnext]
          refine ⟨q6 (q5 (by omega)), fun j hj => qf qp default ?_ hj⟩
          simp [qp, qi, hg, htw, hon]
  have hgl : ∀ l : List Int, (l.map fun v => (nst u v.toNat : Int)) = l.map (gT b) := fun l => List.map_congr_left fun v _ => hg v
  have hue : ∀ v ∈ q2r b, v.toNat ≤ u.length := fun v hv => by
    have := hfit.ends v hv
    omega
  have hln := qd2 b i
  refine q4 (ds := [q22 u, ql b.args]) _ (by simp) (by simp) (fun _ => by simp) (fun _ => q2m u b.args (fun v hv => hue v (by simp [q2r, hv])) (by omega) (by omega)) ?_
  simp
  refine q4 (ds := [q22 u, ql b.elses]) _ (by simp) (by simp) (fun _ => by simp) (fun _ => q2m u b.elses (fun v hv => hue v (by simp [q2r, hv])) (by omega) (by omega)) ?_
  rw [qwu hge] at *
  rw [hgl, hgl]
  by_cases hk1 : b.kind = 1
  · simp [hk1]
    unfold q6c
    rw [if_pos hk1, hk1]
    exact DLe.refl _
  · simp [hk1]
    have hta : b.ta ∈ q2r b := by unfold q2r; rw [if_neg hk1]; simp
    refine q4 (ds := [q22 u, .int b.ta]) _ (by simp) (by simp) (fun _ => by simp) (fun _ => q20 u b.ta (hue _ hta) (by omega)) ?_
    simp
    unfold q6c
    rw [if_neg hk1, hg]
    exact DLe.refl _
set_option maxRecDepth 10000 in
theorem qof (f : Func) (he : qgi f) (hto : ∀ b ∈ f.blocks, (¬ b.kind = 3 → 0 ≤ b.to) ∧ (b.kind = 2 → 0 ≤ b.els)) (hl : f.blocks.length ≤ 1000) : APure Tryz.prog 75 [.agg (qm f)] (q22 (inBL f)) := by
  refine qb _ _ Tryz.func75 (by kernel_rfl) qbu qbz rfl rfl (fun _ => ?_)
  obtain ⟨n, hn⟩ : ∃ n, f.blocks.length = n := ⟨_, rfl⟩
  simp [q5x, q63, hn]
  refine ⟨by omega, ?_⟩
  refine qe (κ := Nat) (fun k => k ≤ n) (fun k => n - k) (fun k => [(sl 4, .int k), (sl 3, .own 5 n)]) (fun k => [(5, .vec 4 1 n (rowU (q2f f k)))]) 10 0 (srcs [(5, .id 5)]) (by simp) (by
    simp [rowU]
    intro i hi
    have h0 : q2f f 0 = List.replicate n false := by unfold q2f; rw [hn]
    rw [h0, List.getElem?_replicate]
    split <;> exact DLe.refl _) ?_
  intro k hk
  simp [hn]
  have hrl : (q2f f k).length = n := by rw [q4d, hn]
  refine ⟨fun hlt => ?_, fun hge => ?_⟩
  · refine ⟨by omega, ?_⟩
    obtain ⟨v, hv⟩ : ∃ v, (q2f f k).set 0 true = v := ⟨_, rfl⟩
    have hvl : v.length = n := by rw [← hv, List.length_set]; exact hrl
    have hrn : q2f f (k + 1) = q4e f v n := by
      show qbp f (q2f f k) = _
      unfold qbp
      rw [hv, hn]
    refine qe (κ := Nat) (fun j => j ≤ n) (fun j => n - j) (fun j => [(sl 5, .int j), (sl 3, .own 5 n)]) (fun j => [(5, .vec 4 1 n (rowU (q4e f v j)))]) 10 0 (srcs [(5, .id 5)]) (by simp) (by
      simp
      intro i hi
      have e := q6f (u := q2f f k) (v := 0) (by rw [hrl]; omega) true i
      rw [e, hv]
      simp [rowU, q4e]) ?_
    intro j hj
    have hsl : (q4e f v j).length = n := by rw [(qcs v j).1, hvl]
    simp [hn]
    refine ⟨fun hjt => ⟨hjt, ?_⟩, fun hjg => ?_⟩
    · have hjt' : j < f.blocks.length := by omega
      obtain ⟨b, hb⟩ : ∃ b, f.blocks[j] = b := ⟨_, rfl⟩
      have hbm : b ∈ f.blocks := by rw [← hb]; exact List.getElem_mem _
      have hbj : f.blocks[j]? = some b := by rw [List.getElem?_eq_getElem hjt', hb]
      have hto1 := hto b hbm
      have he1 := he b hbm
      rw [hn] at he1
      obtain ⟨u, hu⟩ : ∃ u, q4e f v j = u := ⟨_, rfl⟩
      rw [hu] at hsl
      have hnx : q4e f v (j + 1) = if u[j]? = some true then (if b.kind = 3 then u else if b.kind = 2 then (u.set b.to.toNat true).set b.els.toNat true else u.set b.to.toNat true) else u := by
        rw [q6a, hu]
        unfold qkk
        rw [hbj]
      have hju : j < u.length := by omega
      simp only [hu]
      obtain ⟨s, hs⟩ : ∃ s, u[j]? = some s := ⟨_, List.getElem?_eq_getElem hju⟩
      rw [getD_some hjt', hb, hs]
      rw [hs] at hnx
      cases s with
      | false =>
        simp at hnx
        simp [hs]
        refine ⟨hjt, j + 1, by omega, by omega, srcs [(5, .id 5)], ?_⟩
        simp [SLeK, hnx, rowU]
        exact q6 (q5 (by omega))
      | true =>
        simp at hnx
        by_cases h3 : b.kind = 3
        · rw [if_pos h3] at hnx
          simp [hs, h3]
          refine ⟨hjt, j + 1, by omega, by omega, srcs [(5, .id 5)], ?_⟩
          simp [SLeK, hnx, rowU]
          exact q6 (q5 (by omega))
        · rw [if_neg h3] at hnx
          have hset := q6f (u := u) (v := b.to.toNat) (by rw [hsl]; exact he1.1 h3) true
          have hts : (u.set b.to.toNat true)[j]?.getD false = true := by
            rw [List.getElem?_set]
            split
            · rw [if_pos (by rw [hsl]; exact he1.1 h3)]
              rfl
            · rw [hs]
              rfl
          have hb1 := hto1.1 h3
          have hb2 := he1.1 h3
          by_cases h2 : b.kind = 2
          · rw [if_pos h2] at hnx
            have hb3 := hto1.2 h2
            have hb4 := he1.2 h2
            simp [hs, h2, hset j, hts]
            refine ⟨⟨hb1, by omega⟩, hb2, hjt, ⟨hb3, by omega⟩, hb4, j + 1, by omega, by omega, srcs [(5, .id 5)], ?_⟩
            simp [SLeK, hnx]
            refine ⟨q6 (q5 (by omega)), fun i hi => ?_⟩
            have e2 := q6f (u := u.set b.to.toNat true) (v := b.els.toNat) (by rw [List.length_set, hsl]; exact hb4) true i
            rw [hset b.els.toNat, z79, hset i, e2]
            simp [rowU]
          · rw [if_neg h2] at hnx
            simp [hs, h2, h3, hset j, hts]
            refine ⟨⟨hb1, by omega⟩, hb2, hjt, j + 1, by omega, by omega, srcs [(5, .id 5)], ?_⟩
            simp [SLeK, hnx]
            refine ⟨q6 (q5 (by omega)), fun i hi => ?_⟩
            rw [hset i]
            simp [rowU]
    · obtain rfl : j = n := by omega
      refine ⟨k + 1, by omega, by omega, srcs [(5, .id 5)], ?_⟩
      simp [SLeK, hrn, rowU]
      exact q6 (q5 (by omega))
  · obtain rfl : k = n := by omega
    have e : inBL f = q2f f k := by unfold inBL; rw [hn]
    rw [e]
    exact qku hrl.symm fun _ _ => rfl
def qfw (f : Func) (k : Nat) : List Block := (sel (inBL f) (f.blocks.take k)).map fun b => endT f (q6c b)
@[simp] theorem trimT_zero (f : Func) : qfw f 0 = [] := by
 unfold qfw
 rw [List.take_zero]
 cases inBL f with
 | nil => rfl
 | cons s l => cases s <;> rfl
theorem qwv {f : Func} {k : Nat} (h : f.blocks.length ≤ k) : qfw f k = (qbc f).blocks := by
 unfold qfw qbc
 rw [List.take_of_length_le h]
theorem qrb {f : Func} {k : Nat} {s : Bool} (hk : k < f.blocks.length) (hs : (inBL f)[k]? = some s) : qfw f (k + 1) = qfw f k ++ (if s = true then [endT f (q6c f.blocks[k])] else []) := by
 unfold qfw
 rw [List.take_succ_eq_append_getElem hk, qss (s := s) (by rw [List.length_take, Nat.min_eq_left (by omega)]; exact hs), List.map_append]
 cases s <;> rfl
theorem qke (f : Func) (k : Nat) : (qfw f k).length ≤ k := by
 unfold qfw
 rw [List.length_map, q8a (by rw [List.length_take, qu]; omega)]
 exact Nat.le_trans (qqd _ _) (by rw [List.length_take]; omega)
theorem qh7 {f : Func} (h : qr f = true) {b : Block} (hb : b ∈ f.blocks) : (b.args.length ≤ 1000 ∧ b.elses.length ≤ 1000) ∧ (¬ b.kind = 3 → 0 ≤ b.to) ∧ (b.kind = 2 → 0 ≤ b.els) := by
 have hbk := (qh.1 (q35 h b hb)).2.2.2.2
 have hg : ∀ (to : Int) (l : List Int) (n : Int), q4a f to l n = true → 0 ≤ to ∧ l.length ≤ 1000 := fun to l n hg => by
  obtain ⟨h0, ⟨c, hc, hl⟩, _⟩ := q5a.1 hg
  have := (qh.1 (q35 h c (List.mem_of_getElem? hc))).2.1
  exact ⟨h0, by omega⟩
 rcases q82.1 hbk with ⟨e1, e2, _, e4, e5⟩ | ⟨e1, _, e3, e4⟩ | ⟨e1, _, e3, e4, e5, e6⟩
 ·rw [e5]
  exact ⟨⟨(hg _ _ _ e2).2, by simp⟩, fun _ => (hg _ _ _ e2).1, fun h => by omega⟩
 ·exact ⟨⟨(hg _ _ _ e3).2, (hg _ _ _ e4).2⟩, fun _ => (hg _ _ _ e3).1, fun _ => (hg _ _ _ e4).1⟩
 ·rw [e4, e6]
  exact ⟨by simp, fun h => absurd e1 h, fun h => by omega⟩
set_option maxRecDepth 10000 in
theorem qxq (f : Func) (hf : qr f = true) : APure Tryz.prog 45 [.agg (qm f)] (.agg (qm (qbc f))) := by
  have hlen := q1v hf
  have he := z01 hf
  refine qb _ _ Tryz.func45 (by kernel_rfl) qfr qg9 rfl rfl (fun _ => ?_)
  simp [q8n, q9d]
  refine q4 (ds := [.agg (qm f)]) _ (by simp) (by simp) (fun _ => by simp; rfl) (fun _ => qof f he (fun b hb => (qh7 hf hb).2) (by omega)) ?_
  simp
  refine qe (κ := Nat) (fun i => i ≤ f.blocks.length) (fun i => f.blocks.length - i) (fun i => [(sl 5, .int i)])
    (fun i => [(0, .row 58 8 (qfw f i).length fun j => qd ((qfw f i)[j]?.getD default)), (12, .box [.d (.str f.name), .int f.bind, .int f.params, .own 0 (qfw f i).length]), (1, .box [.d (.str ⟨#[]⟩), .int 0, .int 0, .d (.lit (.slice none 0 0))])]) 14 0 (srcs [(0, .nil), (12, .id 12), (1, .id 1)]) (by simp) (by simp) ?_
  intro i hi
  have hln := qke f i
  simp
  refine ⟨fun hlt => ?_, fun hge => ?_⟩
  · have hit : i < (inBL f).length := by rw [qu]; exact hlt
    obtain ⟨s, hs⟩ : ∃ s, (inBL f)[i]? = some s := ⟨_, List.getElem?_eq_getElem hit⟩
    have hnext := qrb hlt hs
    obtain ⟨b, hb⟩ : ∃ b, f.blocks[i] = b := ⟨_, rfl⟩
    have hbm : b ∈ f.blocks := by rw [← hb]; exact List.getElem_mem _
    have hbs := qh7 hf hbm
    have hbe := he b hbm
    rw [hb] at hnext
    rw [hs, getD_some hlt, hb]
    cases s with
    | false =>
      simp at hnext
      simp
      refine ⟨hlt, i + 1, by omega, by omega, srcs [(0, .id 0), (12, .id 12), (1, .id 1)], ?_⟩
      simp [SLeK, hnext]
      exact q6 (q5 (by omega))
    | true =>
      simp only [if_pos] at hnext
      simp
      refine ⟨hlt, ?_⟩
      refine q4 (ds := [.agg (qd b)]) _ (by simp) (by simp) (fun _ => by simp) (fun _ => qty f b (q35 hf b hbm) hbs.1.1 hbs.1.2) ?_
      have htk : (q6c b).kind = b.kind := rfl
      have htt : (q6c b).to = b.to := rfl
      have hte : (q6c b).els = b.els := rfl
      by_cases h3 : b.kind = 3
      · simp [htk, htt, hte, h3]
        refine ⟨by omega, i + 1, by omega, by omega, srcs [(0, .id 44), (12, .id 12), (1, .id 1)], ?_⟩
        simp [SLeK, hnext]
        refine ⟨q6 (q5 (by omega)), fun j hj => qf qd default ?_ hj⟩
        simp [qd, endT, htk, htt, hte, gB, *]
      by_cases h2 : b.kind = 2
      · simp [htk, htt, hte, h2]
        refine q4 (ds := [q22 (inBL f), .int b.to]) _ (by simp) (by simp) (fun _ => by simp) (fun _ => q20 (inBL f) b.to (by rw [qu]; have := hbe.1 h3; omega) (by rw [qu]; omega)) ?_
        simp [h2]
        refine q4 (ds := [q22 (inBL f), .int b.els]) _ (by simp) (by simp) (fun _ => by simp) (fun _ => q20 (inBL f) b.els (by rw [qu]; have := hbe.2 h2; omega) (by rw [qu]; omega)) ?_
        simp
        refine ⟨by omega, i + 1, by omega, by omega, srcs [(0, .id 60), (12, .id 12), (1, .id 1)], ?_⟩
        simp [SLeK, hnext]
        refine ⟨q6 (q5 (by omega)), fun j hj => qf qd default ?_ hj⟩
        simp [qd, endT, htk, htt, hte, gB, *]
      · simp [htk, htt, hte, h2, h3]
        refine q4 (ds := [q22 (inBL f), .int b.to]) _ (by simp) (by simp) (fun _ => by simp) (fun _ => q20 (inBL f) b.to (by rw [qu]; have := hbe.1 h3; omega) (by rw [qu]; omega)) ?_
        simp [h2]
        refine ⟨by omega, i + 1, by omega, by omega, srcs [(0, .id 52), (12, .id 12), (1, .id 1)], ?_⟩
        simp [SLeK, hnext]
        refine ⟨q6 (q5 (by omega)), fun j hj => qf qd default ?_ hj⟩
        simp [qd, endT, htk, htt, hte, gB, *]
  · rw [qwv hge]
    exact DLe.refl _
set_option maxRecDepth 10000 in
theorem qsf (m : Module) (hok : ModOk m) : APure Tryz.prog 27 [.agg (q8 m)] (.agg (q8 (z3q m))) := by
 refine qb _ _ Tryz.func27 (by kernel_rfl) qcx qd6 rfl rfl (fun _ => ?_)
 simp [q6j, q6u]
 have hnf := hok.nf
 refine qe (κ := Nat) (fun i => i ≤ m.funcs.length) (fun i => m.funcs.length - i) (fun i => [(sl 4, .int i)])
  (fun i => [(0, .row 61 4 (mapT qbc m.funcs i).length fun j => qm ((mapT qbc m.funcs i)[j]?.getD default)), (5, .box [.own 0 (mapT qbc m.funcs i).length, .d (q2u m.globs)]), (1, .box [.d (.lit (.slice none 0 0)), .d (.lit (.slice none 0 0))])]) 8 0 (srcs [(0, .nil), (5, .id 5), (1, .id 1)]) (by simp) (by simp) ?_
 intro i hi
 have hln := q8z qbc m.funcs i
 simp
 refine ⟨fun hlt => ?_, fun hge => ?_⟩
 ·refine ⟨hlt, ?_⟩
  have hsucc := qcg qbc hlt
  rw [getD_some hlt]
  obtain ⟨f, hf⟩ : ∃ f, m.funcs[i] = f := ⟨_, rfl⟩
  have hfm : f ∈ m.funcs := by rw [← hf]; exact List.getElem_mem hlt
  have hfo := hok.funcs f hfm
  rw [hf] at hsucc ⊢
  refine q4 (ds := [.agg (qm f)]) _ (by simp) (by simp) (fun _ => by simp) (fun _ => qk6 f fun b hb x hx => by
   obtain ⟨k, hk, rfl⟩ := List.getElem_of_mem hx
   have := q8w ((qh.1 (q35 hfo b hb)).2.2.2.1 k hk)
   omega) ?_
  simp [hfo]
  refine ⟨hlt, ?_⟩
  rw [getD_some hlt, hf]
  refine q4 (ds := [.agg (qm f)]) _ (by simp) (by simp) (fun _ => by simp) (fun _ => qxq f hfo) ?_
  simp
  refine ⟨by omega, i + 1, by omega, by omega, srcs [(0, .id 30), (5, .id 5), (1, .id 1)], ?_⟩
  simp [SLeK, hsucc]
  exact ⟨q6 (q5 (by omega)), fun j hj => qf qm default rfl hj⟩
 ·rw [qhp _ hge]
  exact DLe.refl _
def LA (n : Nat) (f : Value → Option Value) : List (Nat × AObj) := [(1000000, .map (.int .i64) n f)]
set_option maxRecDepth 10000 in
theorem qgk (n : Nat) (f : Value → Option Value) (l : List Int) (g : Int → Int) (hl : l.length ≤ 1000000) (hg : ∀ v ∈ l, (f (.int .i64 v)).getD (.int .i64 0) = .int .i64 (g v)) : AEff Tryz.prog 118 [.d (ql l), .mp 1000000] (LA n f) (ql (l.map g)) (LA n f) := by
 refine qx7 _ _ Tryz.func118 (by kernel_rfl) qkn qkr rfl rfl (by simp [LA]) (by simp [LA, q2x]) (fun _ => ?_)
 simp [qbj, qbo, LA]
 refine qe (κ := Nat) (fun k => k ≤ l.length) (fun k => l.length - k) (fun k => [(sl 10, .int k), (sl 5, .own 0 (mapT g l k).length)]) (fun k => [(0, .row 3 1 (mapT g l k).length fun i => intC ((mapT g l k)[i]?.getD 0)), (1000000, .map (.int .i64) n f)]) 10 0 (srcs [(0, .nil)]) (by simp) (by simp) ?_
 rintro k hk
 have hlen := q8z g l k
 simp
 refine ⟨fun hlt => ?_, fun hge => ?_⟩
 ·have hgk := hg _ (List.getElem_mem hlt)
  have hsucc := qcg g hlt
  rw [getD_some hlt, hgk]
  refine ⟨hlt, rfl, ⟨by omega, rfl⟩, k + 1, by omega, by omega, srcs [(0, .id 19)], ?_⟩
  simp [SLeK, hsucc]
  exact ⟨q6 (q5 (by omega)), fun i hi => qf intC 0 rfl hi⟩
 ·rw [qhp _ hge]
  exact ⟨DLe.refl _, .none, by simp [gE], by simp [gE]⟩
def asF (b : Block) (k : Nat) : Value → Option Value
 | .int .i64 v => if (0 ≤ v ∧ v.toNat < k) ∧ (q1s b)[v.toNat]? = some true then some (.int .i64 (gT b v)) else none
 | _ => none
theorem qx8 {b : Block} {k : Nat} {v : Int} (h0 : 0 ≤ v) (hk : v.toNat < k) (hs : (q1s b)[v.toNat]? = some true) : asF b k (.int .i64 v) = some (.int .i64 (gT b v)) := if_pos ⟨⟨h0, hk⟩, hs⟩
theorem asF_at {b : Block} {k : Nat} : asF b k (.int .i64 (k : Int)) = none := by
 refine if_neg ?_
 rintro ⟨⟨_, h⟩, _⟩
 omega
theorem asF_zero {b : Block} (key : Value) : none = asF b 0 key := by
 unfold asF
 split
 ·rw [if_neg]
  rintro ⟨⟨_, h⟩, _⟩
  omega
 ·rfl
theorem qrj {b : Block} {k : Nat} (hs : (q1s b)[k]? = some true) {key : Value} (hkey : kdOk (.int .i64) key = true) : mset (asF b k) (.int .i64 (k : Int)) (.int .i64 (gT b (k : Int))) key = asF b (k + 1) key := by
  cases key with
  | int q v =>
    simp only [kdOk, decide_eq_true_eq] at hkey
    subst hkey
    unfold mset
    by_cases hv : v = (k : Int)
    · subst hv
      rw [if_pos (by simp [keq]), qx8 (by omega) (by omega) (by rw [Int.toNat_natCast]; exact hs)]
    · rw [if_neg (by simp [keq]; exact hv)]
      unfold asF
      have : ((0 ≤ v ∧ v.toNat < k) ∧ (q1s b)[v.toNat]? = some true) = ((0 ≤ v ∧ v.toNat < k + 1) ∧ (q1s b)[v.toNat]? = some true) := by
        apply propext
        constructor
        · rintro ⟨⟨h1, h2⟩, h3⟩; exact ⟨⟨h1, by omega⟩, h3⟩
        · rintro ⟨⟨h1, h2⟩, h3⟩; exact ⟨⟨h1, by omega⟩, h3⟩
      simp only [this]
  | _ => simp [kdOk] at hkey
theorem asF_skip {b : Block} {k : Nat} (hs : (q1s b)[k]? = some false) : asF b (k + 1) = asF b k := by
 funext key
 unfold asF
 split
 ·rename_i v
  have : ((0 ≤ v ∧ v.toNat < k + 1) ∧ (q1s b)[v.toNat]? = some true) = ((0 ≤ v ∧ v.toNat < k) ∧ (q1s b)[v.toNat]? = some true) := by
   apply propext
   constructor
   ·rintro ⟨⟨h1, h2⟩, h3⟩
    refine ⟨⟨h1, ?_⟩, h3⟩
    rcases Nat.lt_or_ge v.toNat k with h | h
    ·exact h
    ·obtain rfl : v.toNat = k := by omega
     rw [hs] at h3; cases h3
   ·rintro ⟨⟨h1, h2⟩, h3⟩; exact ⟨⟨h1, by omega⟩, h3⟩
  simp only [this]
 ·rfl
set_option maxRecDepth 10000 in
set_option maxHeartbeats 1000000 in
theorem qz4 (f : Func) (b : Block) (hb : qj f b = true) (ha : b.args.length ≤ 1000) (he : b.elses.length ≤ 1000) : APure Tryz.prog 94 [.agg (qd b)] (.agg (qd (q6c b))) := by
  obtain ⟨h0, h6, h32, hio, hen⟩ := qh.1 hb
  have hfit := qp5 hb
  have hi : ∀ x ∈ b.ins, x.args.length ≤ 1000 := fun x hx => by
    obtain ⟨k, hk, rfl⟩ := List.getElem_of_mem hx
    have := q8w (hio k hk)
    omega
  have hnp : ∀ k, k ≤ b.params.toNat → nst (q1s b) k = k := fun k hk => qya (by rw [q3u]; omega) fun i h => q9k (by omega)
  refine qb _ _ Tryz.func94 (by kernel_rfl) qwo qx3 rfl rfl (fun _ => ?_)
  simp [qjn, qk4]
  refine q4 (ds := [.agg (qd b)]) _ (by simp) (by simp) (fun _ => by simp; rfl) (fun _ => z8a f b hb ha he hi) ?_
  simp
  refine qe (κ := Nat) (fun k => k ≤ b.params.toNat) (fun k => b.params.toNat - k) (fun k => [(sl 15, .int k)]) (fun k => [(5, .map (.int .i64) (nst (q1s b) k) (asF b k)), (1, .box [.int 0, .d (.lit (.slice none 0 0)), .int 0, .int 0, .int 0, .d (.lit (.slice none 0 0)), .int 0, .d (.lit (.slice none 0 0))])]) 10 0 (srcs [(5, .id 5), (1, .id 1)]) (by simp) ?_ ?_
  · simp [nst]
    exact fun key _ => asF_zero key
  intro k hk
  simp
  refine ⟨fun hlt => ?_, fun hge => ?_⟩
  · have hgk : gT b (k : Int) = k := by unfold gT; rw [Int.toNat_natCast, hnp k hk]
    have hs := q9k (b := b) (i := k) (by omega)
    refine ⟨k + 1, by omega, by omega, srcs [(5, .id 5), (1, .id 1)], ?_⟩
    simp [SLeK, asF_at]
    refine ⟨q6 (q5 (by omega)), ?_, fun key hkey => ?_⟩
    · rw [hnp k hk, hnp (k + 1) (by omega)]
    · have h := qrj hs hkey
      rw [hgk] at h
      exact h
  obtain rfl : k = b.params.toNat := by omega
  refine qe (κ := Nat) (fun i => i ≤ b.ins.length) (fun i => b.ins.length - i) (fun i => [(sl 25, .int i), (sl 6, .own 0 (qbw b i).length)]) (fun i => [(0, .row 53 6 (qbw b i).length fun j => qp ((qbw b i)[j]?.getD default)), (5, .map (.int .i64) (nst (q1s b) (b.params.toNat + i)) (asF b (b.params.toNat + i))), (1, .box [.int 0, .d (.lit (.slice none 0 0)), .int 0, .int 0, .int 0, .d (.lit (.slice none 0 0)), .int 0, .d (.lit (.slice none 0 0))])]) 40 0 (srcs [(0, .nil), (5, .id 5), (1, .id 1)]) (by simp) (by simp) ?_
  intro i hi1
  simp
  refine ⟨fun hlt => ?_, fun hge => ?_⟩
  · have hp : IntKind.i64.wrap (b.params + (i : Int)) = b.params + i := qq (by omega)
    have hpt : (b.params + (i : Int)).toNat = b.params.toNat + i := by omega
    obtain ⟨x, hx⟩ : ∃ x, b.ins[i] = x := ⟨_, rfl⟩
    have hxa : b.ins[i]? = some x := by rw [List.getElem?_eq_getElem hlt, hx]
    have hxm : x ∈ b.ins := List.mem_of_getElem? hxa
    have hul := q4v b
    have hut : b.params.toNat + i < (q5o b).length := by omega
    obtain ⟨s, hs⟩ : ∃ s, (q5o b)[b.params.toNat + i]? = some s := ⟨_, List.getElem?_eq_getElem hut⟩
    have hst := qib hxa
    rw [hs] at hst
    simp only [Option.getD_some] at hst
    have hnext := qra hlt hst
    have hln := qd2 b i
    rw [hx] at hnext
    refine ⟨hlt, ?_⟩
    rw [hxa]
    simp only [Option.getD_some]
    refine q4 (ds := [.agg (qp x)]) _ (by simp) (by simp) (fun _ => by simp; rfl) (fun _ => qud x) ?_
    cases hq : (qaw x.op || s) with
    | false =>
      rw [hq] at hst hnext
      obtain ⟨hd, rfl⟩ : qaw x.op = false ∧ s = false := by simpa using hq
      simp at hnext
      simp [hd, hp, hpt, hs]
      refine ⟨⟨by omega, by omega⟩, i + 1, by omega, by omega, srcs [(0, .id 0), (5, .id 5), (1, .id 1)], ?_⟩
      have hsk := asF_skip hst
      have hns := qb2 hst
      rw [if_neg (by simp), Nat.add_zero] at hns
      rw [Nat.add_assoc] at hsk hns
      simp [SLeK, hnext, hsk, hns]
      exact q6 (q5 (by omega))
    | true =>
      rw [hq] at hst hnext
      simp only [if_pos] at hnext
      have hkk : ((b.params.toNat + i : Nat) : Int) = b.params + i := by omega
      have hno14 : ¬ x.op = 14 → x.args = [] := fun h14 => by
        have h := hx ▸ hio i hlt
        unfold qt at h
        simp only [Bool.and_eq_true, Bool.or_eq_true, beq_iff_eq] at h
        rcases h.1.1.2 with h1 | h1
        · exact absurd h1 h14
        · exact List.length_eq_zero_iff.1 h1
      have hc : IntKind.i64.wrap (b.params + ((qbw b i).length : Int)) = gT b (b.params + (i : Int)) := by
        rw [qq (by omega)]
        unfold gT
        rw [hpt, z6q]
        have : (qbw b i).length = nst ((q1s b).drop b.params.toNat) i := by
          unfold qbw
          rw [List.length_map, q8a (by rw [List.length_take, List.length_drop, q3u]; omega), List.length_take, Nat.min_eq_left (by omega)]
        omega
      have hasn : (asF b (b.params.toNat + i) (.int .i64 (b.params + (i : Int)))) = none := by rw [← hkk]; exact asF_at
      simp [hp, hpt, hs]
      refine ⟨fun h => ⟨h, by omega, by omega⟩, fun h1 h2 => (by rw [h1, h2] at hq; cases hq), fun _ => ?_⟩
      obtain ⟨M, hM⟩ : ∃ M, mset (asF b (b.params.toNat + i)) (.int .i64 (b.params + (i : Int))) (.int .i64 (gT b (b.params + (i : Int)))) = M := ⟨_, rfl⟩
      have hMu : ∀ v ∈ uses x, M (.int .i64 v) = some (.int .i64 (gT b v)) := fun v hv => by
        have h1 := qrj hst (key := .int .i64 v) (by simp [kdOk])
        rw [hkk, hM] at h1
        have h2 := hfit.ins i x hxa v hv
        rw [h1, qx8 h2.1 (by omega) (qr1 hfit hxa hst hv)]
      have hMe : ∀ key, kdOk (.int .i64) key = true → M key = asF b (b.params.toNat + (i + 1)) key := fun key hkey => by
        have h1 := qrj hst hkey
        rw [hkk, hM] at h1
        exact h1
      have hMa : ∀ v ∈ x.args, (M (.int .i64 v)).getD (.int .i64 0) = .int .i64 (gT b v) := fun v hv => by
        by_cases h14 : x.op = 14
        · rw [hMu v (by unfold uses; rw [if_neg (by omega), if_neg (by omega), if_pos h14]; exact hv)]
          rfl
        · rw [hno14 h14] at hv
          cases hv
      have hMb : ∀ v, ∃ w, (M (.int .i64 v)).getD (.int .i64 0) = .int .i64 w := fun v => by
        rw [hMe _ (by simp [kdOk])]
        unfold asF
        simp only
        split
        · exact ⟨_, rfl⟩
        · exact ⟨_, rfl⟩
      have hns : nst (q1s b) (b.params.toNat + (i + 1)) = nst (q1s b) (b.params.toNat + i) + 1 := by
        have h := qb2 hst
        rw [if_pos rfl] at h
        exact h
      simp only [hc, hM, hasn]
      refine q4 (ds := [.agg (qp x)]) _ (by simp) (by simp) (fun _ => by simp; rfl) (fun _ => qiq x (by have := hi x hxm; omega)) ?_
      by_cases htwo : 2 ≤ x.op ∧ x.op ≤ 11
      · have hux : uses x = [x.a, x.b] := by unfold uses; rw [if_pos htwo]
        have m1 := hMu x.a (by rw [hux]; simp)
        have m2 := hMu x.b (by rw [hux]; simp)
        have n13 : ¬ x.op = 13 := by omega
        have n14 : ¬ x.op = 14 := by omega
        have n16 : ¬ x.op = 16 := by omega
        simp [hux, m1, m2]
        refine q43 (qgk (nst (q1s b) (b.params.toNat + i) + 1) M x.args (gT b) (by have := hi x hxm; omega) hMa) (fun q => if q = 1000000 then 5 else 90) rfl [.d (ql x.args), .mp 5] (by simp) (by simp) (by simp) (by simp [gOf, LA]) (by simp [gOf, LA]) (by simp [gOf, LA]) (by simp [LA, q2x]) ?_
        have htw : q73 x.op = true := (q4b _).2 htwo
        have hon : q69 x.op = true := (q27 _).2 (.inl htwo)
        simp [LA, n13, n14, n16]
        refine ⟨by omega, i + 1, by omega, by omega, srcs [(0, .id 112), (5, .id 5), (1, .id 1)], ?_⟩
        simp [SLeK, hnext, hns]
        refine ⟨q6 (q5 (by omega)), fun j hj => qf qp default ?_ hj, fun key hkey => hMe key hkey⟩
        simp [qp, qi, htw, hon]
      have htw : q73 x.op = false := by rw [← Bool.not_eq_true, q4b]; exact htwo
      have hb0 : x.b = 0 := by
        have h := hx ▸ hio i hlt
        unfold qt at h
        simp only [Bool.and_eq_true, Bool.or_eq_true, beq_iff_eq] at h
        rcases h.1.1.1.1.2 with h1 | h1
        · rw [htw] at h1; cases h1
        · exact h1
      obtain ⟨wa, hwa⟩ := hMb x.a
      obtain ⟨wb, hwb⟩ := hMb x.b
      by_cases hone : x.op = 13 ∨ x.op = 16
      · have hux : uses x = [x.a] := by unfold uses; rw [if_neg htwo, if_pos hone]
        have hon : q69 x.op = true := (q27 _).2 (.inr hone)
        have m1 := hMu x.a (by rw [hux]; simp)
        have n14 : ¬ x.op = 14 := by omega
        simp [hux, m1, hwb]
        refine q43 (qgk (nst (q1s b) (b.params.toNat + i) + 1) M x.args (gT b) (by have := hi x hxm; omega) hMa) (fun q => if q = 1000000 then 5 else 90) rfl [.d (ql x.args), .mp 5] (by simp) (by simp) (by simp) (by simp [gOf, LA]) (by simp [gOf, LA]) (by simp [gOf, LA]) (by simp [LA, q2x]) ?_
        rcases hone with hone | hone
        · simp [LA, hone]
          refine ⟨by omega, i + 1, by omega, by omega, srcs [(0, .id 114), (5, .id 5), (1, .id 1)], ?_⟩
          simp [SLeK, hnext, hns]
          refine ⟨q6 (q5 (by omega)), fun j hj => qf qp default ?_ hj, fun key hkey => hMe key hkey⟩
          simp [qp, qi, htw, hon, hone, hb0]
          exact ⟨fun h => absurd h (by decide), fun h => absurd h (by decide)⟩
        · simp [LA, hone]
          refine ⟨by omega, i + 1, by omega, by omega, srcs [(0, .id 114), (5, .id 5), (1, .id 1)], ?_⟩
          simp [SLeK, hnext, hns]
          refine ⟨q6 (q5 (by omega)), fun j hj => qf qp default ?_ hj, fun key hkey => hMe key hkey⟩
          simp [qp, qi, htw, hon, hone, hb0]
          exact ⟨fun h => absurd h (by decide), fun h => absurd h (by decide)⟩
      have hon : q69 x.op = false := by rw [← Bool.not_eq_true, q27]; rintro (h | h); exact htwo h; exact hone h
      have ha0 : x.a = 0 := by
        have h := hx ▸ hio i hlt
        unfold qt at h
        simp only [Bool.and_eq_true, Bool.or_eq_true, beq_iff_eq] at h
        rcases h.1.1.1.1.1.2 with h1 | h1
        · rw [hon] at h1; cases h1
        · exact h1
      have n13 : ¬ x.op = 13 := fun h => hone (.inl h)
      have n16 : ¬ x.op = 16 := fun h => hone (.inr h)
      by_cases h14 : x.op = 14
      · have hux : uses x = x.args := by unfold uses; rw [if_neg htwo, if_neg hone, if_pos h14]
        by_cases hl0 : x.args = []
        · simp [hux, hl0, h14]
          refine ⟨by omega, i + 1, by omega, by omega, srcs [(0, .id 98), (5, .id 5), (1, .id 1)], ?_⟩
          simp [SLeK, hnext, hns]
          refine ⟨q6 (q5 (by omega)), fun j hj => qf qp default ?_ hj, fun key hkey => hMe key hkey⟩
          simp [qp, qi, htw, hon, h14, hl0, ha0, hb0]
          exact ⟨fun h => absurd h (by decide), fun h => absurd h (by decide)⟩
        · have hlp : 0 < x.args.length := List.length_pos_iff.2 hl0
          simp [hux, hlp, hwa, hwb]
          refine q43 (qgk (nst (q1s b) (b.params.toNat + i) + 1) M x.args (gT b) (by have := hi x hxm; omega) hMa) (fun q => if q = 1000000 then 5 else 90) rfl [.d (ql x.args), .mp 5] (by simp) (by simp) (by simp) (by simp [gOf, LA]) (by simp [gOf, LA]) (by simp [gOf, LA]) (by simp [LA, q2x]) ?_
          simp [LA, h14]
          refine ⟨by omega, i + 1, by omega, by omega, srcs [(0, .id 116), (5, .id 5), (1, .id 1)], ?_⟩
          simp [SLeK, hnext, hns]
          refine ⟨q6 (q5 (by omega)), fun j hj => qf qp default ?_ hj, fun key hkey => hMe key hkey⟩
          simp [qp, qi, htw, hon, h14, ha0, hb0]
          exact ⟨fun h => absurd h (by decide), fun h => absurd h (by decide)⟩
      · have hux : uses x = [] := by unfold uses; rw [if_neg htwo, if_neg hone, if_neg h14]
        simp [hux, n13, h14, n16]
        refine ⟨by omega, i + 1, by omega, by omega, srcs [(0, .id 94), (5, .id 5), (1, .id 1)], ?_⟩
        simp [SLeK, hnext, hns]
        refine ⟨q6 (q5 (by omega)), fun j hj => qf qp default ?_ hj, fun key hkey => hMe key hkey⟩
        simp [qp, qi, htw, hon, hno14 h14]
  obtain rfl : i = b.ins.length := by omega
  have hval : ∀ v ∈ q2r b, (asF b (b.params.toNat + b.ins.length) (.int .i64 v)).getD (.int .i64 0) = .int .i64 (gT b v) := fun v hv => by
    have h := hfit.ends v hv
    rw [qx8 h.1 (by omega) (qqz hfit hv)]
    rfl
  refine z52 (qgk (nst (q1s b) (b.params.toNat + b.ins.length)) (asF b (b.params.toNat + b.ins.length)) b.args (gT b) (by omega) (fun v hv => hval v (by simp [q2r, hv]))) (fun q => if q = 1000000 then 5 else 48) rfl [.d (ql b.args), .mp 5] (by simp) (by simp) (by simp) (by simp [gOf, LA]) (by simp [gOf, LA]) (by simp [gOf, LA]) (by simp [LA, q2x]) (by simp [LA]) ?_
  simp [LA]
  refine z52 (qgk (nst (q1s b) (b.params.toNat + b.ins.length)) (asF b (b.params.toNat + b.ins.length)) b.elses (gT b) (by omega) (fun v hv => hval v (by simp [q2r, hv]))) (fun q => if q = 1000000 then 5 else 52) rfl [.d (ql b.elses), .mp 5] (by simp) (by simp) (by simp) (by simp [gOf, LA]) (by simp [gOf, LA]) (by simp [gOf, LA]) (by simp [LA, q2x]) (by simp [LA]) ?_
  simp [LA]
  rw [qwu (Nat.le_refl _)]
  by_cases hk1 : b.kind = 1
  · simp [hk1]
    unfold q6c
    rw [if_pos hk1, hk1]
    exact DLe.refl _
  · have hta : b.ta ∈ q2r b := by unfold q2r; rw [if_neg hk1]; simp
    simp [hk1, hval _ hta]
    unfold q6c
    rw [if_neg hk1]
    exact DLe.refl _
def dfsB (f : Func) : Nat → List Bool → Nat → List Bool
  | 0, u, _ => u
  | n + 1, u, k => if u[k]? = some true then u else match f.blocks[k]? with
    | none => u.set k true
    | some b =>
      let u2 := if b.kind = 3 then u.set k true else dfsB f n (u.set k true) b.to.toNat
      if b.kind = 2 then dfsB f n u2 b.els.toNat else u2
def qmt (u : List Bool) : Nat := u.countP fun x => !x
theorem qsb : ∀ {u v : List Bool}, v.length = u.length → (∀ i : Nat, u[i]? = some true → v[i]? = some true) → qmt v ≤ qmt u
  | [], [], _, _ => Nat.le_refl _
  | a :: u, c :: v, hl, h => by
    have ih := qsb (u := u) (v := v) (by simpa using hl) fun i hi => by simpa using h (i + 1) (by simpa using hi)
    have h0 := h 0
    unfold qmt at ih ⊢
    cases a <;> cases c <;> simp_all <;> omega
  | [], _ :: _, hl, _ => by simp at hl
  | _ :: _, [], hl, _ => by simp at hl
theorem qmu : ∀ {u : List Bool} {k : Nat}, u[k]? = some false → qmt (u.set k true) + 1 = qmt u
  | [], k, h => by simp at h
  | a :: u, 0, h => by
    simp at h
    subst h
    simp [qmt]
  | a :: u, k + 1, h => by
    have ih := qmu (u := u) (k := k) (by simpa using h)
    unfold qmt at ih ⊢
    cases a <;> simp <;> omega
def SuccIn (f : Func) (j : Nat) (r : List Bool) : Prop := ∀ b, f.blocks[j]? = some b → (¬ b.kind = 3 → r[b.to.toNat]? = some true) ∧ (b.kind = 2 → r[b.els.toNat]? = some true)
theorem SuccIn.mono {f : Func} {j : Nat} {r r' : List Bool} (h : SuccIn f j r) (hl : LeB r r') : SuccIn f j r' := fun b hb => ⟨fun h3 => hl.2 _ ((h b hb).1 h3), fun h2 => hl.2 _ ((h b hb).2 h2)⟩
theorem quc {f : Func} (he : qgi f) : ∀ (n : Nat) (u : List Bool) (k : Nat), u.length = f.blocks.length → qmt u < n → k < u.length →
    LeB u (dfsB f n u k) ∧ (dfsB f n u k)[k]? = some true ∧ ∀ j, (dfsB f n u k)[j]? = some true → u[j]? = some true ∨ SuccIn f j (dfsB f n u k) := by
  intro n
  induction n with
  | zero => intro u k _ h; omega
  | succ n ih =>
    intro u k hl hn hk
    unfold dfsB
    by_cases hu : u[k]? = some true
    · rw [if_pos hu]
      exact ⟨LeB.refl u, hu, fun j hj => .inl hj⟩
    rw [if_neg hu]
    have hf : u[k]? = some false := by
      rw [List.getElem?_eq_getElem hk] at hu ⊢
      cases h : u[k] with
      | true => rw [h] at hu; exact absurd rfl hu
      | false => rfl
    have hlt := qmu hf
    obtain ⟨u1, hu1⟩ : ∃ u1, u.set k true = u1 := ⟨_, rfl⟩
    have hk1 : u1[k]? = some true := by rw [← hu1, List.getElem?_set, if_pos rfl, if_pos hk]
    have hle1 : LeB u u1 := hu1 ▸ LeB.set u k
    have hl1 : u1.length = f.blocks.length := by rw [hle1.1, hl]
    have hin : ∀ j : Nat, u1[j]? = some true → u[j]? = some true ∨ j = k := fun j hj => by
      rw [← hu1, List.getElem?_set] at hj
      split at hj
      · rename_i e; exact .inr e.symm
      · exact .inl hj
    rw [hu1] at hlt
    cases hb : f.blocks[k]? with
    | none => rw [List.getElem?_eq_getElem (by omega)] at hb; cases hb
    | some b =>
      have hbe := he b (List.mem_of_getElem? hb)
      simp only [hu1]
      obtain ⟨u2, hu2⟩ : ∃ u2, (if b.kind = 3 then u1 else dfsB f n u1 b.to.toNat) = u2 := ⟨_, rfl⟩
      rw [hu2]
      have h2 : LeB u1 u2 ∧ (¬ b.kind = 3 → u2[b.to.toNat]? = some true) ∧ ∀ j, u2[j]? = some true → u1[j]? = some true ∨ SuccIn f j u2 := by
        by_cases h3 : b.kind = 3
        · rw [if_pos h3] at hu2
          subst hu2
          exact ⟨LeB.refl _, fun h => absurd h3 h, fun j hj => .inl hj⟩
        · rw [if_neg h3] at hu2
          have h := ih u1 b.to.toNat hl1 (by omega) (by rw [hl1]; exact hbe.1 h3)
          rw [hu2] at h
          exact ⟨h.1, fun _ => h.2.1, h.2.2⟩
      obtain ⟨hle2, hto, hs2⟩ := h2
      have hl2 : u2.length = f.blocks.length := by rw [hle2.1, hl1]
      have hleft2 := qsb hle2.1 hle2.2
      obtain ⟨r, hr⟩ : ∃ r, (if b.kind = 2 then dfsB f n u2 b.els.toNat else u2) = r := ⟨_, rfl⟩
      rw [hr]
      have h3 : LeB u2 r ∧ (b.kind = 2 → r[b.els.toNat]? = some true) ∧ ∀ j, r[j]? = some true → u2[j]? = some true ∨ SuccIn f j r := by
        by_cases h2 : b.kind = 2
        · rw [if_pos h2] at hr
          have h := ih u2 b.els.toNat hl2 (by omega) (by rw [hl2]; exact hbe.2 h2)
          rw [hr] at h
          exact ⟨h.1, fun _ => h.2.1, h.2.2⟩
        · rw [if_neg h2] at hr
          subst hr
          exact ⟨LeB.refl _, fun h => absurd h h2, fun j hj => .inl hj⟩
      obtain ⟨hle3, hels, hs3⟩ := h3
      refine ⟨hle1.trans (hle2.trans hle3), hle3.2 _ (hle2.2 _ hk1), fun j hj => ?_⟩
      rcases hs3 j hj with h | h
      · rcases hs2 j h with h | h
        · rcases hin j h with h | h
          · exact .inl h
          · subst h
            refine .inr fun c hc => ?_
            rw [hb] at hc
            injection hc with hc
            subst hc
            exact ⟨fun h3 => hle3.2 _ (hto h3), hels⟩
        · exact .inr (h.mono hle3)
      · exact .inr h
theorem z1x {f : Func} (he : qgi f) : ∀ (n : Nat) (u : List Bool) (k : Nat), RchB f k → (∀ j : Nat, u[j]? = some true → RchB f j) → ∀ j : Nat, (dfsB f n u k)[j]? = some true → RchB f j := by
  intro n
  induction n with
  | zero => intro u k _ h j hj; exact h j hj
  | succ n ih =>
    intro u k hk h j hj
    unfold dfsB at hj
    split at hj
    · exact h j hj
    have h1 : ∀ j : Nat, (u.set k true)[j]? = some true → RchB f j := fun j hj => by
      rw [List.getElem?_set] at hj
      split at hj
      · rename_i e; subst e; exact hk
      · exact h j hj
    split at hj
    · exact h1 j hj
    · rename_i b hb
      simp only at hj
      have h2 : ∀ j : Nat, (if b.kind = 3 then u.set k true else dfsB f n (u.set k true) b.to.toNat)[j]? = some true → RchB f j := fun j hj => by
        split at hj
        · exact h1 j hj
        · rename_i h3
          exact ih _ _ (.to hk hb h3) h1 j hj
      split at hj
      · rename_i h3
        exact ih _ _ (.els hk hb h3) h2 j hj
      · exact h2 j hj
theorem dfsB_all {f : Func} (he : qgi f) (hp : 0 < f.blocks.length) : dfsB f (f.blocks.length + 1) (List.replicate f.blocks.length false) 0 = inBL f := by
  have hl0 : qmt (List.replicate f.blocks.length false) < f.blocks.length + 1 := Nat.lt_succ_of_le (Nat.le_trans List.countP_le_length (by simp))
  have hnone : ∀ j : Nat, (List.replicate f.blocks.length false)[j]? = some true → False := fun j hj => by
    have := List.eq_of_mem_replicate (List.mem_of_getElem? hj)
    cases this
  obtain ⟨h1, h2, h3⟩ := quc he (f.blocks.length + 1) (List.replicate f.blocks.length false) 0 (by simp) hl0 (by simpa using hp)
  have hiff : ∀ k : Nat, (dfsB f (f.blocks.length + 1) (List.replicate f.blocks.length false) 0)[k]? = some true ↔ RchB f k := fun k => by
    constructor
    · exact z1x he _ _ _ (.first hp) (fun j hj => (hnone j hj).elim) k
    · intro h
      induction h with
      | first h => exact h2
      | @to k b h hb hk ih =>
        rcases h3 k ih with h | h
        · exact (hnone k h).elim
        · exact (h b hb).1 hk
      | @els k b h hb hk ih =>
        rcases h3 k ih with h | h
        · exact (hnone k h).elim
        · exact (h b hb).2 hk
  apply List.ext_getElem?
  intro k
  have hlen : (dfsB f (f.blocks.length + 1) (List.replicate f.blocks.length false) 0).length = f.blocks.length := by rw [h1.1]; simp
  by_cases hk : k < f.blocks.length
  · have e1 := List.getElem?_eq_getElem (l := dfsB f (f.blocks.length + 1) (List.replicate f.blocks.length false) 0) (i := k) (by omega)
    have e2 := List.getElem?_eq_getElem (l := inBL f) (i := k) (by rw [qu]; exact hk)
    have e3 := (hiff k).trans (qhj he k).symm
    rw [e1, e2] at e3 ⊢
    congr 1
    rw [Bool.eq_iff_iff]
    simpa using e3
  · rw [List.getElem?_eq_none (by omega), List.getElem?_eq_none (by rw [qu]; omega)]
def LBk (f : Func) (u : List Bool) : List (Nat × AObj) :=
 [(1000000, .box [.own 1000001 u.length]), (1000001, .vec 4 1 u.length (rowU u)), (1000002, .box [.fn 114 [.ptr 1000000 0, .d (.cref (qm f) 0), .ptr 1000002 0]])]
theorem qs4 (f : Func) (u : List Bool) : hof (LBk f u) = hadd 1000000 (.box [.own 1000001 u.length]) (hadd 1000001 (.vec 4 1 u.length (rowU u)) (hadd 1000002 (.box [.fn 114 [.ptr 1000000 0, .d (.cref (qm f) 0), .ptr 1000002 0]]) hnil)) := rfl
theorem qrg {f : Func} {u u' : List Bool} {row : Nat → List AV} {n : Nat} (hn : n = u'.length) (hr : ∀ j, j < n → row j = rowU u' j) : qoz (LBk f u) (LBk f u') (hadd 1000000 (.box [.own 1000001 n]) (hadd 1000001 (.vec 4 1 n row) (hadd 1000002 (.box [.fn 114 [.ptr 1000000 0, .d (.cref (qm f) 0), .ptr 1000002 0]]) hnil))) := by
 refine ⟨.none, ?_, ?_⟩
 ·simp [LBk, gE, hn]
  intro j hj
  rw [hr j (by omega)]
  simp [rowU]
 ·simp [LBk, gE]
set_option maxRecDepth 10000 in
theorem z2w (f : Func) (he : qgi f) (hto : ∀ b ∈ f.blocks, (¬ b.kind = 3 → 0 ≤ b.to) ∧ (b.kind = 2 → 0 ≤ b.els)) : ∀ (n : Nat) (u : List Bool) (k : Nat), u.length = f.blocks.length → qmt u < n → k < u.length → AEff Tryz.prog 114 [.d (.int k), .ptr 1000000 0, .d (.cref (qm f) 0), .ptr 1000002 0] (LBk f u) (.tup []) (LBk f (dfsB f n u k)) := by
  intro n
  induction n with
  | zero => intro u k _ h; omega
  | succ n ih =>
    intro u k hl hn hk
    refine qx7 _ _ Tryz.func114 (by kernel_rfl) qkm qkq rfl rfl (by simp [LBk]) (by simp [LBk, q2x]) (fun _ => ?_)
    have hke := List.getElem?_eq_getElem hk
    cases hu : u[k] with
    | true =>
      rw [hu] at hke
      have e : dfsB f (n + 1) u k = u := by unfold dfsB; rw [if_pos hke]
      rw [e]
      simp [q3a, q3f, qs4, hke]
      exact ⟨hk, qrg rfl fun _ _ => rfl⟩
    | false =>
      rw [hu] at hke
      have hkb : k < f.blocks.length := by omega
      obtain ⟨b, hb⟩ : ∃ b, f.blocks[k] = b := ⟨_, rfl⟩
      have hbm : b ∈ f.blocks := by rw [← hb]; exact List.getElem_mem _
      have hbe := he b hbm
      have hbt := hto b hbm
      have hlt := qmu hke
      obtain ⟨u1, hu1⟩ : ∃ u1, u.set k true = u1 := ⟨_, rfl⟩
      have hl1 : u1.length = u.length := by rw [← hu1, List.length_set]
      have hset := q6f (u := u) (v := k) hk true
      rw [hu1] at hlt hset
      have hle1 : LeB u u1 := hu1 ▸ LeB.set u k
      have e : dfsB f (n + 1) u k = (let u2 := if b.kind = 3 then u1 else dfsB f n u1 b.to.toNat; if b.kind = 2 then dfsB f n u2 b.els.toNat else u2) := by
        conv => lhs; unfold dfsB
        rw [if_neg (by rw [hke]; simp), List.getElem?_eq_getElem hkb, hb]
        simp only [hu1]
      rw [e]
      have hrow : ∀ j, j < u.length → (if j = k then [AV.d (DV.lit (Value.bool true))] else rowU u j) = rowU u1 j := fun j _ => hset j
      by_cases h3 : b.kind = 3
      · simp [q3a, q3f, qs4, hke, hkb, hb, h3, hk, hu]
        exact qrg hl1.symm hrow
      have tonn : max b.to 0 = b.to := by have := hbt.1 h3; omega
      have hs2 := quc he n u1 b.to.toNat (by omega) (by omega) (by have := hbe.1 h3; omega)
      obtain ⟨u2, hu2⟩ : ∃ u2, dfsB f n u1 b.to.toNat = u2 := ⟨_, rfl⟩
      have hlf2 := qsb hs2.1.1 hs2.1.2
      have hl2 := hs2.1.1
      by_cases h2 : b.kind = 2
      · have elsnn : max b.els 0 = b.els := by have := hbt.2 h2; omega
        simp [q3a, q3f, qs4, hke, hkb, hb, h2, hk, hu]
        refine q43 (ih u1 b.to.toNat (by omega) (by omega) (by have := hbe.1 h3; omega)) (tau _) rfl [.d (.int b.to), .ptr 1000000 0, .d (.cref (qm f) 0), .ptr 1000002 0] (by simp) (by simp) (by simp) (by simp [gOf, LBk, tau, tonn]) ?_ (by simp [gOf, LBk, tau]) (by simp [LBk, q2x]) ?_
        · simp [gOf, LBk, tau, hl1]
          intro j hj
          rw [hset j]
          simp [rowU]
        rw [hu2] at hl2 hlf2 ⊢
        simp [LBk, tau, h2]
        refine q43 (ih u2 b.els.toNat (by omega) (by omega) (by have := hbe.2 h2; omega)) (tau _) rfl [.d (.int b.els), .ptr 1000000 0, .d (.cref (qm f) 0), .ptr 1000002 0] (by simp) (by simp) (by simp) (by simp [gOf, LBk, tau, elsnn]) ?_ (by simp [gOf, LBk, tau]) (by simp [LBk, q2x]) ?_
        · simp [gOf, LBk, tau, rowU]
        simp [LBk, tau]
        exact qrg (u := u) rfl fun _ _ => rfl
      · simp [q3a, q3f, qs4, hke, hkb, hb, h2, h3, hk, hu]
        refine q43 (ih u1 b.to.toNat (by omega) (by omega) (by have := hbe.1 h3; omega)) (tau _) rfl [.d (.int b.to), .ptr 1000000 0, .d (.cref (qm f) 0), .ptr 1000002 0] (by simp) (by simp) (by simp) (by simp [gOf, LBk, tau, tonn]) ?_ (by simp [gOf, LBk, tau]) (by simp [LBk, q2x]) ?_
        · simp [gOf, LBk, tau, hl1]
          intro j hj
          rw [hset j]
          simp [rowU]
        rw [hu2] at hl2 hlf2 ⊢
        simp [LBk, tau, h2]
        exact qrg (u := u) rfl fun _ _ => rfl
set_option maxRecDepth 10000 in
theorem qsj (f : Func) (he : qgi f) (hto : ∀ b ∈ f.blocks, (¬ b.kind = 3 → 0 ≤ b.to) ∧ (b.kind = 2 → 0 ≤ b.els)) (hl : f.blocks.length ≤ 1000) : APure Tryz.prog 93 [.agg (qm f)] (q22 (inBL f)) := by
 refine qb _ _ Tryz.func93 (by kernel_rfl) qor qox rfl rfl (fun _ => ?_)
 simp [qej, qeq]
 refine ⟨by omega, fun hp => ?_, fun hz => ?_⟩
 ·have hp' : 0 < f.blocks.length := by omega
  have hl0 : qmt (List.replicate f.blocks.length false) < f.blocks.length + 1 := Nat.lt_succ_of_le (Nat.le_trans List.countP_le_length (by simp))
  refine q43 (z2w f he hto (f.blocks.length + 1) (List.replicate f.blocks.length false) 0 (by simp) hl0 (by simpa using hp')) (fun i => if i = 1000000 then 6 else if i = 1000001 then 5 else if i = 1000002 then 8 else 15) rfl [.d (.int 0), .ptr 6 0, .d (.cref (qm f) 0), .ptr 8 0] (by simp) (by simp) (by simp; rfl) (by simp [gOf, LBk]) ?_ (by simp [gOf, LBk]) (by simp [LBk, q2x]) ?_
  ·simp [gOf, LBk, z0z]
   exact DLe.refl _
  rw [dfsB_all he hp']
  simp [LBk]
  exact qku (qu f).symm fun _ _ => rfl
 ·have e : f.blocks = [] := by simpa using hz
  have e2 : inBL f = [] := by
   have := qu f
   rw [e] at this
   exact List.length_eq_zero_iff.1 this
  rw [e2, e]
  exact DLe.sl fun i hi => by simp at hi
def blF (f : Func) (k : Nat) : Value → Option Value
 | .int .i64 v => if (0 ≤ v ∧ v.toNat < k) ∧ (inBL f)[v.toNat]? = some true then some (.int .i64 (gB f v)) else none
 | _ => none
theorem z4z {f : Func} {k : Nat} {v : Int} (h0 : 0 ≤ v) (hk : v.toNat < k) (hs : (inBL f)[v.toNat]? = some true) : blF f k (.int .i64 v) = some (.int .i64 (gB f v)) := if_pos ⟨⟨h0, hk⟩, hs⟩
theorem blF_at {f : Func} {k : Nat} : blF f k (.int .i64 (k : Int)) = none := by
 refine if_neg ?_
 rintro ⟨⟨_, h⟩, _⟩
 omega
theorem blF_zero {f : Func} (key : Value) : none = blF f 0 key := by
 unfold blF
 split
 ·rw [if_neg]
  rintro ⟨⟨_, h⟩, _⟩
  omega
 ·rfl
theorem blF_next {f : Func} {k : Nat} (hs : (inBL f)[k]? = some true) {key : Value} (hkey : kdOk (.int .i64) key = true) : mset (blF f k) (.int .i64 (k : Int)) (.int .i64 (gB f (k : Int))) key = blF f (k + 1) key := by
  cases key with
  | int q v =>
    simp only [kdOk, decide_eq_true_eq] at hkey
    subst hkey
    unfold mset
    by_cases hv : v = (k : Int)
    · subst hv
      rw [if_pos (by simp [keq]), z4z (by omega) (by omega) (by rw [Int.toNat_natCast]; exact hs)]
    · rw [if_neg (by simp [keq]; exact hv)]
      unfold blF
      have : ((0 ≤ v ∧ v.toNat < k) ∧ (inBL f)[v.toNat]? = some true) = ((0 ≤ v ∧ v.toNat < k + 1) ∧ (inBL f)[v.toNat]? = some true) := by
        apply propext
        constructor
        · rintro ⟨⟨h1, h2⟩, h3⟩; exact ⟨⟨h1, by omega⟩, h3⟩
        · rintro ⟨⟨h1, h2⟩, h3⟩; exact ⟨⟨h1, by omega⟩, h3⟩
      simp only [this]
  | _ => simp [kdOk] at hkey
theorem blF_skip {f : Func} {k : Nat} (hs : (inBL f)[k]? = some false) : blF f (k + 1) = blF f k := by
 funext key
 unfold blF
 split
 ·rename_i v
  have : ((0 ≤ v ∧ v.toNat < k + 1) ∧ (inBL f)[v.toNat]? = some true) = ((0 ≤ v ∧ v.toNat < k) ∧ (inBL f)[v.toNat]? = some true) := by
   apply propext
   constructor
   ·rintro ⟨⟨h1, h2⟩, h3⟩
    refine ⟨⟨h1, ?_⟩, h3⟩
    rcases Nat.lt_or_ge v.toNat k with h | h
    ·exact h
    ·obtain rfl : v.toNat = k := by omega
     rw [hs] at h3; cases h3
   ·rintro ⟨⟨h1, h2⟩, h3⟩; exact ⟨⟨h1, by omega⟩, h3⟩
  simp only [this]
 ·rfl
set_option maxRecDepth 10000 in
set_option maxHeartbeats 1000000 in
theorem z3k (f : Func) (hf : qr f = true) : APure Tryz.prog 68 [.agg (qm f)] (.agg (qm (qbc f))) := by
  have hlen := q1v hf
  have he := z01 hf
  have hil := qu f
  refine qb _ _ Tryz.func68 (by kernel_rfl) qz0 qzg rfl rfl (fun _ => ?_)
  simp [qlw, qnd]
  refine q4 (ds := [.agg (qm f)]) _ (by simp) (by simp) (fun _ => by simp; rfl) (fun _ => qsj f he (fun b hb => (qh7 hf hb).2) (by omega)) ?_
  simp
  refine qe (κ := Nat) (fun k => k ≤ (inBL f).length) (fun k => (inBL f).length - k) (fun k => [(sl 16, .int k), (sl 5, .int (nst (inBL f) k))]) (fun k => [(5, .map (.int .i64) (nst (inBL f) k) (blF f k)), (1, .box [.d (.lit (.string ⟨#[]⟩)), .d (.lit (.int .i64 0)), .d (.lit (.int .i64 0)), .d (.lit (.slice none 0 0))]), (0, .box [.d (.str f.name), .d (.int f.bind), .d (.int f.params), .d (q1k f.blocks)])]) 10 0 (srcs [(5, .id 5), (1, .id 1), (0, .id 0)]) (by simp) ?_ ?_
  · simp [nst]
    exact fun key _ => blF_zero key
  intro k hk
  simp
  have hnl := qqd (inBL f) k
  refine ⟨fun hlt => ⟨hlt, ?_⟩, fun hge => ?_⟩
  · obtain ⟨s, hs⟩ : ∃ s, (inBL f)[k]? = some s := ⟨_, List.getElem?_eq_getElem (by rw [hil]; exact hlt)⟩
    have hns := qb2 hs
    rw [hs]
    cases s with
    | true =>
      have hgk : gB f (k : Int) = nst (inBL f) k := by unfold gB; rw [Int.toNat_natCast]
      simp [blF_at]
      refine ⟨k + 1, by omega, by omega, srcs [(5, .id 5), (1, .id 1), (0, .id 0)], ?_⟩
      simp at hns
      simp [SLeK, hns]
      refine ⟨⟨q6 (q5 (by omega)), q6 (q5 (by omega))⟩, fun key hkey => ?_⟩
      have h := blF_next hs hkey
      rw [hgk] at h
      exact h
    | false =>
      simp
      refine ⟨k + 1, by omega, by omega, srcs [(5, .id 5), (1, .id 1), (0, .id 0)], ?_⟩
      simp at hns
      simp [SLeK, hns, blF_skip hs]
      exact q6 (q5 (by omega))
  obtain rfl : k = (inBL f).length := by omega
  obtain ⟨M, hM⟩ : ∃ M, blF f (inBL f).length = M := ⟨_, rfl⟩
  obtain ⟨c, hc⟩ : ∃ c, nst (inBL f) (inBL f).length = c := ⟨_, rfl⟩
  have hval : ∀ v : Int, 0 ≤ v → v.toNat < f.blocks.length → RchB f v.toNat → (M (.int .i64 v)).getD (.int .i64 0) = .int .i64 (gB f v) := fun v h0 hv hr => by
    rw [← hM, z4z h0 (by omega) ((qhj he _).2 hr)]
    rfl
  simp only [hM, hc]
  refine qe (κ := Nat) (fun i => i ≤ f.blocks.length) (fun i => f.blocks.length - i) (fun i => [(sl 31, .int i), (sl 8, .own 2 (qfw f i).length)])
    (fun i => [(2, .row 58 8 (qfw f i).length fun j => qd ((qfw f i)[j]?.getD default)), (5, .map (.int .i64) c M), (1, .box [.d (.lit (.string ⟨#[]⟩)), .d (.lit (.int .i64 0)), .d (.lit (.int .i64 0)), .d (.lit (.slice none 0 0))]), (0, .box [.d (.str f.name), .d (.int f.bind), .d (.int f.params), .d (q1k f.blocks)])]) 30 0 (srcs [(2, .nil), (5, .id 5), (1, .id 1), (0, .id 0)]) (by simp) (by simp) ?_
  intro i hi
  have hln := qke f i
  simp
  refine ⟨fun hlt => ?_, fun hge => ?_⟩
  · have hit : i < (inBL f).length := by rw [qu]; exact hlt
    obtain ⟨s, hs⟩ : ∃ s, (inBL f)[i]? = some s := ⟨_, List.getElem?_eq_getElem hit⟩
    have hnext := qrb hlt hs
    obtain ⟨b, hb⟩ : ∃ b, f.blocks[i] = b := ⟨_, rfl⟩
    have hbm : b ∈ f.blocks := by rw [← hb]; exact List.getElem_mem _
    have hbi : f.blocks[i]? = some b := by rw [List.getElem?_eq_getElem hlt, hb]
    have hbs := qh7 hf hbm
    have hbe := he b hbm
    rw [hb] at hnext
    rw [hs, getD_some hlt, hb]
    cases s with
    | false =>
      simp at hnext
      simp
      refine ⟨hlt, i + 1, by omega, by omega, srcs [(2, .id 2), (5, .id 5), (1, .id 1), (0, .id 0)], ?_⟩
      simp [SLeK, hnext]
      exact q6 (q5 (by omega))
    | true =>
      simp only [if_pos] at hnext
      have hr := (qhj he i).1 hs
      simp
      refine ⟨hlt, ?_⟩
      refine q4 (ds := [.agg (qd b)]) _ (by simp) (by simp) (fun _ => by simp; rfl) (fun _ => qz4 f b (q35 hf b hbm) hbs.1.1 hbs.1.2) ?_
      have htk : (q6c b).kind = b.kind := rfl
      have htt : (q6c b).to = b.to := rfl
      have hte : (q6c b).els = b.els := rfl
      by_cases h3 : b.kind = 3
      · simp [htk, htt, hte, h3]
        refine ⟨by omega, i + 1, by omega, by omega, srcs [(2, .id 56), (5, .id 5), (1, .id 1), (0, .id 0)], ?_⟩
        simp [SLeK, hnext]
        refine ⟨q6 (q5 (by omega)), fun j hj => qf qd default ?_ hj⟩
        simp [qd, endT, *]
      have hvt := hval b.to (hbs.2.1 h3) (hbe.1 h3) (.to hr hbi h3)
      by_cases h2 : b.kind = 2
      · have hve := hval b.els (hbs.2.2 h2) (hbe.2 h2) (.els hr hbi h2)
        simp [htk, htt, hte, h2, hvt, hve]
        refine ⟨by omega, i + 1, by omega, by omega, srcs [(2, .id 72), (5, .id 5), (1, .id 1), (0, .id 0)], ?_⟩
        simp [SLeK, hnext]
        refine ⟨q6 (q5 (by omega)), fun j hj => qf qd default ?_ hj⟩
        simp [qd, endT, *]
      · simp [htk, htt, hte, h2, h3, hvt]
        refine ⟨by omega, i + 1, by omega, by omega, srcs [(2, .id 64), (5, .id 5), (1, .id 1), (0, .id 0)], ?_⟩
        simp [SLeK, hnext]
        refine ⟨q6 (q5 (by omega)), fun j hj => qf qd default ?_ hj⟩
        simp [qd, endT, *]
  · rw [qwv hge]
    exact DLe.refl _
def qok {α : Type} (g : α → α) (xs : List α) (i : Nat) : List α := (xs.take i).map g ++ xs.drop i
theorem z37 {α : Type} (g : α → α) (xs : List α) : qok g xs 0 = xs := by simp [qok]
theorem stepM_at {α : Type} {g : α → α} {xs : List α} {i : Nat} (hi : i < xs.length) : (qok g xs i)[i]? = some xs[i] := by
 unfold qok
 rw [List.getElem?_append_right (by simp; omega)]
 simp only [List.length_map, List.length_take, List.getElem?_drop]
 rw [show i + (i - min i xs.length) = i by omega, List.getElem?_eq_getElem hi]
theorem z36 {α : Type} {g : α → α} {xs : List α} {i : Nat} (hi : i < xs.length) (j : Nat) : (qok g xs (i + 1))[j]? = if j = i then some (g xs[i]) else (qok g xs i)[j]? := by
 unfold qok
 by_cases h : j = i
 ·subst h
  rw [if_pos rfl, List.getElem?_append_left (by simp; omega)]
  simp [hi]
 ·rw [if_neg h]
  by_cases h1 : j < i
  ·rw [List.getElem?_append_left (by simp; omega), List.getElem?_append_left (by simp; omega)]
   simp [h1, show j < i + 1 by omega]
  ·rw [List.getElem?_append_right (by simp; omega), List.getElem?_append_right (by simp; omega)]
   simp only [List.length_map, List.length_take, List.getElem?_drop]
   congr 1
   omega
theorem z7m {α : Type} {g : α → α} {xs : List α} {i : Nat} (hi : xs.length ≤ i) : qok g xs i = xs.map g := by
 unfold qok
 rw [List.take_of_length_le hi, List.drop_eq_nil_of_le hi, List.append_nil]
set_option maxRecDepth 10000 in
theorem qwq (m : Module) (hok : ModOk m) : APure Tryz.prog 40 [.agg (q8 m)] (.agg (q8 (z3q m))) := by
 refine qb _ _ Tryz.func40 (by kernel_rfl) qt6 qti rfl rfl (fun _ => ?_)
 simp [qgy, qi3]
 have hnf := hok.nf
 refine qh1 m.funcs.length _ (by simp) (by simp) (by simp) (qpl m.funcs (by omega)) ?_
 simp
 refine qe (κ := Nat) (fun i => i ≤ m.funcs.length) (fun i => m.funcs.length - i) (fun i => [(sl 12, .int i), (sl 10, .own 4 m.funcs.length)])
  (fun i => [(4, .vec 61 4 m.funcs.length fun j => (qm ((qok qbc m.funcs i)[j]?.getD default)).map .d), (0, .box [.own 4 m.funcs.length, .d (q2u m.globs)]), (1, .box [.d (.lit (.slice none 0 0)), .d (.lit (.slice none 0 0))])]) 11 0 (srcs [(4, .id 4), (0, .id 0), (1, .id 1)]) (by simp) (by simp [z37]) ?_
 intro i hi
 simp
 refine ⟨fun hlt => ?_, fun hge => ?_⟩
 ·rw [stepM_at hlt]
  obtain ⟨f, hf⟩ : ∃ f, m.funcs[i] = f := ⟨_, rfl⟩
  have hfm : f ∈ m.funcs := by rw [← hf]; exact List.getElem_mem hlt
  have hfo := hok.funcs f hfm
  simp [hf]
  refine ⟨hlt, ?_⟩
  refine q4 (ds := [.agg (qm f)]) _ (by simp) (by simp) (fun _ => by simp; rfl) (fun _ => quv f fun b hb x hx => by
   obtain ⟨k, hk, rfl⟩ := List.getElem_of_mem hx
   have := q8w ((qh.1 (q35 hfo b hb)).2.2.2.1 k hk)
   omega) ?_
  simp [hfo]
  refine q4 (ds := [.agg (qm f)]) _ (by simp) (by simp) (fun _ => by simp; rfl) (fun _ => z3k f hfo) ?_
  simp
  refine ⟨hlt, i + 1, by omega, by omega, srcs [(4, .id 4), (0, .id 0), (1, .id 1)], ?_⟩
  simp [SLeK]
  refine ⟨q6 (q5 (by omega)), fun j hj => ?_⟩
  rw [z36 hlt, hf]
  by_cases hji : j = i
  ·rw [if_pos hji, if_pos hji]
   simp
  ·rw [if_neg hji, if_neg hji]
   simp
 ·rw [z7m hge]
  have e : z3q m = { m with funcs := m.funcs.map qbc } := rfl
  rw [e]
  refine DLe.of_eq ?_
  simp [q8, q24]
  rfl
def qc9 : ACode :=
 (.seq (.reg [Ro 2 (.box true (Sv 0)), Ro 3 (.new [(.slice none 0 0), (.slice none 0 0)])])
 (.seq (.reg [Ro 4 (Lk 2 2), Ro 5 (Ld 1), Ro 6 (.call true (.f 43) [Sv 4, Sv 5]), Rn (.st (Sv 3) (Sv 6) 2)])
 .ret))
def qcl : List ARes := [(.cell (sl 3) (some 2))]
theorem qnv : (Tryz.f42).body.bind (q9 Tryz.prog 8 (Tryz.f42).ntmps [3] [] (drOk 8)) = some qc9 := by kernel_rfl
theorem qo5 : qa Tryz.prog 8 (Tryz.f42).results.toList = some qcl := by kernel_rfl
def qgv : ACode :=
 (.seq (.reg [Ro 3 (.box false (Sv 0)), Ro 6 (.new [(.slice none 0 0), (.slice none 0 0)]), Ro 7 (.mv (.c (.bool false)))])
 (.seq (.reg [Ro 8 (.mv (.c (.bool true)))])
 (.seq .skip
 (.seq (.seq (.reg [Ro 13 (Mv 2), Ro 14 (.len false (Sv 13)), Ro 15 (.mv (Ci 0))])
 (.block 0
 (.loop (.seq (.reg [Ro 16 (.bin .lss (Sv 15) (Sv 14))])
 (.seq (.cond (Sv 16)
 .skip
 (.exit 0))
 (.seq (.block 1
 (.seq (.reg [Ro 17 (.idx true (Sv 13) (Sv 15) 1), Ro 18 (Ld 17), Ro 10 (Mv 18)])
 (.seq (.seq (.reg [Ro 20 (.ld false (Sv 3) (some 2)), Ro 21 (Mv 10), Ro 22 (Mv 1), Ro 23 (.call false (.f 11) [Sv 20, Sv 21, Sv 22]), Ro 19 (Mv 23), Ro 24 (.ext (Sv 19) 0), Ro 25 (.ext (Sv 19) 1), Ro 11 (.new [(.slice none 0 0), (.slice none 0 0)]), Rn (.ini 1 (Sv 11) (Sv 24) 2), Ro 12 (Mv 25)])
 (.frz (sl 11)))
 (.seq (.seq (.reg [Ro 26 (Mv 12), Ro 27 (.bin .neq (Sv 26) (Ci 0))])
 (.cond (Sv 27)
 (.seq (.reg [Ro 8 (.mv (.c (.bool false)))])
 (.exit 0))
 .skip))
 (.reg [Ro 28 (Lk 11 2), Rn (.st (Sv 3) (Sv 28) 2)])))))
 (.reg [Ro 29 (.bin .add (Sv 15) (Ci 1)), Ro 15 (Mv 29)])))))))
 (.seq (.reg [Ro 30 (.ld false (Sv 3) (some 2)), Ro 31 (Mv 8), Rn (.st (Sv 6) (Sv 30) 2), Ro 7 (Mv 31)])
 .ret)))))
def qi0 : List ARes := [(.cell (sl 6) (some 2)), (.tmp (sl 7))]
theorem qt3 : (Tryz.f23).body.bind (q9 Tryz.prog 8 (Tryz.f23).ntmps [3, 6, 20, 30] [] (drOk 8)) = some qgv := by kernel_rfl
theorem qtf : qa Tryz.prog 8 (Tryz.f23).results.toList = some qi0 := by kernel_rfl
def qpi : ACode :=
 (.seq (.reg [Ro 3 (.box true (Sv 0)), Ro 6 (.new [(.slice none 0 0), (.slice none 0 0)]), Ro 7 (.mv (Ci 0))])
 (.seq (.seq (.seq (.reg [Ro 14 (.bld [(.slice none 0 0), (.slice none 0 0)] []), Ro 15 (Mv 2), Ro 16 (Mv 1), Ro 17 (.call true (.f 23) [Sv 14, Sv 15, Sv 16]), Ro 13 (Mv 17), Ro 18 (.ext (Sv 13) 0), Ro 19 (.ext (Sv 13) 1), Ro 8 (.new [(.slice none 0 0), (.slice none 0 0)]), Rn (.ini 1 (Sv 8) (Sv 18) 2), Ro 9 (Mv 19)])
 (.frz (sl 8)))
 (.seq (.reg [Ro 20 (Mv 9), Ro 21 (.not (Sv 20)), Ro 22 (Mv 21), Rg 23 22 false (Mv 1), Rg 24 22 false (.len false (Sv 23)), Rg 25 22 false (.bin .gtr (Sv 24) (Ci 16)), Ro 26 (.pick (Sv 22) (.c (.bool true)) (Sv 25))])
 (.cond (Sv 26)
 (.seq (.reg [Ro 27 (.bld [(.slice none 0 0), (.slice none 0 0)] []), Rn (.st (Sv 6) (Sv 27) 2), Ro 7 (.mv (Ci 1))])
 .ret)
 .skip)))
 (.seq (.seq (.reg [Ro 28 (Lk 3 2), Ro 29 (.call true (.f 24) [Sv 28]), Ro 10 (Mv 29)])
 (.seq (.reg [Ro 30 (Mv 10), Ro 31 (.bin .neq (Sv 30) (Ci 0))])
 (.cond (Sv 31)
 (.seq (.reg [Ro 32 (.bld [(.slice none 0 0), (.slice none 0 0)] []), Ro 33 (Mv 10), Rn (.st (Sv 6) (Sv 32) 2), Ro 7 (Mv 33)])
 .ret)
 .skip)))
 (.seq (.seq (.reg [Ro 35 (Lk 3 2), Ro 36 (Mv 2), Ro 37 (Mv 1), Ro 38 (.call true (.f 23) [Sv 35, Sv 36, Sv 37]), Ro 34 (Mv 38), Ro 39 (.ext (Sv 34) 0), Ro 40 (.ext (Sv 34) 1), Ro 11 (.new [(.slice none 0 0), (.slice none 0 0)]), Rn (.ini 1 (Sv 11) (Sv 39) 2), Ro 12 (Mv 40)])
 (.frz (sl 11)))
 (.seq (.reg [Ro 41 (Lk 11 2), Rn (.st (Sv 6) (Sv 41) 2), Ro 7 (.mv (Ci 0))])
 .ret)))))
def qqv : List ARes := [(.cell (sl 6) (some 2)), (.tmp (sl 7))]
theorem z3j : (Tryz.f9).body.bind (q9 Tryz.prog 8 (Tryz.f9).ntmps [6] [] (drOk 8)) = some qpi := by kernel_rfl
theorem z41 : qa Tryz.prog 8 (Tryz.f9).results.toList = some qqv := by kernel_rfl
def X00 : Nat → Nat → Prop := fun _ _ => False
def fnV (F : FuncId) : Value := .func (.func F) #[] #[]
def qye (u : Value) : Value → Option Value :=
 mset (mset (mset (mset (fun _ => none) (.int .i64 1) (fnV 39)) (.int .i64 2) (fnV 40)) (.int .i64 3) (fnV 41)) (.int .i64 4) u
theorem mapU {w w' : World} {γ : Nat → Option Value} {n : Nat} {f : Value → Option Value} (hS : St X00 w γ w' (hadd 0 (.map (.int .i64) n f) hnil)) {b : Nat} (hγ : γ 0 = some (.map (some b))) (key : Int) (x : Value) (bb : Nat) (hb : bb < b) (c : Value) (hc : w'.cell? ⟨bb, 0, none⟩ = some c) (hbb : bb < w'.heap.size) :
  ∃ w2 n2, (Instr.mapUpdate 74 (.map (some b)) (.int .i64 key) x).run Tryz.prog w' = .ok () w2 ∧ St X00 w γ w2 (hadd 0 (.map (.int .i64) n2 (mset f (.int .i64 key) x)) hnil) ∧ w2.cell? ⟨bb, 0, none⟩ = some c ∧ bb < w2.heap.size := by
 obtain ⟨w2, h1, h2, h3⟩ := z13 (P := Tryz.prog) (t := 74) (x := x) (kt := 3) (et := 72) (by kernel_rfl) (kd := .int .i64) (by show Tryz.prog.underlying _ = _; kernel_rfl) hS (id := 0) (n := n) (f := f) (by simp) hγ (key := .int .i64 key) rfl
 have hX : ∀ H n0 f0, H = hadd 0 (.map (.int .i64) n0 f0) hnil → ¬ XOf X00 γ H bb 0 := by
  rintro H n0 f0 rfl (h | ⟨id, ob, v, k1, k2, k3, _⟩)
  ·exact h
  ·simp at k1
   obtain ⟨rfl, _⟩ := k1
   rw [hγ] at k2
   injection k2 with k2
   subst k2
   simp [blk] at k3
   omega
 refine ⟨w2, if (f (.int .i64 key)).isSome = true then n else n + 1, h1, ?_, h3.cells bb 0 c hbb (hX _ _ _ rfl) hc, Nat.lt_of_lt_of_le hbb h3.size⟩
 have e : ∀ m g, hset (hadd 0 (.map (.int .i64) n f) hnil) 0 (.map (.int .i64) m g) = hadd 0 (.map (.int .i64) m g) hnil := fun m g => by
  simp
 rw [e] at h2
 exact h2
set_option maxRecDepth 100000 in
set_option maxHeartbeats 2000000 in
theorem qvl (budget : Int) (w : World) :
  Calls Tryz.prog 25 #[.int .i64 budget] w fun e w' => Ext w w' ∧ ∃ b bb γ n, e = .returned (.map (some b)) ∧ γ 0 = some (.map (some b)) ∧
   St X00 w γ w' (hadd 0 (.map (.int .i64) n (qye (.func (.func 42) #[] #[.pointer (some ⟨bb, 0, none⟩)]))) hnil) ∧ w.heap.size ≤ bb ∧ w'.cell? ⟨bb, 0, none⟩ = some (.int .i64 budget) ∧ bb < w'.heap.size := by
 go_enter Tryz.func25, Tryz.ntmps25
 have hS0 : St X00 w (fun _ => none) w hnil := ⟨fun b o h => h.elim, Ext.refl w, fun id o h => by simp at h, fun id id' o o' v v' b h => by simp at h⟩
 have he1 : Ext w (w.alloc (.cells #[.int .i64 budget] 3)) := Ext.alloc w _
 obtain ⟨w1, hw1⟩ : ∃ w1, w.alloc (.cells #[.int .i64 budget] 3) = w1 := ⟨_, rfl⟩
 have hc1 : w1.cell? ⟨w.heap.size, 0, none⟩ = some (.int .i64 budget) := by rw [← hw1]; simp only [World.cell?, heap_alloc_new]; rfl
 have hs1 : w1.heap.size = w.heap.size + 1 := by rw [← hw1]; exact World.size_alloc _ _
 rw [hw1] at he1
 obtain ⟨hS1, hk1, hkk1⟩ := (hS0.stay he1).newMap 0 rfl (.int .i64)
 obtain ⟨w2, hw2⟩ : ∃ w2, w1.alloc (.map #[] 0) = w2 := ⟨_, rfl⟩
 rw [hw2] at hS1
 have hc2 : w2.cell? ⟨w.heap.size, 0, none⟩ = some (.int .i64 budget) := by
  have := (Ext.alloc w1 (.map #[] 0)).block w.heap.size (by omega)
  rw [hw2] at this
  rw [← hc1]
  exact World.cell?_of_block this
 rw [hs1] at hS1
 have hγ : upd (fun _ => none) 0 (Value.map (some (w.heap.size + 1))) 0 = some (.map (some (w.heap.size + 1))) := rfl
 have hb2 : w.heap.size < w2.heap.size := by
  have := (Ext.alloc w1 (.map #[] 0)).size
  rw [hw2] at this
  omega
 obtain ⟨w3, n3, hr3, hS3, hc3, hb3⟩ := mapU hS1 hγ 1 (fnV 39) w.heap.size (by omega) _ hc2 hb2
 obtain ⟨w4, n4, hr4, hS4, hc4, hb4⟩ := mapU hS3 hγ 2 (fnV 40) w.heap.size (by omega) _ hc3 hb3
 obtain ⟨w5, n5, hr5, hS5, hc5, hb5⟩ := mapU hS4 hγ 3 (fnV 41) w.heap.size (by omega) _ hc4 hb4
 obtain ⟨w6, n6, hr6, hS6, hc6, hb6⟩ := mapU hS5 hγ 4 (.func (.func 42) #[] #[.pointer (some ⟨w.heap.size, 0, none⟩)]) w.heap.size (by omega) _ hc5 hb5
 simp only [fnV] at hr3 hr4 hr5
 go_wp2
 rw [run_makeMap, hw2]
 simp only [Result.andThen]
 go_wp2
 refine bodyPost_ret (v := .map (some (w.heap.size + 1))) (by simp [results, Tryz.results25]) rfl ?_
 exact ⟨hS6.ext, w.heap.size + 1, w.heap.size, _, n6, rfl, hγ, hS6, Nat.le_refl _, hc6, hb6⟩
theorem passF_at (u : Value) (tag : Int) : qye u (.int .i64 tag) = if tag = 4 then some u else if tag = 3 then some (fnV 41) else if tag = 2 then some (fnV 40) else if tag = 1 then some (fnV 39) else none := by
 simp [qye, mset, keq]
set_option maxRecDepth 10000 in
theorem qvk (m : Module) (hm : ∀ f ∈ m.funcs, ∀ b ∈ f.blocks, ∀ i ∈ b.ins, i.args.length ≤ 17592186044416) (budget : Int) : APure Tryz.prog 42 [.agg (q8 m), .cref [.int budget] 0] (.agg (q8 (inlM m budget))) := by
 refine qb _ _ Tryz.func42 (by kernel_rfl) qnv qo5 rfl rfl (fun _ => ?_)
 simp [qc9, qcl]
 refine q4 (ds := [.agg (q8 m), .int budget]) _ (by simp) (by simp) (fun _ => by simp; rfl) (fun _ => qvg m hm budget) ?_
 simp
 exact DLe.refl _
theorem z18 {w : World} {g o : Nat} {t : TypeId} {cur : Array Value} (h : w.heap[g]? = some (.cells cur t (0, 0))) (ho : o < cur.size) {v : Value} (hv : v.oneCell' = true) : (store ⟨g, o, none⟩ v).run Tryz.prog w = .ok () (w.setRow g (cur.toList.take o ++ [v] ++ cur.toList.drop (o + 1)).toArray) := by
  have hs := run_storeCells_at Tryz.prog g o t [v] 0 cur w h (by simp; omega) (by simpa using hv)
  simp only [storeCells] at hs
  have e : (⟨g, o, none⟩ : Addr).add 0 = ⟨g, o, none⟩ := by simp [Addr.add]
  rw [e] at hs
  simp only [Sem.run_bind, List.length_singleton, Nat.add_zero] at hs
  cases hr : (store ⟨g, o, none⟩ v).run Tryz.prog w with
  | ok u w' =>
    rw [hr] at hs
    simpa [Sem.run_pure] using hs
  | halt h' w' =>
    rw [hr] at hs
    simp at hs
def oneR (m : Module) (tag budget : Int) : DV := if qd0 tag = true then .tup [.agg (q8 (oneP m tag budget)), .int 0] else .tup [.agg (q8 ⟨[], []⟩), .int 1]
theorem lookT {w w1 : World} {γ : Nat → Option Value} {n : Nat} {u : Value} (hS : St X00 w γ w1 (hadd 0 (.map (.int .i64) n (qye u)) hnil)) {b : Nat} (hγ : γ 0 = some (.map (some b))) (tag : Int) :
  (Instr.lookup 74 (.map (some b)) (.int .i64 tag) true).run Tryz.prog w1 = .ok (.tuple #[(qye u (.int .i64 tag)).getD .nilFunc, .bool (qye u (.int .i64 tag)).isSome]) w1 := by
 have hinf : ∃ i, Tryz.prog.info? 72 = some i ∧ i.zero = some .nilFunc := by
  have h : (Tryz.prog.info? 72).bind (·.zero) = some .nilFunc := by kernel_rfl
  cases hi : Tryz.prog.info? 72 with
  | none => rw [hi] at h; cases h
  | some i => rw [hi] at h; exact ⟨i, rfl, h⟩
 obtain ⟨i, hi, hz⟩ := hinf
 have h := z12 (P := Tryz.prog) (t := 74) (kt := 3) (et := 72) (z := .nilFunc) (ok := true) (by kernel_rfl) (kd := .int .i64) (by show Tryz.prog.underlying _ = _; kernel_rfl) (w := w1) (by simp [zeroValue, typeInfo, hi, hz]) hS (id := 0) (n := n) (f := qye u) (by simp) hγ (key := .int .i64 tag) rfl
 exact h
set_option maxRecDepth 100000 in
set_option maxHeartbeats 2000000 in
theorem qvm (m : Module) (hok : ModOk m) (hk : KOk' m) (hm : Small m) (tag budget : Int) : APure Tryz.prog 11 [.agg (q8 m), .int tag, .int budget] (oneR m tag budget) := by
  refine ⟨⟨_, _, Tryz.func11, by kernel_rfl, rfl⟩, fun X w vs hX hvs => ?_⟩
  obtain ⟨v, vs1, he, hv, hr1⟩ := hvs.uncons
  obtain ⟨v1, vs2, he1, hv1, hr2⟩ := hr1.uncons
  obtain ⟨v2, vs3, he2, hv2, hr3⟩ := hr2.uncons
  have h3 : vs3 = [] := List.length_eq_zero_iff.1 hr3.1
  cases hv1
  cases hv2
  have hvv : ∃ va vb, v = .agg #[va, vb] := by
    cases hv with
    | agg vs _ hl hr => match vs, hl with
      | [a, c], _ => exact ⟨a, c, rfl⟩
  obtain ⟨va, vb, rfl⟩ := hvv
  have hvs' : vs = #[.agg #[va, vb], .int .i64 tag, .int .i64 budget] := by
    apply Array.toList_inj.1
    rw [he, he1, he2, h3]
  subst hvs'
  clear he he1 he2 hvs hr1 hr2 hr3
  go_enter Tryz.func11, Tryz.ntmps11
  go_wp2_with fail
  refine (qvl budget _).mono ?_
  rintro e w1 ⟨hx1, b, bb, γ, n, rfl, hγ, hS, hbb, hc, hb⟩
  have hl := lookT hS hγ tag
  rw [passF_at] at hl
  obtain ⟨wa, hwa⟩ : ∃ wa, w.alloc (.cells #[va, vb] 25) = wa := ⟨_, rfl⟩
  obtain ⟨w0, hw0⟩ : ∃ w0, wa.alloc (.cells #[.slice none 0 0, .slice none 0 0] 25) = w0 := ⟨_, rfl⟩
  have hsa : wa.heap.size = w.heap.size + 1 := by rw [← hwa]; exact World.size_alloc _ _
  have hs0 : w0.heap.size = w.heap.size + 2 := by rw [← hw0]; rw [World.size_alloc, hsa]
  have hxa : Ext w wa := hwa ▸ Ext.alloc w _
  have hx0 : Ext wa w0 := hw0 ▸ Ext.alloc wa _
  rw [hwa, hw0] at hx1
  have hbk : w1.heap[w.heap.size]? = some (.cells #[va, vb] 25 (0, 0)) := by
    rw [hx1.block _ (by omega), hx0.block _ (by omega), ← hwa]
    exact heap_alloc_new w _
  have hbr : w1.heap[w.heap.size + 1]? = some (.cells #[.slice none 0 0, .slice none 0 0] 25 (0, 0)) := by
    rw [hx1.block _ (by omega), ← hw0, ← hsa]
    exact heap_alloc_new wa _
  have hca : w1.cell? ⟨w.heap.size, 0, none⟩ = some va := by simp only [World.cell?, hbk]; rfl
  have hcb : w1.cell? ⟨w.heap.size, 1, none⟩ = some vb := by simp only [World.cell?, hbk]; rfl
  have hx01 : Ext w w1 := hxa.trans (hx0.trans hx1)
  have hX1 : ∀ b o, X b o → b < w1.heap.size := fun b o h => Nat.lt_of_lt_of_le (hX b o h) hx01.size
  have hv1 : DRep X w1 (.agg #[va, vb]) (.agg (q8 m)) := hv.ext hx01
  obtain ⟨X', hX'⟩ : ∃ X' : Nat → Nat → Prop, X' = fun b o => X b o ∨ b = w.heap.size + 1 := ⟨_, rfl⟩
  have hX1' : ∀ b o, X' b o → b < w1.heap.size := fun b o h => by
    rw [hX'] at h
    rcases h with h | h
    · exact hX1 b o h
    · have := (Array.getElem?_eq_some_iff.1 hbr).1
      omega
  have hK1 : Keeps X X' w w1 := .of_blocks hx01.size (fun k hk => .inr (hx01.block k hk)) (fun k o hk h => by
    rw [hX'] at h
    rcases h with h | h
    · exact h
    · omega)
  have hv1' : DRep X' w1 (.agg #[va, vb]) (.agg (q8 m)) := hv.mono hK1
  have htail : ∀ {m' : Module} {r : Value} {w2 : World}, Ext w1 w2 → DRep X' w2 r (.agg (q8 m')) → ∃ ra rb w3 w4, r = .agg #[ra, rb] ∧ (store ⟨w.heap.size + 1, 0, none⟩ ra).run Tryz.prog w2 = .ok () w3 ∧ (store ⟨w.heap.size + 1, 1, none⟩ rb).run Tryz.prog w3 = .ok () w4 ∧
      w4.cell? ⟨w.heap.size + 1, 0, none⟩ = some ra ∧ w4.cell? ⟨w.heap.size + 1, 1, none⟩ = some rb ∧ Ext w w4 ∧ DRep X w4 (.agg #[ra, rb]) (.agg (q8 m')) := fun {m' r w2} hx hr => by
    have hsl : ∀ {v : Value} {n len : Nat} {row : Nat → List DV}, DRep X' w2 v (.sl n len row) → v.oneCell' = true := fun {v n len row} h => by
      cases h <;> rfl
    have hvv : ∃ va vb, r = .agg #[va, vb] ∧ DRep X' w2 va (q24 m'.funcs) ∧ DRep X' w2 vb (q2u m'.globs) := by
      cases hr with
      | agg vs _ hl hr => match vs, hl with
        | [a, c], _ => exact ⟨a, c, rfl, hr 0 (by simp) (by simp), hr 1 (by simp) (by simp)⟩
    obtain ⟨ra, rb, rfl, hra, hrb⟩ := hvv
    have hb2 : w2.heap[w.heap.size + 1]? = some (.cells #[.slice none 0 0, .slice none 0 0] 25 (0, 0)) := by rw [hx.block _ (Array.getElem?_eq_some_iff.1 hbr).1]; exact hbr
    have s1 := z18 hb2 (o := 0) (by simp) (hsl hra)
    have hb3 := setRow_heap w2 (w.heap.size + 1) _ (List.take 0 [Value.slice none 0 0, .slice none 0 0] ++ [ra] ++ List.drop 1 [Value.slice none 0 0, .slice none 0 0]).toArray _ _ hb2
    have s2 := z18 hb3 (o := 1) (by simp) (hsl hrb)
    have hb4 := setRow_heap _ (w.heap.size + 1) _ (List.take 1 (List.take 0 [Value.slice none 0 0, .slice none 0 0] ++ [ra] ++ List.drop 1 [Value.slice none 0 0, .slice none 0 0]) ++ [rb] ++ List.drop 2 (List.take 0 [Value.slice none 0 0, .slice none 0 0] ++ [ra] ++ List.drop 1 [Value.slice none 0 0, .slice none 0 0])).toArray _ _ hb3
    refine ⟨ra, rb, _, _, rfl, s1, s2, ?_, ?_, ?_, ?_⟩
    · simp only [World.cell?, hb4]
      rfl
    · simp only [World.cell?, hb4]
      rfl
    · exact qdj _ (qdj _ (hx01.trans hx) (by omega)) (by omega)
    · refine hr.mono (.of_blocks ?_ (fun k hk => ?_) (fun k o hk h => by rw [hX']; exact .inl h))
      · rw [setRow_size, setRow_size]
        exact Nat.le_refl _
      · by_cases e : k = w.heap.size + 1
        · exact .inl fun q => by rw [hX']; exact .inr e
        · exact .inr ((setRow_other _ _ k _ (by omega)).trans (setRow_other _ _ k _ (by omega)))
  rw [hwa, hw0] at hbb
  rw [hs0] at hbb
  have hcap : DRep X' w1 (.pointer (some ⟨bb, 0, none⟩)) (.cref [.int budget] 0) := by
    refine .cref bb 0 0 [.int budget] [.int .i64 budget] hb (fun j hj h => ?_) rfl (fun j v hj => ?_) (fun j h h' => ?_)
    · rw [hX'] at h
      rcases h with h | h
      · have := hX _ _ h
        omega
      · omega
    · match j, hj with
      | 0, hj => simp at hj; subst hj; exact hc
    · match j, h with
      | 0, _ => exact .lit _
  have hfin : ∀ {m' : Module} {ra rb : Value} {w4 : World} {k : Int}, DRep X w4 (.agg #[ra, rb]) (.agg (q8 m')) → ∀ i (h : i < [Value.agg #[ra, rb], .int .i64 k].length) (h' : i < [DV.agg (q8 m'), .int k].length), DRep X w4 [Value.agg #[ra, rb], .int .i64 k][i] [DV.agg (q8 m'), .int k][i] := fun h i h1 h2 => by
    match i, h1 with
    | 0, _ => exact h
    | 1, _ => exact .lit _
  by_cases h4 : tag = 4
  · subst h4
    simp [fnV] at hl
    go_wp2_with fail
    refine ((qvk m hm.args budget).2 X' w1 _ hX1' (DReps.cons hv1' (DReps.cons hcap (DReps.nil _ _)))).mono ?_
    rintro e w2 ⟨hx2, r, rfl, hr⟩
    obtain ⟨ra, rb, w3, w4, rfl, s1, s2, c1, c2, hx4, hr4⟩ := htail hx2 hr
    go_wp2_with fail
    refine bodyPost_ret (v := .tuple #[.agg #[ra, rb], .int .i64 0]) (by simp [results, Tryz.results11, go_sem, c1, c2]) rfl ?_
    exact ⟨hx4, _, rfl, .tup [.agg #[ra, rb], .int .i64 0] _ rfl (hfin hr4)⟩
  by_cases h3' : tag = 3
  · subst h3'
    simp [fnV] at hl
    go_wp2_with fail
    refine ((z59 m hm).2 X' w1 _ hX1' (DReps.cons hv1' (DReps.nil _ _))).mono ?_
    rintro e w2 ⟨hx2, r, rfl, hr⟩
    obtain ⟨ra, rb, w3, w4, rfl, s1, s2, c1, c2, hx4, hr4⟩ := htail hx2 hr
    go_wp2_with fail
    refine bodyPost_ret (v := .tuple #[.agg #[ra, rb], .int .i64 0]) (by simp [results, Tryz.results11, go_sem, c1, c2]) rfl ?_
    exact ⟨hx4, _, rfl, .tup [.agg #[ra, rb], .int .i64 0] _ rfl (hfin hr4)⟩
  by_cases h2 : tag = 2
  · subst h2
    simp [fnV] at hl
    go_wp2_with fail
    refine ((qwq m hok).2 X' w1 _ hX1' (DReps.cons hv1' (DReps.nil _ _))).mono ?_
    rintro e w2 ⟨hx2, r, rfl, hr⟩
    obtain ⟨ra, rb, w3, w4, rfl, s1, s2, c1, c2, hx4, hr4⟩ := htail hx2 hr
    go_wp2_with fail
    refine bodyPost_ret (v := .tuple #[.agg #[ra, rb], .int .i64 0]) (by simp [results, Tryz.results11, go_sem, c1, c2]) rfl ?_
    exact ⟨hx4, _, rfl, .tup [.agg #[ra, rb], .int .i64 0] _ rfl (hfin hr4)⟩
  by_cases h1 : tag = 1
  · subst h1
    simp [fnV] at hl
    go_wp2_with fail
    refine ((quj m hok hk).2 X' w1 _ hX1' (DReps.cons hv1' (DReps.nil _ _))).mono ?_
    rintro e w2 ⟨hx2, r, rfl, hr⟩
    obtain ⟨ra, rb, w3, w4, rfl, s1, s2, c1, c2, hx4, hr4⟩ := htail hx2 hr
    go_wp2_with fail
    refine bodyPost_ret (v := .tuple #[.agg #[ra, rb], .int .i64 0]) (by simp [results, Tryz.results11, go_sem, c1, c2]) rfl ?_
    exact ⟨hx4, _, rfl, .tup [.agg #[ra, rb], .int .i64 0] _ rfl (hfin hr4)⟩
  rw [if_neg h4, if_neg h3', if_neg h2, if_neg h1] at hl
  simp at hl
  have f0 : w1.cell? ⟨w.heap.size + 1, 0, none⟩ = some (.slice none 0 0) := by simp only [World.cell?, hbr]; rfl
  have f1 : w1.cell? ⟨w.heap.size + 1, 1, none⟩ = some (.slice none 0 0) := by simp only [World.cell?, hbr]; rfl
  have z0 : w1.frozen? ⟨w.heap.size + 1, 0, none⟩ = false := by simp only [World.frozen?, hbr]; rfl
  have z1 : w1.frozen? ⟨w.heap.size + 1, 1, none⟩ = false := by simp only [World.frozen?, hbr]; rfl
  have hself := setRow_self w1 (w.heap.size + 1) _ _ _ hbr
  have e0 : w1.setCell ⟨w.heap.size + 1, 0, none⟩ (.slice none 0 0) = w1 := by
    have s := z18 hbr (o := 0) (by simp) (v := .slice none 0 0) rfl
    rw [show (List.take 0 (#[Value.slice none 0 0, .slice none 0 0] : Array Value).toList ++ [Value.slice none 0 0] ++ List.drop 1 (#[Value.slice none 0 0, .slice none 0 0] : Array Value).toList).toArray = #[.slice none 0 0, .slice none 0 0] from rfl, hself] at s
    rw [run_store Tryz.prog w1 _ _ _ rfl] at s
    simpa [stored, f0, z0] using s
  have e1 : w1.setCell ⟨w.heap.size + 1, 1, none⟩ (.slice none 0 0) = w1 := by
    have s := z18 hbr (o := 1) (by simp) (v := .slice none 0 0) rfl
    rw [show (List.take 1 (#[Value.slice none 0 0, .slice none 0 0] : Array Value).toList ++ [Value.slice none 0 0] ++ List.drop 2 (#[Value.slice none 0 0, .slice none 0 0] : Array Value).toList).toArray = #[.slice none 0 0, .slice none 0 0] from rfl, hself] at s
    rw [run_store Tryz.prog w1 _ _ _ rfl] at s
    simpa [stored, f1, z1] using s
  go_wp2_with fail
  have hno : qd0 tag = false := by rw [← Bool.not_eq_true, qih]; omega
  have e : oneR m tag budget = .tup [.agg (q8 ⟨[], []⟩), .int 1] := by unfold oneR; rw [hno]; rfl
  rw [e]
  refine bodyPost_ret (v := .tuple #[.agg #[.slice none 0 0, .slice none 0 0], .int .i64 1]) (by simp [results, Tryz.results11, go_sem, f0, f1]) rfl ?_
  refine ⟨hx01, _, rfl, .tup [.agg #[.slice none 0 0, .slice none 0 0], .int .i64 1] _ rfl (hfin (.agg [.slice none 0 0, .slice none 0 0] _ rfl fun i h1 h2 => ?_))⟩
  match i, h1 with
  | 0, _ => exact .nil _ _
  | 1, _ => exact .nil _ _
def qjh : ACode :=
 (.seq (.reg [Ro 1 (.box true (Sv 0)), Ro 2 (.mv (Ci 0))])
 (.seq (.seq (.reg [Ro 13 (Lk 1 2), Ro 14 (.call true (.f 34) [Sv 13]), Ro 3 (Mv 14)])
 (.seq (.reg [Ro 15 (Mv 3), Ro 16 (.bin .neq (Sv 15) (Ci 0))])
 (.cond (Sv 16)
 (.seq (.reg [Ro 17 (Mv 3), Ro 2 (Mv 17)])
 .ret)
 .skip)))
 (.seq (.seq (.seq (.reg [Ro 19 (Lk 1 2), Ro 20 (.call true (.f 35) [Sv 19, (.c (.string ⟨#[109, 97, 105, 110]⟩))]), Ro 18 (Mv 20), Ro 21 (.ext (Sv 18) 0), Ro 22 (.ext (Sv 18) 1), Ro 4 (.new [(.string ⟨#[]⟩), (.int .i64 0), (.int .i64 0), (.slice none 0 0)]), Rn (.ini 1 (Sv 4) (Sv 21) 4), Ro 5 (Mv 22)])
 (.frz (sl 4)))
 (.seq (.reg [Ro 23 (Mv 5), Ro 24 (.not (Sv 23)), Ro 25 (Mv 24), Rg 26 25 false (Fd 4 3), Rg 27 25 false (Ld 26), Rg 28 25 false (.len false (Sv 27)), Rg 29 25 false (.bin .eql (Sv 28) (Ci 0)), Ro 30 (.pick (Sv 25) (.c (.bool true)) (Sv 29)), Ro 31 (Mv 30), Rg 32 31 false (Fd 4 2), Rg 33 31 false (Ld 32), Rg 34 31 false (.bin .neq (Sv 33) (Ci 0)), Ro 35 (.pick (Sv 31) (.c (.bool true)) (Sv 34))])
 (.cond (Sv 35)
 (.seq (.reg [Ro 2 (.mv (Ci 11))])
 .ret)
 .skip)))
 (.seq (.reg [Ro 36 (.mmk .string), Ro 6 (.new [(.map none)]), Rn (.ini 1 (Sv 6) (Sv 36) 1)])
 (.seq (.seq (.reg [Ro 37 (Fd 1 0), Ro 38 (Ld 37), Ro 39 (.len false (Sv 38)), Ro 40 (.mv (Ci 0))])
 (.block 0
 (.loop (.seq (.reg [Ro 41 (.bin .lss (Sv 40) (Sv 39))])
 (.seq (.cond (Sv 41)
 .skip
 (.exit 0))
 (.seq (.block 1
 (.seq (.seq (.reg [Ro 42 (.idx true (Sv 38) (Sv 40) 4), Ro 43 (Lk 42 4), Ro 8 (.new [(.string ⟨#[]⟩), (.int .i64 0), (.int .i64 0), (.slice none 0 0)]), Rn (.ini 1 (Sv 8) (Sv 43) 4)])
 (.frz (sl 8)))
 (.reg [Ro 44 (.ld false (Sv 6) none), Ro 45 (Fd 8 0), Ro 46 (Ld 45), Ro 47 (Fd 8 3), Ro 48 (Ld 47), Ro 49 (.len false (Sv 48)), Ro 50 (.bin .gtr (Sv 49) (Ci 0)), Rn (.mset false (Sv 44) (Sv 46) (Sv 50) .string)])))
 (.reg [Ro 51 (.bin .add (Sv 40) (Ci 1)), Ro 40 (Mv 51)])))))))
 (.seq (.seq (.reg [Ro 52 (Fd 1 1), Ro 53 (Ld 52), Ro 54 (.len false (Sv 53)), Ro 55 (.mv (Ci 0))])
 (.block 2
 (.loop (.seq (.reg [Ro 56 (.bin .lss (Sv 55) (Sv 54))])
 (.seq (.cond (Sv 56)
 .skip
 (.exit 2))
 (.seq (.block 3
 (.seq (.seq (.reg [Ro 57 (.idx true (Sv 53) (Sv 55) 4), Ro 58 (Lk 57 4), Ro 10 (.new [(.string ⟨#[]⟩), (.int .i64 0), (.bool false), (.int .u64 0)]), Rn (.ini 1 (Sv 10) (Sv 58) 4)])
 (.frz (sl 10)))
 (.reg [Ro 59 (.ld false (Sv 6) none), Ro 60 (Fd 10 0), Ro 61 (Ld 60), Ro 62 (Fd 10 2), Ro 63 (Ld 62), Rn (.mset false (Sv 59) (Sv 61) (Sv 63) .string)])))
 (.reg [Ro 64 (.bin .add (Sv 55) (Ci 1)), Ro 55 (Mv 64)])))))))
 (.seq (.seq (.reg [Ro 65 (Fd 1 0), Ro 66 (Ld 65), Ro 67 (.len false (Sv 66)), Ro 68 (.mv (Ci 0))])
 (.block 4
 (.loop (.seq (.reg [Ro 69 (.bin .lss (Sv 68) (Sv 67))])
 (.seq (.cond (Sv 69)
 .skip
 (.exit 4))
 (.seq (.block 5
 (.seq (.seq (.reg [Ro 70 (.idx true (Sv 66) (Sv 68) 4), Ro 71 (Lk 70 4), Ro 12 (.new [(.string ⟨#[]⟩), (.int .i64 0), (.int .i64 0), (.slice none 0 0)]), Rn (.ini 1 (Sv 12) (Sv 71) 4)])
 (.frz (sl 12)))
 (.seq (.reg [Ro 72 (Lk 12 4), Ro 73 (.call true (.f 37) [Sv 72]), Ro 74 (.mkfn 38 [Sv 6]), Ro 75 (.calle (.f 36) [Sv 73, Sv 74])])
 (.cond (Sv 75)
 (.seq (.reg [Ro 2 (.mv (Ci 8))])
 .ret)
 .skip))))
 (.reg [Ro 76 (.bin .add (Sv 68) (Ci 1)), Ro 68 (Mv 76)])))))))
 (.seq (.reg [Ro 2 (.mv (Ci 0))])
 .ret))))))))
def qjy : List ARes := [(.tmp (sl 2))]
theorem qwi : (Tryz.f24).body.bind (q9 Tryz.prog 8 (Tryz.f24).ntmps [6, 44, 59, 74, 75] [(36, 0, 0)] (drOk 8)) = some qjh := by kernel_rfl
theorem qwx : qa Tryz.prog 8 (Tryz.f24).results.toList = some qjy := by kernel_rfl
def qbi : ACode :=
 (.seq (.reg [Ro 3 (.mv (.c (.bool false)))])
 (.seq (.reg [Ro 4 (.ld false (Sv 1) none), Ro 5 (Mv 0), Ro 6 (.mget (Sv 4) (Sv 5) false .string (.bool false)), Ro 7 (.not (Sv 6)), Ro 3 (Mv 7)])
 .ret))
def qbn : List ARes := [(.tmp (sl 3))]
theorem qkl : (Tryz.f38).body.bind (q9 Tryz.prog 8 (Tryz.f38).ntmps [1, 4] [(62, 0, 0), (1000011, 0, 0)] (drOk 8)) = some qbi := by kernel_rfl
theorem qkp : qa Tryz.prog 8 (Tryz.f38).results.toList = some qbn := by kernel_rfl
def q1f : ACode :=
 (.seq (.reg [Ro 4 (.mv (.c (.bool false)))])
 (.seq (.reg [Ro 5 (Mv 0), Ro 6 (Mv 1), Ro 7 (.calle (.f 62) [Sv 5, Sv 6]), Ro 8 (.bin .geq (Sv 7) (Ci 0)), Ro 4 (Mv 8)])
 .ret))
def q1g : List ARes := [(.tmp (sl 4))]
theorem q3p : (Tryz.f36).body.bind (q9 Tryz.prog 8 (Tryz.f36).ntmps [1, 6, 7] [(62, 0, 0), (1000011, 0, 0)] (drOk 8)) = some q1f := by kernel_rfl
theorem q3q : qa Tryz.prog 8 (Tryz.f36).results.toList = some q1g := by kernel_rfl
def q1x : ACode :=
 (.seq (.reg [Ro 4 (.mv (Ci 0))])
 (.seq (.seq (.reg [Ro 6 (Mv 0), Ro 7 (.len false (Sv 6)), Ro 8 (.mv (Ci 0))])
 (.block 0
 (.loop (.seq (.reg [Ro 9 (.bin .lss (Sv 8) (Sv 7))])
 (.seq (.cond (Sv 9)
 .skip
 (.exit 0))
 (.seq (.block 1
 (.seq (.reg [Ro 10 (Mv 8), Ro 5 (Mv 10)])
 (.seq (.reg [Ro 11 (Mv 1), Ro 12 (Mv 0), Ro 13 (Mv 5), Ro 14 (.idx true (Sv 12) (Sv 13) 1), Ro 15 (Ld 14), Ro 16 (.calle (Sv 11) [Sv 15])])
 (.cond (Sv 16)
 (.seq (.reg [Ro 17 (Mv 5), Ro 4 (Mv 17)])
 .ret)
 .skip))))
 (.reg [Ro 18 (.bin .add (Sv 8) (Ci 1)), Ro 8 (Mv 18)])))))))
 (.seq (.reg [Ro 4 (.mv (Ci (-1)))])
 .ret)))
def q1y : List ARes := [(.tmp (sl 4))]
theorem q46 : (Tryz.f62).body.bind (q9 Tryz.prog 8 (Tryz.f62).ntmps [1, 11] [(62, 0, 0), (1000011, 0, 0)] (drOk 8)) = some q1x := by kernel_rfl
theorem q47 : qa Tryz.prog 8 (Tryz.f62).results.toList = some q1y := by kernel_rfl
abbrev MapW := Nat × (Value → Option Value)
def putW (s : MapW) (x : ByteArray) (b : Bool) : MapW := (if (s.2 (.string x)).isSome then s.1 else s.1 + 1, mset s.2 (.string x) (.bool b))
def q9o (s : MapW) (l : List (ByteArray × Bool)) : MapW := l.foldl (fun s p => putW s p.1 p.2) s
theorem qqk {s : MapW} {l : List (ByteArray × Bool)} {k : Nat} (hk : k < l.length) : q9o s (l.take (k + 1)) = putW (q9o s (l.take k)) l[k].1 l[k].2 := by
 unfold q9o
 rw [List.take_succ_eq_append_getElem hk, List.foldl_append]
 rfl
theorem keq_T (x y : ByteArray) : keq (.string y) (.string x) = decide (x = y) := by
 rw [Bool.eq_iff_iff, q5c (kd := .string) rfl rfl]
 simp [eq_comm]
theorem z0r (s : MapW) (x y : ByteArray) (b : Bool) : (putW s x b).2 (.string y) = if x = y then some (.bool b) else s.2 (.string y) := by
 simp only [putW, mset, keq_T]
 by_cases h : x = y <;> simp [h]
theorem qn7 : ∀ (l : List (ByteArray × Bool)) (s : MapW) (x : ByteArray), x ∉ l.map (·.1) → (q9o s l).2 (.string x) = s.2 (.string x)
  | [], s, x, _ => rfl
  | p :: l, s, x, h => by
    simp only [List.map_cons, List.mem_cons, not_or] at h
    show (q9o (putW s p.1 p.2) l).2 _ = _
    rw [qn7 l _ x h.2, z0r, if_neg (Ne.symm h.1)]
theorem qn6 : ∀ (l : List (ByteArray × Bool)) (s : MapW) (x : ByteArray) (b : Bool), (l.map (·.1)).Nodup → (x, b) ∈ l → (q9o s l).2 (.string x) = some (.bool b)
  | [], s, x, b, _, h => by cases h
  | p :: l, s, x, b, hn, h => by
    simp only [List.map_cons, List.nodup_cons] at hn
    show (q9o (putW s p.1 p.2) l).2 _ = _
    rcases List.mem_cons.1 h with h | h
    · subst h
      rw [qn7 l _ x hn.1, z0r, if_pos rfl]
    · exact qn6 l _ x b hn.2 h
def qdm (m : Module) : List (ByteArray × Bool) := m.funcs.map fun f => (f.name, decide (0 < f.blocks.length))
def qhi (m : Module) : List (ByteArray × Bool) := m.globs.map fun g => (g.name, g.here)
def qoc (m : Module) : MapW := q9o (q9o (0, fun _ => none) (qdm m)) (qhi m)
def isB (f : Value → Option Value) (x : ByteArray) : Bool := match f (.string x) with
 | some (.bool b) => b
 | _ => false
def AllB (f : Value → Option Value) : Prop := ∀ v u, f v = some u → ∃ b, u = .bool b
theorem AllB.put {s : MapW} (h : AllB s.2) (x : ByteArray) (b : Bool) : AllB (putW s x b).2 := by
 intro v u hu
 simp only [putW, mset] at hu
 split at hu
 ·injection hu with hu
  exact ⟨b, hu.symm⟩
 ·exact h v u hu
theorem AllB.puts : ∀ (l : List (ByteArray × Bool)) {s : MapW}, AllB s.2 → AllB (q9o s l).2
 | [], s, h => h
 | p :: l, s, h => AllB.puts l (h.put p.1 p.2)
theorem z5y (m : Module) : AllB (qoc m).2 := AllB.puts _ (AllB.puts _ fun v u h => by cases h)
theorem qxt {m : Module} (hn : (qn m).Nodup) (s : ByteArray) : isB (qoc m).2 s = q40 m s := by
  have e : qoc m = q9o (0, fun _ => none) (qdm m ++ qhi m) := by unfold qoc q9o; rw [List.foldl_append]
  have hnn : ((qdm m ++ qhi m).map (·.1)).Nodup := by
    simpa [qdm, qhi, qn, q3c, q59, Function.comp_def] using hn
  unfold isB q40
  rw [e]
  cases hf : q55 m s with
  | some f =>
    have h1 := List.mem_of_find?_eq_some hf
    have h2 : f.name = s := by simpa using List.find?_some hf
    rw [qn6 _ _ s (decide (0 < f.blocks.length)) hnn (List.mem_append.2 (.inl (List.mem_map.2 ⟨f, h1, by rw [h2]⟩)))]
    simp only
    by_cases h : f.blocks.length = 0
    · simp [h]
    · simp [h]; omega
  | none =>
    have h1 : s ∉ (qdm m).map (·.1) := by
      intro h
      simp only [qdm, List.map_map, List.mem_map, Function.comp] at h
      obtain ⟨f, hm, hs⟩ := h
      have := List.find?_eq_none.1 hf f hm
      simp [hs] at this
    cases hg : findG m s with
    | some g =>
      have h3 := List.mem_of_find?_eq_some hg
      have h2 : g.name = s := by simpa using List.find?_some hg
      rw [qn6 _ _ s g.here hnn (List.mem_append.2 (.inr (List.mem_map.2 ⟨g, h3, by rw [h2]⟩)))]
    | none =>
      have h3 : s ∉ (qhi m).map (·.1) := by
        intro h
        simp only [qhi, List.map_map, List.mem_map, Function.comp] at h
        obtain ⟨f, hm, hs⟩ := h
        have := List.find?_eq_none.1 hg f hm
        simp [hs] at this
      rw [qn7 _ _ s (by rw [List.map_append, List.mem_append, not_or]; exact ⟨h1, h3⟩)]
def LB (s : MapW) : List (Nat × AObj) := [(1000000, .box [.mp 1000001]), (1000001, .map .string s.1 s.2)]
theorem z60 (s : MapW) : hof (LB s) = hadd 1000000 (.box [.mp 1000001]) (hadd 1000001 (.map .string s.1 s.2) hnil) := rfl
theorem qzp (s : MapW) : qoz (LB s) (LB s) (hadd 1000000 (.box [.mp 1000001]) (hadd 1000001 (.map .string s.1 s.2) hnil)) := by
 refine ⟨.none, ?_, ?_⟩
 ·simp [LB, gE]
 ·simp [LB, gE]
set_option maxRecDepth 10000 in
theorem z45 (s : MapW) (hs : AllB s.2) (x : ByteArray) : AEff Tryz.prog 38 [.d (.str x), .ptr 1000000 0] (LB s) (.bool (!isB s.2 x)) (LB s) := by
  refine qx7 _ _ Tryz.func38 (by kernel_rfl) qkl qkp rfl rfl (by simp [LB]) (by simp [LB, q2x]) (fun _ => ?_)
  obtain ⟨b, hb, he⟩ : ∃ b, (s.2 (.string x)).getD (.bool false) = .bool b ∧ isB s.2 x = b := by
    unfold isB
    cases h : s.2 (.string x) with
    | none => exact ⟨false, rfl, rfl⟩
    | some u =>
      obtain ⟨b, rfl⟩ := hs _ _ h
      exact ⟨b, rfl, rfl⟩
  simp [qbi, qbn, LB, hb, he]
  exact qzp s
def tauB (n : Nat) : Nat → Nat := fun i => if i = 999999 then n else i
set_option maxRecDepth 10000 in
theorem z2e (s : MapW) (hs : AllB s.2) (xs : List ByteArray) : AEff Tryz.prog 62 [.d (q2k xs), .fn 38 [.ptr 1000000 0]] (LB s) (.int (q44 (fun x => !isB s.2 x) xs)) (LB s) := by
 refine qx7 _ _ Tryz.func62 (by kernel_rfl) q46 q47 rfl rfl (by simp [LB]) (by simp [LB, q2x]) (fun hx => ?_)
 have hl : xs.length ≤ 9223372036854775807 := by
  obtain ⟨γ, X, w, us, h⟩ := hx
  obtain ⟨v, vs, _, h1, _⟩ := h.uncons
  have := z7g h1.dv
  simpa [maxLen] using this
 clear hx
 obtain ⟨p, hp⟩ : ∃ p : ByteArray → Bool, (fun x => !isB s.2 x) = p := ⟨_, rfl⟩
 have hp' : ∀ x, (!isB s.2 x) = p x := fun x => congrFun hp x
 have hw : ∀ x, AEff Tryz.prog 38 [.d (.str x), .ptr 1000000 0] (LB s) (.bool (p x)) (LB s) := fun x => by rw [← hp' x]; exact z45 s hs x
 rw [hp]
 simp [q1x, q1y, z60]
 refine qe (κ := Nat) (fun k => k ≤ xs.length ∧ ∀ i (h : i < xs.length), i < k → p xs[i] = false) (fun k => xs.length - k) (fun k => [(sl 8, .int k)]) (fun _ => LB s) 0 0 (srcs []) (by simp) (by simp [LB]) ?_
 rintro k ⟨hk, hb⟩
 simp [z60]
 refine ⟨fun hlt => ⟨hlt, ?_⟩, fun hge => ⟨q6 (q4q fun i hi => hb i hi (by omega)).symm, qzp s⟩⟩
 rw [getD_some hlt]
 refine q43 (hw xs[k]) (tauB _) rfl [.d (.str xs[k]), .ptr 1000000 0] (by simp) (by simp) (by simp) (by simp [gOf, LB, tauB]) (by simp [gOf, LB, tauB]) (by simp [gOf, LB, tauB]) (by simp [LB, q2x]) ?_
 simp [LB, tauB]
 refine ⟨fun h => ⟨q6 (q49 hlt hb h).symm, qzp s⟩, fun h => ?_⟩
 refine ⟨k + 1, ⟨by omega, fun i hi h1 => ?_⟩, by omega, srcs [], ?_⟩
 ·rcases Nat.lt_or_ge i k with h2 | h2
  ·exact hb i hi h2
  ·obtain rfl : i = k := by omega
   exact h
 ·simp [SLeK]
  exact q6 (q5 (by omega))
theorem qrs (s : MapW) (hs : AllB s.2) (xs : List ByteArray) : AEff Tryz.prog 36 [.d (q2k xs), .fn 38 [.ptr 1000000 0]] (LB s) (.bool (xs.any fun x => !isB s.2 x)) (LB s) := by
 refine qx7 _ _ Tryz.func36 (by kernel_rfl) q3p q3q rfl rfl (by simp [LB]) (by simp [LB, q2x]) (fun _ => ?_)
 have h0 := z2e s hs xs
 obtain ⟨p, hp⟩ : ∃ p : ByteArray → Bool, (fun x => !isB s.2 x) = p := ⟨_, rfl⟩
 rw [hp] at h0 ⊢
 simp [q1f, q1g, z60, -List.any_eq_true]
 refine q43 h0 (tauB _) rfl [.d (q2k xs), .fn 38 [.ptr 1000000 0]] (by simp) (by simp) (by simp) (by simp [gOf, LB, tauB]) (by simp [gOf, LB, tauB]) (by simp [gOf, LB, tauB]) (by simp [LB, q2x]) ?_
 simp [LB, tauB, -List.any_eq_true]
 exact ⟨qc (qdb _ xs), qzp s⟩
def tauV : Nat → Nat := fun i => if i = 999999 then 208 else if i = 1000000 then 29 else if i = 1000001 then 28 else i
set_option maxRecDepth 10000 in
set_option maxHeartbeats 1000000 in
theorem qxj (m : Module) (hm : qoy m) : APure Tryz.prog 24 [.agg (q8 m)] (.int (q65 m)) := by
  refine qb _ _ Tryz.func24 (by kernel_rfl) qwi qwx rfl rfl (fun _ => ?_)
  simp [qjh, qjy]
  refine q4 (ds := [.agg (q8 m)]) _ (by simp) (by simp) (fun _ => by simp; rfl) (fun _ => qpk m hm) ?_
  simp
  refine ⟨fun hz => ?_, fun hz => ?_⟩
  · unfold q65; rw [if_pos hz]; exact DLe.refl _
  have hok := q34.1 hz
  have hnf := hok.nf
  have hng := hok.ng
  have hsm := qdk hok
  have hw0 : q65 m = if qf8 m = true then (if (qco m.funcs).all (q40 m) = true then 0 else 8) else 11 := by
    unfold q65
    rw [if_neg (by rw [hz]; simp)]
  have hfind := z20 m qvc
  unfold z5b at hfind
  cases hf : q55 m qvc with
  | none =>
    have hb : qf8 m = false := by unfold qf8; rw [hf]
    rw [hf] at hfind
    refine q4 (ds := [.agg (q8 m), .str qvc]) _ (by simp) (by simp) (fun _ => by simp; exact ⟨rfl, rfl⟩) (fun _ => hfind) ?_
    rw [hw0, hb]
    simp
  | some f =>
    rw [hf] at hfind
    refine q4 (ds := [.agg (q8 m), .str qvc]) _ (by simp) (by simp) (fun _ => by simp; exact ⟨rfl, rfl⟩) (fun _ => hfind) ?_
    have hmb : qf8 m = (decide (f.blocks.length ≠ 0) && decide (f.params = 0)) := by unfold qf8; rw [hf]
    simp
    refine ⟨fun h => q6 ?_, fun h1 h2 => ?_⟩
    · rw [hw0, hmb]
      rcases h with h | h <;> simp [h]
    have hmt : qf8 m = true := by
      rw [hmb]
      simp [h1, h2]
    rw [hmt, if_pos rfl] at hw0
    have hlF : (qdm m).length = m.funcs.length := by simp [qdm]
    have hlG : (qhi m).length = m.globs.length := by simp [qhi]
    refine qe (κ := Nat) (fun k => k ≤ m.funcs.length) (fun k => m.funcs.length - k) (fun k => [(sl 40, .int k)]) (fun k => [(29, .box [.mp 28]), (28, .map .string (q9o (0, fun _ => none) ((qdm m).take k)).1 (q9o (0, fun _ => none) ((qdm m).take k)).2)]) 35 0 (srcs [(29, .id 29), (28, .id 28)]) (by simp) (by simp [q9o]) ?_
    rintro k hk
    simp
    refine ⟨fun hlt => ⟨hlt, ?_⟩, fun hge => ?_⟩
    · rw [getD_some hlt]
      refine ⟨k + 1, by omega, by omega, srcs [(29, .id 29), (28, .id 28)], ?_⟩
      have e : (qdm m)[k]'(by omega) = (m.funcs[k].name, decide (0 < m.funcs[k].blocks.length)) := by simp [qdm]
      simp [SLeK, qqk (show k < (qdm m).length by omega), e, putW]
      exact q6 (q5 (by omega))
    rw [List.take_of_length_le (by omega)]
    refine qe (κ := Nat) (fun k => k ≤ m.globs.length) (fun k => m.globs.length - k) (fun k => [(sl 55, .int k)]) (fun k => [(29, .box [.mp 28]), (28, .map .string (q9o (q9o (0, fun _ => none) (qdm m)) ((qhi m).take k)).1 (q9o (q9o (0, fun _ => none) (qdm m)) ((qhi m).take k)).2)]) 100 0 (srcs [(29, .id 29), (28, .id 28)]) (by simp) (by simp [q9o]) ?_
    rintro k hk
    simp
    refine ⟨fun hlt => ⟨hlt, ?_⟩, fun hge => ?_⟩
    · rw [getD_some hlt]
      refine ⟨k + 1, by omega, by omega, srcs [(29, .id 29), (28, .id 28)], ?_⟩
      have e : (qhi m)[k]'(by omega) = (m.globs[k].name, m.globs[k].here) := by simp [qhi]
      simp [SLeK, qqk (show k < (qhi m).length by omega), e, putW]
      exact q6 (q5 (by omega))
    rw [List.take_of_length_le (by omega)]
    rw [show q9o (q9o (0, fun _ => none) (qdm m)) (qhi m) = qoc m from rfl]
    refine qe (κ := Nat) (fun i => i ≤ m.funcs.length ∧ ∀ x ∈ qco (m.funcs.take i), q40 m x = true) (fun i => m.funcs.length - i) (fun i => [(sl 68, .int i)]) (fun _ => [(29, .box [.mp 28]), (28, .map .string (qoc m).1 (qoc m).2)]) 200 0 (srcs [(29, .id 29), (28, .id 28)]) (by simp [qco]) (by simp) ?_
    rintro i ⟨hi, hall⟩
    simp
    refine ⟨fun hlt => ⟨hlt, ?_⟩, fun hge => ?_⟩
    · rw [getD_some hlt]
      obtain ⟨f', hf'⟩ : ∃ f', m.funcs[i] = f' := ⟨_, rfl⟩
      have hfm : f' ∈ m.funcs := by rw [← hf']; exact List.getElem_mem hlt
      have hfi := hsm.ins f' hfm
      simp only [hf']
      refine q4 (ds := [.agg (qm f')]) _ (by simp) (by simp) (fun _ => by simp; rfl) (fun _ => qvz f' (by omega)) ?_
      simp
      refine q43 (qrs (qoc m) (z5y m) (qo (qk f'))) tauV rfl [.d (q2k (qo (qk f'))), .fn 38 [.ptr 29 0]] (by simp) (by simp) (by simp) (by simp [gOf, LB, tauV]) (by simp [gOf, LB, tauV]) (by simp [gOf, LB, tauV]) (by simp [LB, q2x]) ?_
      have hmem : ∀ s ∈ qo (qk f'), isB (qoc m).2 s = q40 m s := fun s _ => qxt hok.names s
      obtain ⟨bb, hbb⟩ : ∃ bb, ((qo (qk f')).any fun x => !isB (qoc m).2 x) = bb := ⟨_, rfl⟩
      rw [hbb]
      simp [LB, tauV]
      refine ⟨fun h => q6 ?_, fun h => ?_⟩
      · rw [h] at hbb
        obtain ⟨s, hs, hn⟩ := List.any_eq_true.1 hbb
        have ht : q40 m s = false := by
          rw [← hmem s hs]
          simpa using hn
        rw [hw0, if_neg]
        intro h'
        have := List.all_eq_true.1 h' s (List.mem_flatMap.2 ⟨f', hfm, hs⟩)
        rw [ht] at this
        cases this
      · rw [h] at hbb
        refine ⟨i + 1, ⟨by omega, ?_⟩, by omega, srcs [(29, .id 29), (28, .id 28)], ?_⟩
        · intro x hx
          rw [List.take_succ_eq_append_getElem hlt, qk9, hf'] at hx
          rcases List.mem_append.1 hx with hx | hx
          · exact hall x hx
          · have hx' : x ∈ qo (qk f') := by simpa [qco] using hx
            have := List.any_eq_false.1 hbb x hx'
            rw [← hmem x hx']
            simpa using this
        · simp [SLeK]
          exact q6 (q5 (by omega))
    · rw [List.take_of_length_le hge] at hall
      rw [hw0, if_pos (List.all_eq_true.2 hall)]
      exact DLe.refl _
theorem z6d {m : Module} {F : Func → Func} (h : KOk' m) (hF : ∀ f ∈ m.funcs, (∀ b ∈ f.blocks, ∀ i ∈ b.ins, i.k < 18446744073709551616) → ∀ b ∈ (F f).blocks, ∀ i ∈ b.ins, i.k < 18446744073709551616) : KOk' (mapM F m) := fun f hf => by
 obtain ⟨f0, h0, rfl⟩ := List.mem_map.1 hf
 exact hF f0 h0 (h f0 h0)
theorem kok_fold {m : Module} (h : KOk' m) : KOk' (qxm m) := z6d h fun f _ hk b hb i hi => by
  obtain ⟨b0, h0, rfl⟩ := List.mem_map.1 hb
  rw [qhc] at hi
  obtain ⟨k, hk', rfl⟩ := List.getElem_of_mem hi
  rw [qw] at hk'
  have hx := q87 (List.getElem?_eq_getElem hk')
  have hxk := hk b0 h0 _ (List.getElem_mem hk')
  rw [List.getElem?_eq_getElem (by rw [qw]; exact hk')] at hx
  injection hx with hx
  rw [hx]
  cases ho : foldV (foldL (q4w b0) (b0.ins.take k)) b0.ins[k] with
  | none => exact hxk
  | some v =>
    have := KnOk.foldV hxk ho
    show v.toNat < _
    omega
theorem kok_trim {m : Module} (h : KOk' m) : KOk' (z3q m) := z6d h fun f _ hk b hb i hi => by
 obtain ⟨b0, h0, rfl⟩ := List.mem_map.1 hb
 obtain ⟨k, _, h2⟩ := qyr h0
 obtain ⟨x, hx, rfl⟩ := List.mem_map.1 hi
 obtain ⟨j, _, h4⟩ := qyr hx
 exact hk b0 (List.mem_of_getElem? h2) x (List.mem_of_getElem? h4)
theorem kok_drop {m : Module} (h : KOk' m) : KOk' (qax m) := fun f hf => h f (by
 unfold qax at hf
 exact (List.mem_filter.1 hf).1)
theorem kok_put {m : Module} (h : KOk' m) {fi : Nat} {f0 : Func} {bi : Nat} {b0 : Block} {ak : Nat} {x0 : Inst} {g0 : Func} {l : Block} (hp : OnePut m fi f0 bi b0 ak x0 g0 l) : KOk' (putM m fi f0 bi b0 ak l) := by
 have hl : ∀ i ∈ l.ins, i.k < 18446744073709551616 := h g0 (List.mem_of_find?_eq_some hp.hg) l (by rw [hp.hl]; simp)
 have hb : ∀ i ∈ b0.ins, i.k < 18446744073709551616 := h f0 (List.mem_of_getElem? hp.hf) b0 (List.mem_of_getElem? hp.hb)
 intro f hf b hb1 i hi
 rcases List.mem_or_eq_of_mem_set hf with hf | hf
 ·exact h f hf b hb1 i hi
 ·subst hf
  rcases List.mem_or_eq_of_mem_set hb1 with hb1 | hb1
  ·exact h f0 (List.mem_of_getElem? hp.hf) b hb1 i hi
  ·subst hb1
   simp only [putB, List.mem_append, List.mem_map] at hi
   rcases hi with (hi | ⟨x, hx, rfl⟩) | ⟨x, hx, rfl⟩
   ·exact hb i (List.mem_of_mem_take hi)
   ·exact hl x hx
   ·exact hb x (List.mem_of_mem_drop hx)
theorem kok_inl {m : Module} (hok : ModOk m) (h : KOk' m) (budget : Int) : KOk' (inlM m budget) := by
 unfold inlM
 split
 ·have key : ∀ {M : Module}, Puts m M → KOk' M := fun {M} hp => by
   induction hp with
   | refl => exact h
   | step _ hp ih => exact kok_put ih hp
  exact key (z0u hok budget)
 ·exact h
theorem kok_one {m : Module} (hok : ModOk m) (h : KOk' m) (t budget : Int) : KOk' (oneP m t budget) := by
 unfold oneP
 repeat' split
 ·exact kok_fold h
 ·exact kok_trim h
 ·exact kok_drop h
 ·exact kok_inl hok h budget
 ·exact h
theorem qy4 {budget : Int} : ∀ (tags : List Int) {m : Module}, ModOk m → KOk' m → KOk' (runP m tags budget)
 | [], _, _, h => h
 | t :: tags, m, hok, h => qy4 tags (z6s hok t budget) (kok_one hok h t budget)
theorem qeu {p : Int → Bool} : ∀ {l : List Int} {k : Nat} (hk : k < l.length), (∀ i (h : i < l.length), i < k → p l[i] = true) → p l[k] = false → l.takeWhile p = l.take k ∧ l.all p = false
  | x :: l, 0, _, _, h => by simp at h; simp [h]
  | x :: l, k + 1, hk, hb, h => by
    have h0 := hb 0 (by simp) (by omega)
    simp at h0
    have ih := qeu (p := p) (l := l) (k := k) (by simpa using hk) (fun i hi hik => hb (i + 1) (by simpa using hi) (by omega)) (by simpa using h)
    simp [h0, ih.1, ih.2]
theorem qba {p : Int → Bool} {l : List Int} (h : ∀ i (h : i < l.length), p l[i] = true) : l.takeWhile p = l ∧ l.all p = true := by
  have : ∀ x ∈ l, p x = true := fun x hx => by
    obtain ⟨i, hi, rfl⟩ := List.getElem_of_mem hx
    exact h i hi
  exact ⟨by
    clear h
    induction l with
    | nil => rfl
    | cons x l ih =>
      rw [List.takeWhile_cons, this x (List.mem_cons_self ..)]
      simp [ih fun y hy => this y (List.mem_cons_of_mem _ hy)], List.all_eq_true.2 this⟩
set_option maxRecDepth 10000 in
theorem qll (m : Module) (hok : ModOk m) (hk : KOk' m) (tags : List Int) (ht : tags.length ≤ 1000) (budget : Int) : APure Tryz.prog 23 [.agg (q8 m), .int budget, ql tags] (.tup [.agg (q8 (runP m (tags.takeWhile qd0) budget)), .bool (tags.all qd0)]) := by
  refine qb _ _ Tryz.func23 (by kernel_rfl) qt3 qtf rfl rfl (fun _ => ?_)
  simp [qgv, qi0]
  refine qe (κ := Nat) (fun k => k ≤ tags.length ∧ ∀ i (h : i < tags.length), i < k → qd0 tags[i] = true) (fun k => tags.length - k) (fun k => [(sl 15, .int k)]) (fun k => [(0, .box [.d (q24 (runP m (tags.take k) budget).funcs), .d (q2u (runP m (tags.take k) budget).globs)]), (1, .box [.d (.lit (.slice none 0 0)), .d (.lit (.slice none 0 0))])]) 10 0 (srcs [(0, .id 0), (1, .id 1)]) (by simp) (by simp [runP]) ?_
  rintro k ⟨hkl, hb⟩
  simp
  obtain ⟨M, hM⟩ : ∃ M, runP m (tags.take k) budget = M := ⟨_, rfl⟩
  have hokM : ModOk M := hM ▸ qyn (tags.take k) hok
  have hkM : KOk' M := hM ▸ qy4 (tags.take k) hok hk
  simp only [hM]
  refine ⟨fun hlt => ⟨hlt, ?_⟩, fun hge => ?_⟩
  · rw [getD_some hlt]
    have hnext := qw8 (m := m) (budget := budget) hlt
    rw [hM] at hnext
    refine q4 (ds := [.agg (q8 M), .int tags[k], .int budget]) _ (by simp) (by simp) (fun _ => by simp; exact ⟨rfl, rfl⟩) (fun _ => qvm M hokM hkM (qdk hokM) tags[k] budget) ?_
    cases hq : qd0 tags[k] with
    | true =>
      have e : oneR M tags[k] budget = .tup [.agg (q8 (oneP M tags[k] budget)), .int 0] := by unfold oneR; rw [if_pos hq]
      rw [e]
      simp
      refine ⟨k + 1, ⟨by omega, fun i hi hik => ?_⟩, by omega, srcs [(0, .id 0), (1, .id 1)], ?_⟩
      · rcases Nat.lt_or_ge i k with h | h
        · exact hb i hi h
        · obtain rfl : i = k := by omega
          exact hq
      · simp [SLeK, hnext]
        exact q6 (q5 (by omega))
    | false =>
      have e : oneR M tags[k] budget = .tup [.agg (q8 ⟨[], []⟩), .int 1] := by unfold oneR; rw [if_neg (by rw [hq]; simp)]
      rw [e]
      obtain ⟨e1, e2⟩ := qeu hlt hb hq
      simp
      rw [e1, e2, hM]
      exact DLe.refl _
  · obtain ⟨e1, e2⟩ := qba (p := qd0) (l := tags) fun i hi => hb i hi (by omega)
    rw [List.take_of_length_le hge] at hM
    rw [e1, e2, hM]
    exact DLe.refl _
theorem nil_ok : ModOk ⟨[], []⟩ := { nf := by simp, ng := by simp, funcs := by simp, globs := by simp, names := by decide, miss := by simp [insM], odd := by simp [insM] }
theorem nil_kok : KOk' ⟨[], []⟩ := fun f hf => by cases hf
def q9h (m : Module) (tags : List Int) (budget : Int) : DV := if qbr m tags = 0 then .tup [.agg (q8 (runP m tags budget)), .int 0] else .tup [.agg (q8 ⟨[], []⟩), .int (qbr m tags)]
set_option maxRecDepth 10000 in
theorem qn4 (m : Module) (hm : qoy m) (hk : KOk' m) (tags : List Int) (ht : tags.length ≤ 1000) (budget : Int) : APure Tryz.prog 9 [.agg (q8 m), ql tags, .int budget] (q9h m tags budget) := by
  refine qb _ _ Tryz.func9 (by kernel_rfl) z3j z41 rfl rfl (fun _ => ?_)
  simp [qpi, qqv]
  refine q81 (ds := [.agg [.lit (.slice none 0 0), .lit (.slice none 0 0)], .int budget, ql tags]) (qll ⟨[], []⟩ nil_ok nil_kok tags ht budget) (by simp) (by simp) (fun _ => by simp) (fun _ => ?_) ?_
  · simp
    refine DLe.agg rfl fun i h1 h2 => ?_
    match i, h1 with
    | 0, _ => exact q88
    | 1, _ => exact q4r
  simp
  have hone : ∀ (h : qbr m tags = 1), DLe (.tup [.agg [.lit (.slice none 0 0), .lit (.slice none 0 0)], .lit (.int .i64 1)]) (q9h m tags budget) := fun h => by
    unfold q9h
    rw [if_neg (by omega), h]
    refine DLe.tup rfl fun i h1 h2 => ?_
    match i, h1 with
    | 0, _ => exact DLe.agg rfl fun i h1 h2 => (match i, h1 with
      | 0, _ => q88
      | 1, _ => q4r)
    | 1, _ => exact DLe.refl _
  have hall : (∀ x ∈ tags, qd0 x = true) → tags.all qd0 = true := fun h => List.all_eq_true.2 h
  refine ⟨fun h => hone ?_, fun ha hl => ?_⟩
  · unfold qbr
    rw [if_neg]
    rintro ⟨h1, h2⟩
    rcases h with ⟨x, hx, h⟩ | h
    · rw [List.all_eq_true.1 h2 x hx] at h; cases h
    · omega
  have hp : qbr m tags = q65 m := by unfold qbr; rw [if_pos ⟨by omega, hall ha⟩]
  refine q4 (ds := [.agg (q8 m)]) _ (by simp) (by simp) (fun _ => by simp; rfl) (fun _ => qxj m hm) ?_
  simp
  refine ⟨fun hw => ?_, fun hw => ?_⟩
  · unfold q9h
    rw [hp, if_neg hw]
    refine DLe.tup rfl fun i h1 h2 => ?_
    match i, h1 with
    | 0, _ => exact DLe.agg rfl fun i h1 h2 => (match i, h1 with
      | 0, _ => q88
      | 1, _ => q4r)
    | 1, _ => exact DLe.refl _
  · have hok := (qgf.1 hw).1
    refine q4 (ds := [.agg (q8 m), .int budget, ql tags]) _ (by simp) (by simp) (fun _ => by simp; rfl) (fun _ => qll m hok hk tags ht budget) ?_
    obtain ⟨e1, e2⟩ := qba (p := qd0) (l := tags) fun i hi => ha _ (List.getElem_mem hi)
    rw [e1, e2]
    simp
    unfold q9h
    rw [hp, if_pos hw]
    exact DLe.refl _
def q4o : ACode :=
 (.seq (.reg [Ro 1 (.box true (Sv 0)), Ro 2 (.mv (.c (.bool false)))])
 (.seq (.seq (.reg [Ro 17 (Fd 1 0), Ro 18 (Lk 17 2), Ro 3 (.new [(.slice none 0 0), (.slice none 0 0)]), Rn (.ini 1 (Sv 3) (Sv 18) 2)])
 (.frz (sl 3)))
 (.seq (.reg [Ro 19 (Fd 1 2), Ro 20 (Ld 19), Ro 4 (Mv 20)])
 (.seq (.reg [Ro 21 (Fd 1 3), Ro 22 (Ld 21), Ro 5 (Mv 22)])
 (.seq (.reg [Ro 23 (Fd 1 4), Ro 24 (Ld 23), Ro 6 (Mv 24)])
 (.seq (.reg [Ro 25 (.call true (.f 7) []), Ro 7 (Mv 25)])
 (.seq (.seq (.reg [Ro 26 (Lk 3 2), Ro 27 (.call true (.f 8) [Sv 26]), Ro 28 (.bin .neq (Sv 27) (Ci 0)), Ro 29 (Mv 28), Rg 30 29 false (Mv 4), Rg 31 29 false (.len false (Sv 30)), Rg 32 29 false (.bin .gtr (Sv 31) (Ci 100)), Ro 33 (.pick (Sv 29) (.c (.bool true)) (Sv 32))])
 (.cond (Sv 33)
 (.seq (.reg [Ro 34 (Mv 7), Ro 2 (Mv 34)])
 .ret)
 .skip))
 (.seq (.seq (.reg [Ro 36 (Lk 3 2), Ro 37 (Mv 4), Ro 38 (Mv 5), Ro 39 (.call true (.f 9) [Sv 36, Sv 37, Sv 38]), Ro 35 (Mv 39), Ro 40 (.ext (Sv 35) 0), Ro 41 (.ext (Sv 35) 1), Ro 8 (.new [(.slice none 0 0), (.slice none 0 0)]), Rn (.ini 1 (Sv 8) (Sv 40) 2), Ro 9 (Mv 41)])
 (.frz (sl 8)))
 (.seq (.seq (.reg [Ro 43 (Lk 3 2), Ro 44 (Mv 4), Ro 45 (Mv 5), Ro 46 (.call true (.f 10) [Sv 43, Sv 44, Sv 45]), Ro 42 (Mv 46), Ro 47 (.ext (Sv 42) 0), Ro 48 (.ext (Sv 42) 1), Ro 10 (.new [(.slice none 0 0), (.slice none 0 0)]), Rn (.ini 1 (Sv 10) (Sv 47) 2), Ro 11 (Mv 48)])
 (.frz (sl 10)))
 (.seq (.seq (.reg [Ro 50 (Lk 3 2), Ro 51 (Mv 6), Ro 52 (Mv 5), Ro 53 (.call true (.f 11) [Sv 50, Sv 51, Sv 52]), Ro 49 (Mv 53), Ro 54 (.ext (Sv 49) 0), Ro 55 (.ext (Sv 49) 1), Ro 12 (.new [(.slice none 0 0), (.slice none 0 0)]), Rn (.ini 1 (Sv 12) (Sv 54) 2), Ro 13 (Mv 55)])
 (.frz (sl 12)))
 (.seq (.seq (.reg [Ro 57 (Lk 3 2), Ro 58 (Mv 6), Ro 59 (Mv 5), Ro 60 (.call true (.f 12) [Sv 57, Sv 58, Sv 59]), Ro 56 (Mv 60), Ro 61 (.ext (Sv 56) 0), Ro 62 (.ext (Sv 56) 1), Ro 14 (.new [(.slice none 0 0), (.slice none 0 0)]), Rn (.ini 1 (Sv 14) (Sv 61) 2), Ro 15 (Mv 62)])
 (.frz (sl 14)))
 (.seq (.reg [Ro 63 (Lk 8 2), Ro 64 (Lk 10 2), Ro 65 (.call true (.f 13) [Sv 63, Sv 64]), Ro 66 (Mv 65), Rg 67 66 true (Lk 12 2), Rg 68 66 true (Lk 14 2), Rg 69 66 true (.call true (.f 13) [Sv 67, Sv 68]), Ro 70 (.pick (Sv 66) (Sv 69) (.c (.bool false))), Ro 16 (Mv 70)])
 (.seq (.reg [Rl 71 (Mv 7) 0, Rl 72 (Mv 71) 1, Rh 73 72 true (Mv 16) 2, Rl 74 (.pick (Sv 72) (Sv 73) (.c (.bool false))) 3, Rl 75 (Mv 74) 4, Rh 76 75 true (Mv 9) 5, Rh 77 75 true (Mv 11) 6, Rh 78 75 true (.bin .eql (Sv 76) (Sv 77)) 7, Rl 79 (.pick (Sv 75) (Sv 78) (.c (.bool false))) 8, Rl 80 (Mv 79) 9, Rh 81 80 true (Mv 13) 10, Rh 82 80 true (Mv 15) 11, Rh 83 80 true (.bin .eql (Sv 81) (Sv 82)) 12, Rl 84 (.pick (Sv 80) (Sv 83) (.c (.bool false))) 13, Rl 85 (Mv 84) 14, Rh 86 85 true (Lk 3 2) 15, Rh 87 85 true (.call true (.f 14) [Sv 86]) 16, Rh 88 85 true (Lk 3 2) 17, Rh 89 85 true (.call true (.f 15) [Sv 88]) 18, Rh 90 85 true (.bin .eql (Sv 87) (Sv 89)) 19, Rl 91 (.pick (Sv 85) (Sv 90) (.c (.bool false))) 20, Rl 2 (Mv 91) 21])
 .ret)))))))))))))
def q4t : List ARes := [(.tmp (sl 2))]
theorem qan : (Tryz.f3).body.bind (q9 Tryz.prog 8 (Tryz.f3).ntmps [] [] (drOk 8)) = some q4o := by kernel_rfl
theorem qar : qa Tryz.prog 8 (Tryz.f3).results.toList = some q4t := by kernel_rfl
def q78 : ACode :=
 (.seq (.reg [Ro 0 (.mv (.c (.bool false)))])
 (.seq (.seq (.reg [Ro 6 (.bld [(.int .i64 0), (.int .i64 0), (.int .i64 0), (.int .u64 0), (.string ⟨#[]⟩), (.slice none 0 0)] [(0, 1, (Ci 1)), (3, 1, (.c (.int .u64 7)))]), Ro 7 (.mksl 6 1 [(.int .i64 0), (.int .i64 0), (.int .i64 0), (.int .u64 0), (.string ⟨#[]⟩), (.slice none 0 0)] [(0, 6, (Sv 6))]), Ro 8 (.bld [(.int .i64 0), (.int .i64 0), (.int .i64 0), (.slice none 0 0), (.int .i64 0), (.slice none 0 0)] [(0, 1, (Ci 3))]), Ro 9 (.bld [(.int .i64 0), (.slice none 0 0), (.int .i64 0), (.int .i64 0), (.int .i64 0), (.slice none 0 0), (.int .i64 0), (.slice none 0 0)] [(1, 1, (Sv 7)), (2, 6, (Sv 8))]), Ro 10 (.mksl 8 1 [(.int .i64 0), (.slice none 0 0), (.int .i64 0), (.int .i64 0), (.int .i64 0), (.slice none 0 0), (.int .i64 0), (.slice none 0 0)] [(0, 8, (Sv 9))]), Ro 11 (.bld [(.string ⟨#[]⟩), (.int .i64 0), (.int .i64 0), (.slice none 0 0)] [(0, 1, (.c (.string ⟨#[109, 97, 105, 110]⟩))), (1, 1, (Ci 2)), (3, 1, (Sv 10))]), Ro 12 (.mksl 4 1 [(.string ⟨#[]⟩), (.int .i64 0), (.int .i64 0), (.slice none 0 0)] [(0, 4, (Sv 11))]), Ro 13 (.bld [(.slice none 0 0), (.slice none 0 0)] [(0, 1, (Sv 12))]), Ro 1 (.new [(.slice none 0 0), (.slice none 0 0)]), Rn (.ini 1 (Sv 1) (Sv 13) 2)])
 (.frz (sl 1)))
 (.seq (.seq (.reg [Ro 15 (Lk 1 2), Ro 16 (.call true (.f 9) [Sv 15, (.c (.slice none 0 0)), Ci 0]), Ro 14 (Mv 16), Ro 17 (.ext (Sv 14) 0), Ro 18 (.ext (Sv 14) 1), Ro 2 (.new [(.slice none 0 0), (.slice none 0 0)]), Rn (.ini 1 (Sv 2) (Sv 17) 2), Ro 3 (Mv 18)])
 (.frz (sl 2)))
 (.seq (.seq (.reg [Ro 20 (Lk 1 2), Ro 21 (.mksl 1 1 [(.int .i64 0)] [(0, 1, (Ci 9))]), Ro 22 (.call true (.f 9) [Sv 20, Sv 21, Ci 0]), Ro 19 (Mv 22), Ro 23 (.ext (Sv 19) 0), Ro 24 (.ext (Sv 19) 1), Ro 4 (.new [(.slice none 0 0), (.slice none 0 0)]), Rn (.ini 1 (Sv 4) (Sv 23) 2), Ro 5 (Mv 24)])
 (.frz (sl 4)))
 (.seq (.reg [Ro 25 (Mv 3), Ro 26 (.bin .eql (Sv 25) (Ci 0)), Ro 27 (Mv 26), Rg 28 27 true (Fd 2 0), Rg 29 27 true (Ld 28), Rg 30 27 true (.len false (Sv 29)), Rg 31 27 true (.bin .eql (Sv 30) (Ci 1)), Ro 32 (.pick (Sv 27) (Sv 31) (.c (.bool false))), Ro 33 (Mv 32), Rg 34 33 true (Mv 5), Rg 35 33 true (.bin .eql (Sv 34) (Ci 1)), Ro 36 (.pick (Sv 33) (Sv 35) (.c (.bool false))), Ro 37 (Mv 36), Rg 38 37 true (Lk 2 2), Rg 39 37 true (.call true (.f 14) [Sv 38]), Rg 40 37 true (.bin .eql (Sv 39) (Ci 2)), Ro 41 (.pick (Sv 37) (Sv 40) (.c (.bool false))), Ro 0 (Mv 41)])
 .ret)))))
def q7l : List ARes := [(.tmp (sl 0))]
theorem qdp : (Tryz.f7).body.bind (q9 Tryz.prog 8 (Tryz.f7).ntmps [] [] (drOk 8)) = some q78 := by kernel_rfl
theorem qe2 : qa Tryz.prog 8 (Tryz.f7).results.toList = some q7l := by kernel_rfl
structure Fr where
 f : Func
 blk : Nat
 pos : Nat
 vals : List Int
def valsR (vals : List Int) : Nat → List DV := fun i => u64C (vals[i]?.getD 0)
@[simp] theorem valsR_len (vals : List Int) (i : Nat) : (valsR vals i).length = 1 := rfl
@[simp] theorem valsR_0 (vals : List Int) (i : Nat) : (valsR vals i)[0]? = some (.lit (.int .u64 (vals[i]?.getD 0))) := rfl





def u64In (v : Int) : Prop := 0 ≤ v ∧ v < 18446744073709551616



def KOk (m : Module) : Prop := (∀ f ∈ m.funcs, ∀ b ∈ f.blocks, ∀ i ∈ b.ins, i.k < 18446744073709551616) ∧ ∀ g ∈ m.globs, g.init < 18446744073709551616
def unwind (m : Module) (inp : ByteArray) (fuel deep : Nat) : Wd × Int → List Fr → Wd × Int
 | r, [] => r
 | r, fr :: rest => if r.1.bad ≠ 0 then (r.1, 0) else unwind m inp fuel deep (goF m inp fuel deep r.1 fr.f fr.blk fr.pos (fr.vals ++ [r.2]) (rest.length + 1)) rest
def FrIn (m : Module) (d : Nat) (fr : Fr) : Prop := fr.f ∈ m.funcs ∧ (∃ b, fr.f.blocks[fr.blk]? = some b ∧ fr.pos ≤ b.ins.length ∧ (fr.vals.length : Int) + d = b.params + fr.pos) ∧ ∀ v ∈ fr.vals, u64In v
structure MOk (m : Module) (inp : ByteArray) (fuel deep : Nat) (R : Wd × Int) (q : Wd × Fr × List Fr) : Prop where
 good : Good m fuel q.1
 glob : ∀ v ∈ q.1.globs, u64In v
 top : FrIn m 0 q.2.1
 lo : ∀ fr ∈ q.2.2, FrIn m 1 fr
 n : q.2.2.length + 1 ≤ deep
 fin : unwind m inp fuel deep (goF m inp fuel deep q.1 q.2.1.f q.2.1.blk q.2.1.pos q.2.1.vals (q.2.2.length + 1)) q.2.2 = R

def exF7 : Func := ⟨⟨#[109, 97, 105, 110]⟩, 2, 0, [⟨0, [⟨1, 0, 0, 7, ⟨#[]⟩, []⟩], 3, 0, 0, [], 0, []⟩]⟩
def exM7 : Module := ⟨[exF7], []⟩
theorem z02 : ∀ b ∈ exF7.blocks, ∀ i ∈ b.ins, i.args.length ≤ 17592186044416 ∧ i.k < 18446744073709551616 := by
 intro b hb i hi
 simp [exF7] at hb
 subst hb
 simp at hi
 subst hi
 simp
theorem qui : qoy exM7 := fun f hf b hb i hi => by
 simp [exM7] at hf
 subst hf
 exact (z02 b hb i hi).1
theorem exM7_k : KOk exM7 := ⟨fun f hf b hb i hi => by
 simp [exM7] at hf
 subst hf
 exact (z02 b hb i hi).2, fun g hg => by cases hg⟩
theorem at07 {n : Nat} (h : n < 1) : n = 0 := by omega
def qcr (bs : List Block) : Nat := (bs.map fun b => b.ins.length + 1).sum
def q6x (fs : List Func) : Nat := (fs.map fun f => qcr f.blocks).sum
theorem qj8 {bs : List Block} {k : Nat} (h : k < bs.length) : qcr (bs.take (k + 1)) = qcr (bs.take k) + (bs[k].ins.length + 1) := by
 unfold qcr
 rw [List.take_succ_eq_append_getElem h, List.map_append, List.sum_append]
 rfl
theorem qfe {fs : List Func} {k : Nat} (h : k < fs.length) : q6x (fs.take (k + 1)) = q6x (fs.take k) + qcr fs[k].blocks := by
 unfold q6x
 rw [List.take_succ_eq_append_getElem h, List.map_append, List.sum_append]
 rfl
theorem qla {f : Func} (h : qr f = true) : ∀ k, k ≤ f.blocks.length → qcr (f.blocks.take k) ≤ 33 * k
  | 0, _ => by simp [qcr]
  | k + 1, hk => by
    rw [qj8 (by omega)]
    have := qla h k (by omega)
    obtain ⟨_, _, h32, _⟩ := qh.1 (q31 h (show k < f.blocks.length by omega))
    omega
theorem qnn {m : Module} (h : ModOk m) : ∀ k, k ≤ m.funcs.length → q6x (m.funcs.take k) ≤ 528 * k
  | 0, _ => by simp [q6x]
  | k + 1, hk => by
    rw [qfe (by omega)]
    have := qnn h k (by omega)
    have hf := h.funcs _ (List.getElem_mem (show k < m.funcs.length by omega))
    have h1 := qla hf _ (Nat.le_refl _)
    have h2 := q1v hf
    rw [List.take_length] at h1
    omega
set_option maxRecDepth 10000 in
theorem qqj (m : Module) (hok : ModOk m) : APure Tryz.prog 14 [.agg (q8 m)] (.int (sizeM m)) := by
 refine qb _ _ Tryz.func14 (by kernel_rfl) qyz qzf rfl rfl (fun _ => ?_)
 simp [qlv, qnc]
 have hnf := hok.nf
 refine qe (κ := Nat) (fun k => k ≤ m.funcs.length) (fun k => m.funcs.length - k) (fun k => [(sl 3, .int (q6x (m.funcs.take k))), (sl 11, .int k)]) (fun _ => []) 0 0 (srcs []) (by simp) (by simp [q6x]) ?_
 intro k hk
 simp
 refine ⟨fun hlt => ⟨hlt, ?_⟩, fun hge => ?_⟩
 rotate_left
 ·rw [List.take_of_length_le hge]
  exact DLe.refl _
 rw [getD_some hlt]
 obtain ⟨f, hf⟩ : ∃ f, m.funcs[k] = f := ⟨_, rfl⟩
 have hfo : qr f = true := hok.funcs f (by rw [← hf]; exact List.getElem_mem hlt)
 have hbl := q1v hfo
 have hs1 := qnn hok k (by omega)
 simp only [hf]
 refine qe (κ := Nat) (fun j => j ≤ f.blocks.length) (fun j => f.blocks.length - j) (fun j => [(sl 3, .int ((q6x (m.funcs.take k) + qcr (f.blocks.take j) : Nat))), (sl 18, .int j)]) (fun _ => []) 0 0 (srcs []) (by simp) (by simp [qcr]) ?_
 intro j hj
 simp
 have hs2 := qla hfo j hj
 refine ⟨fun hjl => ⟨hjl, ?_⟩, fun hge => ?_⟩
 ·rw [getD_some hjl]
  obtain ⟨_, _, h32, _⟩ := qh.1 (q31 hfo hjl)
  refine ⟨j + 1, by omega, by omega, srcs [], ?_⟩
  simp [SLeK]
  rw [qj8 hjl]
  refine ⟨q6 (q5 (by omega)), q6 ?_⟩
  rw [show ((f.blocks[j].ins.length : Int) + 1) = ((f.blocks[j].ins.length + 1 : Nat) : Int) by omega, qld (by omega)]
  rw [show ((q6x (m.funcs.take k) : Int) + (qcr (f.blocks.take j) : Int) + ((f.blocks[j].ins.length + 1 : Nat) : Int)) = ((q6x (m.funcs.take k) + qcr (f.blocks.take j) + (f.blocks[j].ins.length + 1) : Nat) : Int) by omega, qld (by omega)]
  omega
 ·rw [List.take_of_length_le hge]
  refine ⟨k + 1, by omega, by omega, srcs [], ?_⟩
  simp [SLeK]
  rw [qfe hlt, hf]
  exact ⟨q6 (by omega), q6 (q5 (by omega))⟩
theorem qxk : qbr exM7 [] = 0 := by kernel_rfl
theorem qma : qbr exM7 [9] = 1 := by kernel_rfl
theorem z24 : q65 exM7 = 0 := by kernel_rfl
theorem z03 : KOk' exM7 := exM7_k.1
theorem z5g : sizeM exM7 = 2 := by kernel_rfl
set_option maxRecDepth 10000 in
theorem qwc : APure Tryz.prog 7 [] (.bool true) := by
 refine qb _ _ Tryz.func7 (by kernel_rfl) qdp qe2 rfl rfl (fun _ => ?_)
 simp [q78, q7l]
 have hc := qn4 exM7 qui z03 [] (by simp) 0
 have hd := qn4 exM7 qui z03 [9] (by simp) 0
 have e0 : q9h exM7 [] 0 = .tup [.agg (q8 exM7), .int 0] := by unfold q9h; rw [if_pos qxk]; rfl
 have e9 : q9h exM7 [9] 0 = .tup [.agg (q8 ⟨[], []⟩), .int 1] := by unfold q9h; rw [if_neg (by rw [qma]; omega), qma]
 rw [e0] at hc
 rw [e9] at hd
 have hblk : ∀ i (hi : i < exF7.blocks.length), DLes (List.take 8 (List.drop (i * 8) [DV.int 0, .sl 6 1 fun i => List.take 6 (List.drop (i * 6) [DV.int 1, DV.int 0, DV.int 0, DV.lit (.int .u64 7), .str ⟨#[]⟩, .lit (.slice none 0 0)]), DV.int 3, DV.int 0, DV.int 0, .lit (.slice none 0 0), DV.int 0, .lit (.slice none 0 0)])) (qd exF7.blocks[i]) := by
  intro i hi
  obtain rfl := at07 hi
  refine ⟨DLe.refl _, z2f rfl fun k hk => ?_, DLe.refl _, DLe.refl _, DLe.refl _, q3d, DLe.refl _, q3d, trivial⟩
  obtain rfl := at07 hk
  exact ⟨DLe.refl _, DLe.refl _, DLe.refl _, DLe.refl _, DLe.refl _, q3d, trivial⟩
 refine q81 (ds := ?ds2) hc (by simp) (by simp) ?hd2 ?hle2 ?h2
 case hd2 => intro _; simp; rfl
 case hle2 =>
  intro _
  refine ⟨qle ⟨qjr rfl fun k hk => ?_, q4r, trivial⟩, q3d, DLe.refl _, trivial⟩
  obtain rfl := at07 hk
  exact ⟨DLe.refl _, DLe.refl _, DLe.refl _, qgo rfl hblk, trivial⟩
 simp
 refine q81 (ds := ?ds3) hd (by simp) (by simp) ?hd3 ?hle3 ?h3
 case hd3 => intro _; simp; rfl
 case hle3 =>
  intro _
  refine ⟨qle ⟨qjr rfl fun k hk => ?_, q4r, trivial⟩, q36 rfl fun k hk => ?_, DLe.refl _, trivial⟩
  ·obtain rfl := at07 hk
   exact ⟨DLe.refl _, DLe.refl _, DLe.refl _, qgo rfl hblk, trivial⟩
  ·obtain rfl := at07 hk
   rfl
 simp
 refine q4 (ds := [.agg (q8 exM7)]) _ (by simp) (by simp) (fun _ => by simp; rfl) (fun _ => qqj exM7 (qgf.1 z24).1) ?_
 have hfl : exM7.funcs.length = 1 := rfl
 simp [z5g, hfl]
theorem qqy {m : Module} {tags : List Int} {budget : Int} (h : qbr m tags = 0) : q9h m tags budget = .tup [.agg (q8 (runP m tags budget)), .int 0] := if_pos h
theorem qw9 {m : Module} {tags : List Int} {budget : Int} (h : ¬ qbr m tags = 0) : q9h m tags budget = .tup [.agg (q8 ⟨[], []⟩), .int (qbr m tags)] := if_neg h
def q7f : ACode :=
 (.seq (.reg [Ro 1 (.box true (Sv 0)), Ro 2 (.mv (.c (.slice none 0 0)))])
 (.seq (.reg [Ro 3 (.mv (.c (.slice none 0 0)))])
 (.seq (.seq (.reg [Ro 4 (.mv (Ci 0))])
 (.block 0
 (.loop (.seq (.seq (.reg [Ro 6 (Mv 4), Ro 7 (Fd 1 0), Ro 8 (Ld 7), Ro 9 (.len false (Sv 8)), Ro 10 (.bin .lss (Sv 6) (Sv 9))])
 (.cond (Sv 10)
 .skip
 (.exit 0)))
 (.seq (.block 1
 (.seq (.reg [Ro 13 (Fd 1 0), Ro 14 (Ld 13), Ro 15 (Mv 4), Ro 16 (.idx true (Sv 14) (Sv 15) 4), Ro 17 (Fd 16 1), Ro 18 (Ld 17), Ro 19 (.bin .eql (Sv 18) (Ci 2)), Ro 20 (Mv 19), Rg 21 20 false (Fd 1 0), Rg 22 20 false (Ld 21), Rg 23 20 false (Mv 4), Rg 24 20 false (.idx true (Sv 22) (Sv 23) 4), Rg 25 20 false (Fd 24 0), Rg 26 20 false (Ld 25), Rg 27 20 false (.bin .eql (Sv 26) (.c (.string ⟨#[109, 97, 105, 110]⟩))), Ro 28 (.pick (Sv 20) (.c (.bool true)) (Sv 27))])
 (.cond (Sv 28)
 (.reg [Ro 29 (Mv 3), Ro 30 (Fd 1 0), Ro 31 (Ld 30), Ro 32 (Mv 4), Ro 33 (.idx true (Sv 31) (Sv 32) 4), Ro 34 (Fd 33 0), Ro 35 (Ld 34), Ro 36 (.mksl 1 1 [(.string ⟨#[]⟩)] [(0, 1, (Sv 35))]), Ro 37 (.app 9 1 16 (Sv 29) (Sv 36)), Ro 3 (Mv 37)])
 .skip)))
 (.reg [Ro 11 (Mv 4), Ro 12 (.bin .add (Sv 11) (Ci 1)), Ro 4 (Mv 12)]))))))
 (.seq (.seq (.reg [Ro 5 (.mv (Ci 0))])
 (.block 2
 (.loop (.seq (.seq (.reg [Ro 38 (Mv 5), Ro 39 (Fd 1 1), Ro 40 (Ld 39), Ro 41 (.len false (Sv 40)), Ro 42 (.bin .lss (Sv 38) (Sv 41))])
 (.cond (Sv 42)
 .skip
 (.exit 2)))
 (.seq (.block 3
 (.seq (.reg [Ro 45 (Fd 1 1), Ro 46 (Ld 45), Ro 47 (Mv 5), Ro 48 (.idx true (Sv 46) (Sv 47) 4), Ro 49 (Fd 48 1), Ro 50 (Ld 49), Ro 51 (.bin .eql (Sv 50) (Ci 2))])
 (.cond (Sv 51)
 (.reg [Ro 52 (Mv 3), Ro 53 (Fd 1 1), Ro 54 (Ld 53), Ro 55 (Mv 5), Ro 56 (.idx true (Sv 54) (Sv 55) 4), Ro 57 (Fd 56 0), Ro 58 (Ld 57), Ro 59 (.mksl 1 1 [(.string ⟨#[]⟩)] [(0, 1, (Sv 58))]), Ro 60 (.app 9 1 16 (Sv 52) (Sv 59)), Ro 3 (Mv 60)])
 .skip)))
 (.reg [Ro 43 (Mv 5), Ro 44 (.bin .add (Sv 43) (Ci 1)), Ro 5 (Mv 44)]))))))
 (.seq (.reg [Ro 61 (Mv 3), Ro 2 (Mv 61)])
 .ret)))))
def q7s : List ARes := [(.tmp (sl 2))]
theorem qdw : (Tryz.f47).body.bind (q9 Tryz.prog 8 (Tryz.f47).ntmps [2, 3, 29, 37, 52, 60, 61] [] (drOk 8)) = some q7f := by kernel_rfl
theorem qe9 : qa Tryz.prog 8 (Tryz.f47).results.toList = some q7s := by kernel_rfl
def q8j : ACode :=
 (.seq (.reg [Ro 1 (.box true (Sv 0)), Ro 2 (.new [(.slice none 0 0), (.slice none 0 0)])])
 (.seq (.reg [Rl 9 (Lk 1 2) 0, Rl 10 (Lk 1 2) 1, Rl 11 (.call true (.f 47) [Sv 10]) 2, Rl 12 (.call true (.f 46) [Sv 9, Sv 11]) 3, Rl 3 (Mv 12) 4])
 (.seq (.reg [Ro 13 (.bld [(.slice none 0 0), (.slice none 0 0)] []), Ro 4 (.new [(.slice none 0 0), (.slice none 0 0)]), Rn (.ini 1 (Sv 4) (Sv 13) 2)])
 (.seq (.seq (.reg [Ro 5 (.mv (Ci 0))])
 (.block 0
 (.loop (.seq (.seq (.reg [Ro 14 (Mv 5), Ro 15 (Fd 1 0), Ro 16 (Ld 15), Ro 17 (.len false (Sv 16)), Ro 18 (.bin .lss (Sv 14) (Sv 17))])
 (.cond (Sv 18)
 .skip
 (.exit 0)))
 (.seq (.block 1
 (.seq (.reg [Ro 21 (Mv 3), Ro 22 (Fd 1 0), Ro 23 (Ld 22), Ro 24 (Mv 5), Ro 25 (.idx true (Sv 23) (Sv 24) 4), Ro 26 (Fd 25 0), Ro 27 (Ld 26), Ro 28 (.call true (.f 48) [Sv 21, Sv 27]), Ro 6 (Mv 28)])
 (.seq (.reg [Ro 29 (Mv 6)])
 (.cond (Sv 29)
 (.reg [Rl 30 (Fd 4 0) 0, Rl 31 (.ld false (Sv 30) none) 1, Rl 32 (Fd 1 0) 2, Rl 33 (Ld 32) 3, Rl 34 (Mv 5) 4, Rl 35 (.idx true (Sv 33) (Sv 34) 4) 5, Rl 36 (Lk 35 4) 6, Rl 37 (.mksl 4 1 [(.string ⟨#[]⟩), (.int .i64 0), (.int .i64 0), (.slice none 0 0)] [(0, 4, (Sv 36))]) 7, Rl 38 (.app 61 4 56 (Sv 31) (Sv 37)) 8, Rl 39 (Fd 4 0) 9, ⟨none, none, (.st (Sv 39) (Sv 38) 1), (some (10, []))⟩])
 .skip))))
 (.reg [Ro 19 (Mv 5), Ro 20 (.bin .add (Sv 19) (Ci 1)), Ro 5 (Mv 20)]))))))
 (.seq (.seq (.reg [Ro 7 (.mv (Ci 0))])
 (.block 2
 (.loop (.seq (.seq (.reg [Ro 40 (Mv 7), Ro 41 (Fd 1 1), Ro 42 (Ld 41), Ro 43 (.len false (Sv 42)), Ro 44 (.bin .lss (Sv 40) (Sv 43))])
 (.cond (Sv 44)
 .skip
 (.exit 2)))
 (.seq (.block 3
 (.seq (.reg [Ro 47 (Mv 3), Ro 48 (Fd 1 1), Ro 49 (Ld 48), Ro 50 (Mv 7), Ro 51 (.idx true (Sv 49) (Sv 50) 4), Ro 52 (Fd 51 0), Ro 53 (Ld 52), Ro 54 (.call true (.f 48) [Sv 47, Sv 53]), Ro 8 (Mv 54)])
 (.seq (.reg [Ro 55 (Mv 8)])
 (.cond (Sv 55)
 (.reg [Rl 56 (Fd 4 1) 0, Rl 57 (.ld false (Sv 56) none) 1, Rl 58 (Fd 1 1) 2, Rl 59 (Ld 58) 3, Rl 60 (Mv 7) 4, Rl 61 (.idx true (Sv 59) (Sv 60) 4) 5, Rl 62 (Lk 61 4) 6, Rl 63 (.mksl 4 1 [(.string ⟨#[]⟩), (.int .i64 0), (.bool false), (.int .u64 0)] [(0, 4, (Sv 62))]) 7, Rl 64 (.app 64 4 40 (Sv 57) (Sv 63)) 8, Rl 65 (Fd 4 1) 9, ⟨none, none, (.st (Sv 65) (Sv 64) 1), (some (10, []))⟩])
 .skip))))
 (.reg [Ro 45 (Mv 7), Ro 46 (.bin .add (Sv 45) (Ci 1)), Ro 7 (Mv 46)]))))))
 (.seq (.reg [Ro 66 (.ld false (Sv 4) (some 2)), Rn (.st (Sv 2) (Sv 66) 2)])
 .ret))))))
def q99 : List ARes := [(.cell (sl 2) (some 2))]
theorem qfn : (Tryz.f28).body.bind (q9 Tryz.prog 8 (Tryz.f28).ntmps [2, 4, 30, 31, 38, 39, 56, 57, 64, 65, 66] [] (drOk 8)) = some q8j := by kernel_rfl
theorem qg5 : qa Tryz.prog 8 (Tryz.f28).results.toList = some q99 := by kernel_rfl
end Go.Proofs.YtgadlpdbkohlbaaGreat
