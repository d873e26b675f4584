/- Layer 11's example: a function that calls one, or none. -/
import Derived.Test.YtifinpijhbkhnaaKF
import Derived.Test.YtifinpijhbkhnaaF1
namespace Go.Proofs.Ytifinpijhbkhnaa
open Go.RowKit

def exI (c : ByteArray) : Inst := if c.toList == [] then ⟨1, 0, 0, 0, ⟨#[]⟩, []⟩ else ⟨14, 0, 0, 0, c, []⟩
def exF (s : ByteArray) (bind : Int) (c : ByteArray) : Func := ⟨s, bind, 0, [⟨0, [exI c], 3, 0, 0, [], 0, []⟩]⟩

/-- The worlds in which an instruction, and then a block, was laid. -/
theorem ex_rep {X : Nat → Nat → Prop} {w : World} (hX : ∀ b o, X b o → b < w.heap.size) (s c : ByteArray) (bind : Int) (o1 o2 : Obj) (t1 t2 : TypeId) {vs : List Value} (hi : DReps X (w.alloc o1) vs (instC (exI c))) :
    let w2 := (w.alloc o1).alloc (.cells vs.toArray t1)
    let w3 := w2.alloc o2
    let w4 := w3.alloc (.cells #[.int .i64 0, .slice (some ⟨w.heap.size + 1, 0, none⟩) 1 1, .int .i64 3, .int .i64 0, .int .i64 0, .slice none 0 0, .int .i64 0, .slice none 0 0] t2)
    DRep X w4 (.agg #[.string s, .int .i64 bind, .int .i64 0, .slice (some ⟨w.heap.size + 1 + 1 + 1, 0, none⟩) 1 1]) (.agg (funcC (exF s bind c))) := by
  intro w2 w3 w4
  have hX1 : ∀ b o, X b o → b < (w.alloc o1).heap.size := fun b o h => by have := hX b o h; simp; omega
  have e1 : (w.alloc o1).heap.size = w.heap.size + 1 := by simp
  have h1 := Rep.newRow (w := w.alloc o1) hX1 (arr := vs.toArray) (t := t1) (ds := instC (exI c)) (n := 6) (len := 1) (by simpa using hi) rfl (by decide)
  rw [e1] at h1
  have hX3 : ∀ b o, X b o → b < w3.heap.size := fun b o h => by have := hX b o h; simp [w3, w2]; omega
  have e3 : w3.heap.size = w.heap.size + 1 + 1 + 1 := by simp [w3, w2]
  have h2 := Rep.newRow (w := w3) hX3 (arr := #[.int .i64 0, .slice (some ⟨w.heap.size + 1, 0, none⟩) 1 1, .int .i64 3, .int .i64 0, .int .i64 0, .slice none 0 0, .int .i64 0, .slice none 0 0]) (t := t2) (ds := blockC ⟨0, [exI c], 3, 0, 0, [], 0, []⟩) (n := 8) (len := 1)
    (.cons (.lit _) (.cons ((insD_le (xs := [exI c]) rfl fun i hi => by
      obtain rfl : i = 0 := by simpa using hi
      simp [instC]) _ _ _ (h1.ext (Ext.alloc _ o2))) (.cons (.lit _) (.cons (.lit _) (.cons (.lit _) (.cons (.nil _ _) (.cons (.lit _) (.cons (.nil _ _) (.nil _ _))))))))) rfl (by decide)
  rw [e3] at h2
  have h3 := DReps.cons (.lit (.string s)) (.cons (.lit (.int .i64 bind)) (.cons (.lit (.int .i64 0)) (.cons ((blocksD_le (xs := [⟨0, [exI c], 3, 0, 0, [], 0, []⟩]) rfl fun i hi => by
      obtain rfl : i = 0 := by simpa using hi
      simp [blockC]) _ _ _ h2) (.nil _ _))))
  exact .agg _ _ h3.1 h3.2

theorem results_cell {P : Program} {w : World} {fn : Go.Func} {ad : Tmp} {t : TypeId} {b : Nat} {tmps : Array Value} {vs : List Value} {fs : Array Field} (hr : fn.results = #[ResultVar.cell ad t]) (h1 : tmps.getD ad undef = .pointer (some ⟨b, 0, none⟩))
    (hu : P.underlying t = some (.struct fs)) (hz : ∀ w, (Go.sizeOf t).run P w = .ok vs.length w) (hc : ∀ j u, vs[j]? = some u → w.cell? ⟨b, 0 + j, none⟩ = some u) : (results fn tmps).run P w = .ok (.agg vs.toArray) w := by
  have h := run_loadCells_list (P := P) (w := w) ⟨b, 0, none⟩ vs (fun j u hj => by rw [addr_add]; exact hc j u hj)
  have hl : (loadVar t ⟨b, 0, none⟩).run P w = .ok (.agg vs.toArray) w := by
    simp [loadVar, isAgg, run_underlying hu, hz, h]
  have h2 : (results fn tmps).run P w = (do loadVar t (← asAddr (tmps.getD ad undef)) : Sem Value).run P w := by simp [results, hr]
  rw [h2, h1]
  simp [asAddr, hl]

set_option maxRecDepth 100000 in
theorem fun_pure (s c : ByteArray) (bind : Int) : APure Try.prog 45 [.str s, .int bind, .str c] (.agg (funcC (exF s bind c))) := by
  refine ⟨⟨_, _, Try.func45, by kernel_rfl, rfl⟩, fun X w vs hX hvs => ?_⟩
  obtain ⟨a0, r0, e0, h0, k0⟩ := hvs.uncons
  obtain ⟨a1, r1, rfl, h1, k1⟩ := k0.uncons
  obtain ⟨a2, r2, rfl, h2, k2⟩ := k1.uncons
  obtain rfl := k2.unnil
  cases h0
  cases h1
  cases h2
  obtain rfl : vs = #[.string s, .int .i64 bind, .string c] := Array.toList_inj.1 e0
  clear e0 k0 k1 k2 hvs
  cases h : (c.toList == []) with
  | false =>
    have hr := ex_rep hX s c bind (.cells #[.string s, .int .i64 bind, .int .i64 0, .slice (some ⟨w.heap.size + 1 + 1 + 1, 0, none⟩) 1 1] 43) (.cells #[.int .i64 0, .slice (some ⟨w.heap.size + 1, 0, none⟩) 1 1, .int .i64 3, .int .i64 0, .int .i64 0, .slice none 0 0, .int .i64 0, .slice none 0 0] 78) 80 78 (vs := [.int .i64 14, .int .i64 0, .int .i64 0, .int .u64 0, .string c, .slice none 0 0])
      (by unfold exI; rw [h]; exact .cons (.lit _) (.cons (.lit _) (.cons (.lit _) (.cons (.lit _) (.cons (.lit _) (.cons (.nil _ _) (.nil _ _)))))))
    go_enter Try.func45, Try.ntmps45
    go_wp2
    refine bodyPost_ret (v := .agg #[.string s, .int .i64 bind, .int .i64 0, .slice (some ⟨w.heap.size + 1 + 1 + 1, 0, none⟩) 1 1]) ?_ rfl ?_
    · refine results_cell (b := w.heap.size) (ad := 6) (t := 43) (vs := [.string s, .int .i64 bind, .int .i64 0, .slice (some ⟨w.heap.size + 1 + 1 + 1, 0, none⟩) 1 1]) (by kernel_rfl) rfl Try.underlying43 Try.sizeOf43 (fun j u hj => ?_)
      refine (((Ext.alloc _ _).trans (Ext.alloc _ _)).trans (Ext.alloc _ _)).cell ?_
      rw [Nat.zero_add, World.cell?_alloc_new]
      simpa using hj
    exact ⟨(((Ext.alloc w _).trans (Ext.alloc _ _)).trans (Ext.alloc _ _)).trans (Ext.alloc _ _), _, rfl, hr⟩
  | true =>
    have hr := ex_rep hX s c bind (.cells #[.string s, .int .i64 bind, .int .i64 0, .slice (some ⟨w.heap.size + 1 + 1 + 1, 0, none⟩) 1 1] 43) (.cells #[.int .i64 0, .slice (some ⟨w.heap.size + 1, 0, none⟩) 1 1, .int .i64 3, .int .i64 0, .int .i64 0, .slice none 0 0, .int .i64 0, .slice none 0 0] 78) 80 78 (vs := [.int .i64 1, .int .i64 0, .int .i64 0, .int .u64 0, .string ⟨#[]⟩, .slice none 0 0])
      (by unfold exI; rw [h]; exact .cons (.lit _) (.cons (.lit _) (.cons (.lit _) (.cons (.lit _) (.cons (.lit _) (.cons (.nil _ _) (.nil _ _)))))))
    go_enter Try.func45, Try.ntmps45
    go_wp2
    refine bodyPost_ret (v := .agg #[.string s, .int .i64 bind, .int .i64 0, .slice (some ⟨w.heap.size + 1 + 1 + 1, 0, none⟩) 1 1]) ?_ rfl ?_
    · refine results_cell (b := w.heap.size) (ad := 6) (t := 43) (vs := [.string s, .int .i64 bind, .int .i64 0, .slice (some ⟨w.heap.size + 1 + 1 + 1, 0, none⟩) 1 1]) (by kernel_rfl) rfl Try.underlying43 Try.sizeOf43 (fun j u hj => ?_)
      refine (((Ext.alloc _ _).trans (Ext.alloc _ _)).trans (Ext.alloc _ _)).cell ?_
      rw [Nat.zero_add, World.cell?_alloc_new]
      simpa using hj
    exact ⟨(((Ext.alloc w _).trans (Ext.alloc _ _)).trans (Ext.alloc _ _)).trans (Ext.alloc _ _), _, rfl, hr⟩

end Go.Proofs.Ytifinpijhbkhnaa
