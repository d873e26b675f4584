/- Contract of slices.Grow of nil, at instructions: an empty row of its own making. -/
import Derived.Test.YtndpejmebhcaaaaKF
import Derived.Lib.AppendZeros
import Derived.Laws.AppendOwnNone
namespace Go.Proofs.Ytndpejmebhcaaaa
open Go.RowKit

theorem info_inst : (Try.prog.info? 74).map (fun i => (i.zero, i.size, i.bytes)) = some (some (.agg #[.int .i64 0, .int .i64 0, .int .i64 0, .int .u64 0, .string ⟨#[]⟩, .slice none 0 0]), 6, 72) := by kernel_rfl

theorem body_grow : HasBody Try.prog 103 := by
  cases hb : (Try.f103).body with
  | none => cases hb
  | some c => exact ⟨_, c, Try.func103, by kernel_rfl, hb⟩

set_option maxHeartbeats 1000000 in
set_option maxRecDepth 100000 in
theorem grow_own (n : Nat) (hn : n ≤ 1000) :
    AOwn Try.prog 103 [.lit (.slice none 0 0), .int n] 74 6 0 (fun _ => []) := by
  refine ⟨body_grow, fun X w vs _ hvs => ?_⟩
  obtain ⟨l⟩ := vs
  have hvs' : DReps X w l [.lit (.slice none 0 0), .int n] := hvs
  obtain ⟨v1, l1, rfl, h1, h2⟩ := hvs'.uncons
  obtain ⟨v2, l2, rfl, h3, h4⟩ := h2.uncons
  obtain rfl := h4.unnil
  cases h1
  cases h3
  clear h2 h4 hvs hvs'
  by_cases h0 : n = 0
  · subst h0
    go_enter Try.func103, Try.ntmps103
    go_wp2_with fail
    go_ret
    exact ⟨Ext.refl _, _, rfl, fun _ => [], by simpa using World.ownsRow_nil _ _ _ _, fun i hi => by omega⟩
  · obtain ⟨i0, hi, hz0, hz1, hz2⟩ := info_parts info_inst
    have hpos : 0 < n := by omega
    have hzr := Lib.run_append_nil_zeros (P := Try.prog) w 33 3 33 74 i0 _ .i64 .i64 Try.underlying33 Try.underlying3 hi hz0 n hpos (by omega) (by omega) (by rw [hz2]; omega)
    go_enter Try.func103, Try.ntmps103
    go_wp2_with (at_builtin; refine Lib.wpList_append_run _ rfl _ _ _ _ rfl _ _ rfl rfl _ _ hzr ?_)
    go_ret
    have hge := grownCap_ge w n 0 74
    have hle := grownCap_le_maxLen w n 0 74 (by unfold maxLen; omega)
    refine ⟨(Ext.drew w).trans (Ext.alloc _ _), _, rfl, fun _ => [], ?_, fun i hi => by omega⟩
    refine ⟨by simp, .inr ⟨w.heap.size, _, _, rfl, Nat.le_refl _, heap_alloc_new w.drew _, Nat.zero_le _, hle, ?_, by simp⟩⟩
    rw [Array.size_append, size_zeroCells, size_zeroCells]
    show n * 6 + (_ - n) * 6 = _ * 6
    omega

end Go.Proofs.Ytndpejmebhcaaaa
