/- The laws of plain functions, in a round of a range over a function as well: what an operation does there is what it does everywhere. -/
import Derived.Test.YtghlfjpmpalpdaaBase
import Derived.OrdersIn
import Derived.TacticsIn
import Derived.RangeFuncNested
namespace Go.Proofs.Ytghlfjpmpalpdaa
open Go.RowKit

/-- The widest fence: of activations (none), or of rounds of loop number l (some l). -/
def FW (ro : Option Nat) : Fence := { fn := fun _ => True, depth := none, alive := false, round := ro }
theorem FW_none : FW none = Fence.wide := rfl

section
variable {P : Program} {ro : Option Nat} {n : Nat} {ops : Array Oper} {Q : Exit → Act → World → Prop} {o : Oper} {a : Act} {w : World} {K : Act → World → Prop}

theorem callsIn_fw {f : FuncId} {args : Array Value} {R : Ending → World → Prop} (h : Calls P f args w R) : CallsIn (FW ro) n P f args w R := (callsIn_wide.2 h : CallsIn Fence.wide n P f args w R)
theorem callsIn_fw_iff {f : FuncId} {args : Array Value} {R : Ending → World → Prop} : CallsIn (FW ro) n P f args w R ↔ Calls P f args w R := ⟨fun h => callsIn_wide.1 (h : CallsIn Fence.wide n P f args w R), callsIn_fw⟩
theorem rowsIn_fw {row : String} {args : Array Value} {R : Value → World → Prop} (h : Rows P row args w R) : RowsIn (FW ro) n P row args w R :=
  fun c cs _ => let ⟨v, w', r, s⟩ := h c cs; ⟨v, w', r, (stepsIn_wide.2 s : StepsIn (Machine.fenced P Fence.wide) P _ _)⟩

theorem oper_in (hnd : ∀ c, o.op ≠ .defer c) (h : o.wp P a w K Q) : o.wpIn (FW ro) n P a w K Q := by
  refine ⟨fun _ _ => trivial, ?_⟩
  rw [Oper.semAt_eq _ _ _ hnd]
  unfold Oper.wp at h
  generalize (execOp a.eval o).run P w = r at h
  cases r with
  | ok x w' =>
    cases x <;> simp only [Oper.upon] at h <;> simp only [Oper.uponIn] <;>
      first
        | exact h
        | exact ⟨fun h => (by cases h), callsIn_fw h⟩
        | exact ⟨fun h => (by cases h), rowsIn_fw h⟩
        | exact h.elim
  | halt x w' => cases x <;> simp only [Oper.upon] at h <;> simp only [Oper.uponIn] <;> first | exact h | exact h.elim

theorem wpOpIn_of {i : Nat} (hnd : ∀ o, ops[i]? = some o → ∀ c, o.op ≠ .defer c) (hlo : ¬ LetsOut Q) (h : wpOp P ops Q i K a w) : wpOpIn (FW ro) n P ops Q i K a w := by
  unfold wpOp at h
  unfold wpOpIn
  cases ho : ops[i]? with
  | none => rw [ho] at h; exact h
  | some o =>
    rw [ho] at h
    simp only at h ⊢
    split
    · rename_i hw
      rw [if_pos hw] at h
      rcases h with h | h
      · exact oper_in (hnd o ho) h
      · exact absurd h.2 hlo
    · rename_i hw
      rw [if_neg hw] at h
      exact ⟨fun _ _ => trivial, h⟩

theorem wpOpsIn_of (hnd : ∀ (i : Nat) (o : Oper), ops[i]? = some o → ∀ c, o.op ≠ .defer c) (hlo : ¬ LetsOut Q) : ∀ (l : List Nat) (a : Act) (w : World), wpOps P ops Q l a w → wpOpsIn (FW ro) n P ops Q l a w
  | [], _, _, h => h
  | i :: l, a, w, h => by
    rw [wpOps_cons] at h
    rw [wpOpsIn_cons]
    exact wpOpIn_mono (fun a w => wpOpsIn_of hnd hlo l a w) (wpOpIn_of (hnd i) hlo h)

theorem wpAnyIn_of (hnd : ∀ (i : Nat) (o : Oper), ops[i]? = some o → ∀ c, o.op ≠ .defer c) (hlo : ¬ LetsOut Q) {md : Region.Mode} : ∀ (fuel : Nat) (listed : Array Bool) (a : Act) (w : World), wpAny P md ops Q fuel listed a w → wpAnyIn (FW ro) n P md ops Q fuel listed a w
  | 0, _, _, _, h => h
  | fuel + 1, _, _, _, h => ⟨h.1, fun i hi => wpOpIn_mono (fun a w => wpAnyIn_of hnd hlo fuel _ a w) (wpOpIn_of (hnd i) hlo (h.2 i hi))⟩

/-- No operation defers a call. -/
def noDefer (ops : Array Oper) : Bool := ops.toList.all fun o => match o.op with | .defer _ => false | _ => true
theorem noDefer_at (h : noDefer ops = true) : ∀ (i : Nat) (o : Oper), ops[i]? = some o → ∀ c, o.op ≠ .defer c := by
  intro i o ho c hc
  have := List.all_eq_true.1 h o (by simpa using Array.mem_of_getElem? ho)
  rw [hc] at this
  cases this

end

end Go.Proofs.Ytghlfjpmpalpdaa
