/- Contract by the evaluator: the first function of which something holds. -/
import Derived.Test.YtpfokkfomgmibaaLC
namespace Go.Proofs.Ytpfokkfomgmibaa
open Go.RowKit

/-- slices.IndexFunc[[]marline/api.Func,marline/api.Func] -/
def c_slices_IndexFunc___api_Func_api_Func_ : ACode :=
  (.seq (.reg [⟨(some (sl 4)), none, (.mv (.c (.int .i64 0))), none⟩])
  (.seq (.seq (.reg [⟨(some (sl 6)), none, (.mv (.s (sl 0))), none⟩, ⟨(some (sl 7)), none, (.len false (.s (sl 6))), none⟩, ⟨(some (sl 8)), none, (.mv (.c (.int .i64 0))), none⟩])
  (.block 0
  (.loop (.seq (.reg [⟨(some (sl 9)), none, (.bin .lss (.s (sl 8)) (.s (sl 7))), none⟩])
  (.seq (.cond (.s (sl 9))
  .skip
  (.exit 0))
  (.seq (.block 1
  (.seq (.reg [⟨(some (sl 10)), none, (.mv (.s (sl 8))), none⟩, ⟨(some (sl 5)), none, (.mv (.s (sl 10))), none⟩])
  (.seq (.reg [⟨(some (sl 11)), none, (.mv (.s (sl 1))), none⟩, ⟨(some (sl 12)), none, (.mv (.s (sl 0))), none⟩, ⟨(some (sl 13)), none, (.mv (.s (sl 5))), none⟩, ⟨(some (sl 14)), none, (.idx true (.s (sl 12)) (.s (sl 13)) 4), none⟩, ⟨(some (sl 15)), none, (.ld true (.s (sl 14)) (some 4)), none⟩, ⟨(some (sl 16)), none, (.call true (.s (sl 11)) [(.s (sl 15))]), none⟩])
  (.cond (.s (sl 16))
  (.seq (.reg [⟨(some (sl 17)), none, (.mv (.s (sl 5))), none⟩, ⟨(some (sl 4)), none, (.mv (.s (sl 17))), none⟩])
  .ret)
  .skip))))
  (.reg [⟨(some (sl 18)), none, (.bin .add (.s (sl 8)) (.c (.int .i64 1))), none⟩, ⟨(some (sl 8)), none, (.mv (.s (sl 18))), none⟩])))))))
  (.seq (.reg [⟨(some (sl 4)), none, (.mv (.c (.int .i64 (-1)))), none⟩])
  .ret)))
def r_slices_IndexFunc___api_Func_api_Func_ : List ARes := [(.tmp (sl 4))]
theorem t_slices_IndexFunc___api_Func_api_Func_ : (Try.f43).body.bind (trCode Try.prog 8 (Try.f43).ntmps [] [] (drOk 8)) = some c_slices_IndexFunc___api_Func_api_Func_ := by kernel_rfl
theorem u_slices_IndexFunc___api_Func_api_Func_ : trRess Try.prog 8 (Try.f43).results.toList = some r_slices_IndexFunc___api_Func_api_Func_ := by kernel_rfl
theorem indexF_pure (xs : List Func) (F : FuncId) (caps : List DV) (p : Func → Bool) (hF : ∀ v ∈ xs, APure Try.prog F (.agg (funcC v) :: caps) (.bool (p v))) : APure Try.prog 43 [funcsD xs, .fn F caps] (.int (findI p xs)) := by
  refine apureG _ _ Try.func43 (by kernel_rfl) t_slices_IndexFunc___api_Func_api_Func_ u_slices_IndexFunc___api_Func_api_Func_ rfl rfl (fun hx => len1 hx fun hl => ?_)
  clear hx
  simp [c_slices_IndexFunc___api_Func_api_Func_, r_slices_IndexFunc___api_Func_api_Func_]
  refine loop_s (κ := Nat) (fun k => k ≤ xs.length ∧ ∀ i (h : i < xs.length), i < k → p xs[i] = false) (fun k => xs.length - k) (fun k => [(sl 8, .int k)]) (fun _ => []) 0 0 (srcs []) (by simp) (by simp) ?_
  rintro k ⟨hk, hb⟩
  simp
  refine ⟨fun hlt => ⟨hlt, ?_⟩, fun hge => ?_⟩
  · rw [getD_some hlt]
    refine call_plain _ (by simp) (by simp) (fun _ => by simp) (fun _ => hF _ (List.getElem_mem hlt)) ?_
    simp
    refine ⟨fun h => DLe_int (findI_hit hlt hb h).symm, fun h => ?_⟩
    refine ⟨k + 1, ⟨by omega, fun i hi h1 => ?_⟩, by omega, srcs [], ?_⟩
    · rcases Nat.lt_or_ge i k with h2 | h2
      · exact hb i hi h2
      · obtain rfl : i = k := by omega
        exact h
    · simp [SLeK]
      exact DLe_int (wrap_succ (by omega))
  · exact DLe_int (findI_miss fun i hi => hb i hi (by omega)).symm

end Go.Proofs.Ytpfokkfomgmibaa
