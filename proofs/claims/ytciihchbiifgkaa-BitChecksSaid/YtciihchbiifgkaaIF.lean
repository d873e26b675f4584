/- Contract by the evaluator: the first function of which something holds. -/
import Derived.Test.YtciihchbiifgkaaLC
namespace Go.Proofs.Ytciihchbiifgkaa
open Go.RowKit

/-- slices.IndexFunc[[]marline/api.Func,marline/api.Func] -/
def c_slices_IndexFunc___api_Func_api_Func_ : ACode :=
  (.seq (.reg [⟨(some (sl 4)), none, (.mv (.c (.int .i64 0))), none⟩])
  (.seq (.seq (.reg [⟨(some (sl 6)), none, (.mv (.s (sl 0))), none⟩, ⟨(some (sl 7)), none, (.len false (.s (sl 6))), none⟩, ⟨(some (sl 8)), none, (.mv (.c (.int .i64 0))), none⟩])
  (.block 0
  (.loop (.seq (.reg [⟨(some (sl 9)), none, (.bin .lss (.s (sl 8)) (.s (sl 7))), none⟩])
  (.seq (.cond (.s (sl 9))
  .skip
  (.exit 0))
  (.seq (.block 1
  (.seq (.reg [⟨(some (sl 10)), none, (.mv (.s (sl 8))), none⟩, ⟨(some (sl 5)), none, (.mv (.s (sl 10))), none⟩])
  (.seq (.reg [⟨(some (sl 11)), none, (.mv (.s (sl 1))), none⟩, ⟨(some (sl 12)), none, (.mv (.s (sl 0))), none⟩, ⟨(some (sl 13)), none, (.mv (.s (sl 5))), none⟩, ⟨(some (sl 14)), none, (.idx true (.s (sl 12)) (.s (sl 13)) 4), none⟩, ⟨(some (sl 15)), none, (.ld true (.s (sl 14)) (some 4)), none⟩, ⟨(some (sl 16)), none, (.call true (.s (sl 11)) [(.s (sl 15))]), none⟩])
  (.cond (.s (sl 16))
  (.seq (.reg [⟨(some (sl 17)), none, (.mv (.s (sl 5))), none⟩, ⟨(some (sl 4)), none, (.mv (.s (sl 17))), none⟩])
  .ret)
  .skip))))
  (.reg [⟨(some (sl 18)), none, (.bin .add (.s (sl 8)) (.c (.int .i64 1))), none⟩, ⟨(some (sl 8)), none, (.mv (.s (sl 18))), none⟩])))))))
  (.seq (.reg [⟨(some (sl 4)), none, (.mv (.c (.int .i64 (-1)))), none⟩])
  .ret)))
def r_slices_IndexFunc___api_Func_api_Func_ : List ARes := [(.tmp (sl 4))]
end Go.Proofs.Ytciihchbiifgkaa
