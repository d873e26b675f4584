/- The bodies of some functions, as the evaluator has them (printed by program), and that they are the program's own. -/
import Derived.Test.YtpfokkfomgmibaaKE
namespace Go.Proofs.Ytpfokkfomgmibaa
open Go.RowKit

/-- marline/eval.Whole$1 -/
def c_eval_Whole_1_w : ACode :=
  (.seq (.reg [⟨(some (sl 3)), none, (.mv (.c (.bool false))), none⟩])
  (.seq (.reg [⟨(some (sl 4)), none, (.ld false (.s (sl 1)) none), none⟩, ⟨(some (sl 5)), none, (.mv (.s (sl 0))), none⟩, ⟨(some (sl 6)), none, (.mget (.s (sl 4)) (.s (sl 5)) false .string (.bool false)), none⟩, ⟨(some (sl 7)), none, (.not (.s (sl 6))), none⟩, ⟨(some (sl 3)), none, (.mv (.s (sl 7))), none⟩])
  .ret))
def r_eval_Whole_1_w : List ARes := [(.tmp (sl 3))]
theorem t_eval_Whole_1_w : (Try.f30).body.bind (trCode Try.prog 8 (Try.f30).ntmps [1, 4] [(45, 0, 0), (1000011, 0, 0)] (drOk 8)) = some c_eval_Whole_1_w := by kernel_rfl
theorem u_eval_Whole_1_w : trRess Try.prog 8 (Try.f30).results.toList = some r_eval_Whole_1_w := by kernel_rfl

/-- slices.ContainsFunc[[]string,string] -/
def c_slices_ContainsFunc___string_string__w : ACode :=
  (.seq (.reg [⟨(some (sl 4)), none, (.mv (.c (.bool false))), none⟩])
  (.seq (.reg [⟨(some (sl 5)), none, (.mv (.s (sl 0))), none⟩, ⟨(some (sl 6)), none, (.mv (.s (sl 1))), none⟩, ⟨(some (sl 7)), none, (.calle (.f 45) [(.s (sl 5)), (.s (sl 6))]), none⟩, ⟨(some (sl 8)), none, (.bin .geq (.s (sl 7)) (.c (.int .i64 0))), none⟩, ⟨(some (sl 4)), none, (.mv (.s (sl 8))), none⟩])
  .ret))
def r_slices_ContainsFunc___string_string__w : List ARes := [(.tmp (sl 4))]
theorem t_slices_ContainsFunc___string_string__w : (Try.f28).body.bind (trCode Try.prog 8 (Try.f28).ntmps [1, 6, 7] [(45, 0, 0), (1000011, 0, 0)] (drOk 8)) = some c_slices_ContainsFunc___string_string__w := by kernel_rfl
theorem u_slices_ContainsFunc___string_string__w : trRess Try.prog 8 (Try.f28).results.toList = some r_slices_ContainsFunc___string_string__w := by kernel_rfl

/-- slices.IndexFunc[[]string,string] -/
def c_slices_IndexFunc___string_string__w : ACode :=
  (.seq (.reg [⟨(some (sl 4)), none, (.mv (.c (.int .i64 0))), none⟩])
  (.seq (.seq (.reg [⟨(some (sl 6)), none, (.mv (.s (sl 0))), none⟩, ⟨(some (sl 7)), none, (.len false (.s (sl 6))), none⟩, ⟨(some (sl 8)), none, (.mv (.c (.int .i64 0))), none⟩])
  (.block 0
  (.loop (.seq (.reg [⟨(some (sl 9)), none, (.bin .lss (.s (sl 8)) (.s (sl 7))), none⟩])
  (.seq (.cond (.s (sl 9))
  .skip
  (.exit 0))
  (.seq (.block 1
  (.seq (.reg [⟨(some (sl 10)), none, (.mv (.s (sl 8))), none⟩, ⟨(some (sl 5)), none, (.mv (.s (sl 10))), none⟩])
  (.seq (.reg [⟨(some (sl 11)), none, (.mv (.s (sl 1))), none⟩, ⟨(some (sl 12)), none, (.mv (.s (sl 0))), none⟩, ⟨(some (sl 13)), none, (.mv (.s (sl 5))), none⟩, ⟨(some (sl 14)), none, (.idx true (.s (sl 12)) (.s (sl 13)) 1), none⟩, ⟨(some (sl 15)), none, (.ld true (.s (sl 14)) none), none⟩, ⟨(some (sl 16)), none, (.calle (.s (sl 11)) [(.s (sl 15))]), none⟩])
  (.cond (.s (sl 16))
  (.seq (.reg [⟨(some (sl 17)), none, (.mv (.s (sl 5))), none⟩, ⟨(some (sl 4)), none, (.mv (.s (sl 17))), none⟩])
  .ret)
  .skip))))
  (.reg [⟨(some (sl 18)), none, (.bin .add (.s (sl 8)) (.c (.int .i64 1))), none⟩, ⟨(some (sl 8)), none, (.mv (.s (sl 18))), none⟩])))))))
  (.seq (.reg [⟨(some (sl 4)), none, (.mv (.c (.int .i64 (-1)))), none⟩])
  .ret)))
def r_slices_IndexFunc___string_string__w : List ARes := [(.tmp (sl 4))]
theorem t_slices_IndexFunc___string_string__w : (Try.f45).body.bind (trCode Try.prog 8 (Try.f45).ntmps [1, 11] [(45, 0, 0), (1000011, 0, 0)] (drOk 8)) = some c_slices_IndexFunc___string_string__w := by kernel_rfl
theorem u_slices_IndexFunc___string_string__w : trRess Try.prog 8 (Try.f45).results.toList = some r_slices_IndexFunc___string_string__w := by kernel_rfl

end Go.Proofs.Ytpfokkfomgmibaa
