/- The bodies of some functions, as the evaluator has them (printed by program), and that they are the program's own. -/
import Derived.Test.YtpfokkfomgmibaaKE
namespace Go.Proofs.Ytpfokkfomgmibaa
open Go.RowKit

/-- (*marline/eval.run).back -/
def c___eval_run__back : ACode :=
  (.seq (.reg [⟨(some (sl 4)), none, (.mv (.c (.bool false))), none⟩])
  (.seq (.reg [⟨(some (sl 6)), none, (.mv (.s (sl 0))), (some (0, []))⟩, ⟨(some (sl 7)), none, (.mv (.s (sl 0))), (some (1, []))⟩, ⟨(some (sl 8)), none, (.nck (.s (sl 7))), (some (2, []))⟩, ⟨(some (sl 9)), none, (.fld (.s (sl 8)) 4), (some (3, []))⟩, ⟨(some (sl 10)), none, (.ld false (.s (sl 9)) none), (some (4, []))⟩, ⟨(some (sl 11)), none, (.mv (.s (sl 0))), (some (5, []))⟩, ⟨(some (sl 12)), none, (.nck (.s (sl 11))), (some (6, []))⟩, ⟨(some (sl 13)), none, (.fld (.s (sl 12)) 4), (some (7, []))⟩, ⟨(some (sl 14)), none, (.ld false (.s (sl 13)) none), (some (8, []))⟩, ⟨(some (sl 15)), none, (.len false (.s (sl 14))), (some (9, []))⟩, ⟨(some (sl 16)), none, (.bin .sub (.s (sl 15)) (.c (.int .i64 1))), (some (10, []))⟩, ⟨(some (sl 17)), none, (.vop 0 75 1 8 (.s (sl 10)) (.s (sl 16))), (some (11, []))⟩, ⟨(some (sl 18)), none, (.nck (.s (sl 6))), (some (12, []))⟩, ⟨(some (sl 19)), none, (.fld (.s (sl 18)) 4), (some (13, []))⟩, ⟨none, none, (.st (.s (sl 19)) (.s (sl 17)) 1), (some (14, []))⟩])
  (.seq (.seq (.reg [⟨(some (sl 20)), none, (.mv (.s (sl 0))), none⟩, ⟨(some (sl 21)), none, (.nck (.s (sl 20))), none⟩, ⟨(some (sl 22)), none, (.fld (.s (sl 21)) 4), none⟩, ⟨(some (sl 23)), none, (.ld false (.s (sl 22)) none), none⟩, ⟨(some (sl 24)), none, (.len false (.s (sl 23))), none⟩, ⟨(some (sl 25)), none, (.bin .eql (.s (sl 24)) (.c (.int .i64 0))), none⟩])
  (.cond (.s (sl 25))
  (.seq (.reg [⟨(some (sl 26)), none, (.mv (.s (sl 0))), none⟩, ⟨(some (sl 27)), none, (.mv (.s (sl 0))), none⟩, ⟨(some (sl 28)), none, (.mv (.s (sl 1))), none⟩, ⟨(some (sl 29)), none, (.nck (.s (sl 26))), none⟩, ⟨(some (sl 30)), none, (.fld (.s (sl 29)) 5), none⟩, ⟨(some (sl 31)), none, (.fld (.s (sl 30)) 0), none⟩, ⟨none, none, (.st (.s (sl 31)) (.c (.bool true)) 1), none⟩, ⟨(some (sl 32)), none, (.nck (.s (sl 27))), none⟩, ⟨(some (sl 33)), none, (.fld (.s (sl 32)) 5), none⟩, ⟨(some (sl 34)), none, (.fld (.s (sl 33)) 1), none⟩, ⟨none, none, (.st (.s (sl 34)) (.s (sl 28)) 1), none⟩])
  (.seq (.reg [⟨(some (sl 4)), none, (.mv (.c (.bool false))), none⟩])
  .ret))
  .skip))
  (.seq (.reg [⟨(some (sl 35)), none, (.mv (.s (sl 0))), (some (0, []))⟩, ⟨(some (sl 36)), none, (.nck (.s (sl 35))), (some (1, []))⟩, ⟨(some (sl 37)), none, (.fld (.s (sl 36)) 4), (some (2, []))⟩, ⟨(some (sl 38)), none, (.ld false (.s (sl 37)) none), (some (3, []))⟩, ⟨(some (sl 39)), none, (.mv (.s (sl 0))), (some (4, []))⟩, ⟨(some (sl 40)), none, (.nck (.s (sl 39))), (some (5, []))⟩, ⟨(some (sl 41)), none, (.fld (.s (sl 40)) 4), (some (6, []))⟩, ⟨(some (sl 42)), none, (.ld false (.s (sl 41)) none), (some (7, []))⟩, ⟨(some (sl 43)), none, (.len false (.s (sl 42))), (some (8, []))⟩, ⟨(some (sl 44)), none, (.bin .sub (.s (sl 43)) (.c (.int .i64 1))), (some (9, []))⟩, ⟨(some (sl 45)), none, (.idx false (.s (sl 38)) (.s (sl 44)) 1), (some (10, []))⟩, ⟨(some (sl 46)), none, (.ld false (.s (sl 45)) none), (some (11, []))⟩, ⟨(some (sl 5)), none, (.mv (.s (sl 46))), (some (12, []))⟩])
  (.seq (.reg [⟨(some (sl 47)), none, (.mv (.s (sl 5))), none⟩, ⟨(some (sl 48)), none, (.mv (.s (sl 5))), none⟩, ⟨(some (sl 49)), none, (.nck (.s (sl 48))), none⟩, ⟨(some (sl 50)), none, (.fld (.s (sl 49)) 6), none⟩, ⟨(some (sl 51)), none, (.ld false (.s (sl 50)) none), none⟩, ⟨(some (sl 52)), none, (.mv (.s (sl 1))), none⟩, ⟨(some (sl 53)), none, (.mksl 1 1 [(.int .u64 0)] [(0, 1, (.s (sl 52)))]), none⟩, ⟨(some (sl 54)), none, (.app 29 1 8 (.s (sl 51)) (.s (sl 53))), none⟩, ⟨(some (sl 55)), none, (.nck (.s (sl 47))), none⟩, ⟨(some (sl 56)), none, (.fld (.s (sl 55)) 6), none⟩, ⟨none, none, (.st (.s (sl 56)) (.s (sl 54)) 1), none⟩])
  (.seq (.reg [⟨(some (sl 4)), none, (.mv (.c (.bool true))), none⟩])
  .ret))))))
def r___eval_run__back : List ARes := [(.tmp (sl 4))]
theorem t___eval_run__back : (Try.f21).body.bind (trCode Try.prog 8 (Try.f21).ntmps [0, 5, 6, 7, 8, 9, 10, 11, 12, 13, 14, 17, 18, 19, 20, 21, 22, 23, 26, 27, 29, 30, 31, 32, 33, 34, 35, 36, 37, 38, 39, 40, 41, 42, 45, 46, 47, 48, 49, 50, 51, 54, 55, 56] [(24, 29, 1), (19, 0, 0), (20, 0, 0), (21, 0, 0), (22, 0, 0), (23, 0, 0), (6000017, 0, 1)] (drOk 8)) = some c___eval_run__back := by kernel_rfl
theorem u___eval_run__back : trRess Try.prog 8 (Try.f21).results.toList = some r___eval_run__back := by kernel_rfl

end Go.Proofs.Ytpfokkfomgmibaa
