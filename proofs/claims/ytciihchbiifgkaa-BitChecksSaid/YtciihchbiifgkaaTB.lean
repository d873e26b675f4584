/- The bodies of some functions, as the evaluator has them (printed by program), and that they are the program's own. -/
import Derived.Test.YtciihchbiifgkaaKE
namespace Go.Proofs.Ytciihchbiifgkaa
open Go.RowKit

/-- marline/bit.Bytes -/
def c_bit_Bytes : ACode :=
  (.seq (.reg [⟨(some (sl 1)), none, (.box true (.s (sl 0))), none⟩, ⟨(some (sl 2)), none, (.mv (.c (.string ⟨#[]⟩))), none⟩, ⟨(some (sl 3)), none, (.mv (.c (.int .i64 0))), none⟩])
  (.seq (.seq (.reg [⟨(some (sl 6)), none, (.ld true (.s (sl 1)) (some 2)), none⟩, ⟨(some (sl 7)), none, (.call true (.f 17) [(.s (sl 6))]), none⟩, ⟨(some (sl 4)), none, (.mv (.s (sl 7))), none⟩])
  (.seq (.reg [⟨(some (sl 8)), none, (.mv (.s (sl 4))), none⟩, ⟨(some (sl 9)), none, (.bin .neq (.s (sl 8)) (.c (.int .i64 0))), none⟩])
  (.cond (.s (sl 9))
  (.seq (.reg [⟨(some (sl 10)), none, (.mv (.s (sl 4))), none⟩, ⟨(some (sl 2)), none, (.mv (.c (.string ⟨#[]⟩))), none⟩, ⟨(some (sl 3)), none, (.mv (.s (sl 10))), none⟩])
  .ret)
  .skip)))
  (.seq (.reg [⟨(some (sl 11)), none, (.bld [(.pointer none), (.slice none 0 0)] []), none⟩, ⟨(some (sl 12)), none, (.boxo false (some 51) (.s (sl 11))), none⟩, ⟨(some (sl 5)), none, (.new [(.pointer none)]), none⟩, ⟨none, none, (.ini 1 (.s (sl 5)) (.s (sl 12)) 1), none⟩])
  (.seq (.reg [⟨(some (sl 13)), none, (.ld false (.s (sl 5)) none), none⟩, ⟨(some (sl 14)), none, (.nck (.s (sl 13))), none⟩, ⟨(some (sl 15)), none, (.fld (.s (sl 14)) 0), none⟩, ⟨(some (sl 16)), none, (.calle (.f 18) [(.s (sl 15)), (.c (.string ⟨#[77, 73, 82, 49]⟩))]), none⟩])
  (.seq (.reg [⟨(some (sl 17)), none, (.ld false (.s (sl 5)) none), none⟩, ⟨(some (sl 18)), none, (.fld (.s (sl 1)) 0), none⟩, ⟨(some (sl 19)), none, (.ld true (.s (sl 18)) none), none⟩, ⟨(some (sl 20)), none, (.mkfn 20 [(.s (sl 5))]), none⟩, ⟨(some (sl 21)), none, (.calle (.f 19) [(.s (sl 17)), (.s (sl 19)), (.s (sl 20))]), none⟩])
  (.seq (.reg [⟨(some (sl 22)), none, (.ld false (.s (sl 5)) none), none⟩, ⟨(some (sl 23)), none, (.fld (.s (sl 1)) 1), none⟩, ⟨(some (sl 24)), none, (.ld true (.s (sl 23)) none), none⟩, ⟨(some (sl 25)), none, (.mkfn 26 [(.s (sl 5))]), none⟩, ⟨(some (sl 26)), none, (.calle (.f 25) [(.s (sl 22)), (.s (sl 24)), (.s (sl 25))]), none⟩])
  (.seq (.seq (.reg [⟨(some (sl 27)), none, (.ld false (.s (sl 5)) none), none⟩, ⟨(some (sl 28)), none, (.nck (.s (sl 27))), none⟩, ⟨(some (sl 29)), none, (.fld (.s (sl 28)) 0), none⟩, ⟨(some (sl 30)), none, (.calle (.f 27) [(.s (sl 29))]), none⟩, ⟨(some (sl 31)), none, (.bin .gtr (.s (sl 30)) (.c (.int .i64 65535))), none⟩])
  (.cond (.s (sl 31))
  (.seq (.reg [⟨(some (sl 2)), none, (.mv (.c (.string ⟨#[]⟩))), none⟩, ⟨(some (sl 3)), none, (.mv (.c (.int .i64 4))), none⟩])
  .ret)
  .skip))
  (.seq (.reg [⟨(some (sl 32)), none, (.ld false (.s (sl 5)) none), none⟩, ⟨(some (sl 33)), none, (.nck (.s (sl 32))), none⟩, ⟨(some (sl 34)), none, (.fld (.s (sl 33)) 0), none⟩, ⟨(some (sl 35)), none, (.calle (.f 28) [(.s (sl 34))]), none⟩, ⟨(some (sl 2)), none, (.mv (.s (sl 35))), none⟩, ⟨(some (sl 3)), none, (.mv (.c (.int .i64 0))), none⟩])
  .ret))))))))
def r_bit_Bytes : List ARes := [(.tmp (sl 2)), (.tmp (sl 3))]
theorem t_bit_Bytes : (Try.f9).body.bind (trCode Try.prog 8 (Try.f9).ntmps [2, 5, 12, 13, 14, 15, 16, 17, 20, 21, 22, 25, 26, 27, 28, 29, 30, 32, 33, 34, 35] [(18, 0, 0), (54, 0, 0), (27, 0, 0), (28, 0, 0), (22, 0, 0), (21, 0, 0), (24, 0, 0), (56, 0, 0), (57, 0, 0), (78, 0, 0), (19, 0, 0), (23, 0, 0), (25, 0, 0), (55, 0, 0), (77, 0, 0), (20, 0, 0), (26, 0, 0), (5000012, 0, 0)] (drOk 8)) = some c_bit_Bytes := by kernel_rfl
theorem u_bit_Bytes : trRess Try.prog 8 (Try.f9).results.toList = some r_bit_Bytes := by kernel_rfl

/-- (*marline/bit.writer).row -/
def c___bit_writer__row : ACode :=
  (.seq (.reg [⟨(some (sl 2)), none, (.box false (.s (sl 0))), none⟩])
  (.reg [⟨(some (sl 4)), none, (.ld false (.s (sl 2)) none), none⟩, ⟨(some (sl 5)), none, (.mv (.s (sl 1))), none⟩, ⟨(some (sl 6)), none, (.mkfn 78 [(.s (sl 2))]), none⟩, ⟨(some (sl 7)), none, (.calle (.f 77) [(.s (sl 4)), (.s (sl 5)), (.s (sl 6))]), none⟩]))
def r___bit_writer__row : List ARes := []
theorem t___bit_writer__row : (Try.f57).body.bind (trCode Try.prog 8 (Try.f57).ntmps [0, 2, 4, 6, 7] [(18, 0, 0), (54, 0, 0), (27, 0, 0), (28, 0, 0), (22, 0, 0), (21, 0, 0), (24, 0, 0), (56, 0, 0), (57, 0, 0), (78, 0, 0), (19, 0, 0), (23, 0, 0), (25, 0, 0), (55, 0, 0), (77, 0, 0), (20, 0, 0), (26, 0, 0), (5000012, 0, 0)] (drOk 8)) = some c___bit_writer__row := by kernel_rfl
theorem u___bit_writer__row : trRess Try.prog 8 (Try.f57).results.toList = some r___bit_writer__row := by kernel_rfl

end Go.Proofs.Ytciihchbiifgkaa
