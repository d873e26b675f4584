/- The bodies of some functions, as the evaluator has them (printed by program), and that they are the program's own. -/
import Derived.Test.YtciihchbiifgkaaKE
namespace Go.Proofs.Ytciihchbiifgkaa
open Go.RowKit

/-- marline/bit.row[marline/api.Func] -/
def c_bit_row_api_Func_ : ACode :=
  (.seq (.reg [⟨(some (sl 8)), none, (.mv (.s (sl 0))), none⟩, ⟨(some (sl 9)), none, (.mv (.s (sl 1))), none⟩, ⟨(some (sl 10)), none, (.len false (.s (sl 9))), none⟩, ⟨(some (sl 11)), none, (.mksl 1 1 [(.int .i64 0)] [(0, 1, (.s (sl 10)))]), none⟩, ⟨(some (sl 12)), none, (.calle (.f 22) [(.s (sl 8)), (.s (sl 11))]), none⟩])
  (.seq (.reg [⟨(some (sl 13)), none, (.mv (.s (sl 1))), none⟩, ⟨(some (sl 14)), none, (.len false (.s (sl 13))), none⟩, ⟨(some (sl 15)), none, (.mv (.c (.int .i64 0))), none⟩])
  (.block 0
  (.loop (.seq (.reg [⟨(some (sl 16)), none, (.bin .lss (.s (sl 15)) (.s (sl 14))), none⟩])
  (.seq (.cond (.s (sl 16))
  .skip
  (.exit 0))
  (.seq (.block 1
  (.seq (.seq (.reg [⟨(some (sl 17)), none, (.idx true (.s (sl 13)) (.s (sl 15)) 4), none⟩, ⟨(some (sl 18)), none, (.ld true (.s (sl 17)) (some 4)), none⟩, ⟨(some (sl 7)), none, (.new [(.string ⟨#[]⟩), (.int .i64 0), (.int .i64 0), (.slice none 0 0)]), none⟩, ⟨none, none, (.ini 1 (.s (sl 7)) (.s (sl 18)) 4), none⟩])
  (.frz (sl 7)))
  (.reg [⟨(some (sl 19)), none, (.mv (.s (sl 2))), none⟩, ⟨(some (sl 20)), none, (.ld true (.s (sl 7)) (some 4)), none⟩, ⟨(some (sl 21)), none, (.calle (.s (sl 19)) [(.s (sl 20))]), none⟩])))
  (.reg [⟨(some (sl 22)), none, (.bin .add (.s (sl 15)) (.c (.int .i64 1))), none⟩, ⟨(some (sl 15)), none, (.mv (.s (sl 22))), none⟩]))))))))
def r_bit_row_api_Func_ : List ARes := []
theorem t_bit_row_api_Func_ : (Try.f19).body.bind (trCode Try.prog 8 (Try.f19).ntmps [0, 2, 8, 12, 19] [(18, 0, 0), (54, 0, 0), (27, 0, 0), (28, 0, 0), (22, 0, 0), (21, 0, 0), (24, 0, 0), (56, 0, 0), (57, 0, 0), (78, 0, 0), (19, 0, 0), (23, 0, 0), (25, 0, 0), (55, 0, 0), (77, 0, 0), (20, 0, 0), (26, 0, 0), (1000019, 0, 0)] (drOk 8)) = some c_bit_row_api_Func_ := by kernel_rfl
theorem u_bit_row_api_Func_ : trRess Try.prog 8 (Try.f19).results.toList = some r_bit_row_api_Func_ := by kernel_rfl

/-- marline/bit.row[marline/api.Block] -/
def c_bit_row_api_Block_ : ACode :=
  (.seq (.reg [⟨(some (sl 8)), none, (.mv (.s (sl 0))), none⟩, ⟨(some (sl 9)), none, (.mv (.s (sl 1))), none⟩, ⟨(some (sl 10)), none, (.len false (.s (sl 9))), none⟩, ⟨(some (sl 11)), none, (.mksl 1 1 [(.int .i64 0)] [(0, 1, (.s (sl 10)))]), none⟩, ⟨(some (sl 12)), none, (.calle (.f 22) [(.s (sl 8)), (.s (sl 11))]), none⟩])
  (.seq (.reg [⟨(some (sl 13)), none, (.mv (.s (sl 1))), none⟩, ⟨(some (sl 14)), none, (.len false (.s (sl 13))), none⟩, ⟨(some (sl 15)), none, (.mv (.c (.int .i64 0))), none⟩])
  (.block 0
  (.loop (.seq (.reg [⟨(some (sl 16)), none, (.bin .lss (.s (sl 15)) (.s (sl 14))), none⟩])
  (.seq (.cond (.s (sl 16))
  .skip
  (.exit 0))
  (.seq (.block 1
  (.seq (.seq (.reg [⟨(some (sl 17)), none, (.idx true (.s (sl 13)) (.s (sl 15)) 8), none⟩, ⟨(some (sl 18)), none, (.ld true (.s (sl 17)) (some 8)), none⟩, ⟨(some (sl 7)), none, (.new [(.int .i64 0), (.slice none 0 0), (.int .i64 0), (.int .i64 0), (.int .i64 0), (.slice none 0 0), (.int .i64 0), (.slice none 0 0)]), none⟩, ⟨none, none, (.ini 1 (.s (sl 7)) (.s (sl 18)) 8), none⟩])
  (.frz (sl 7)))
  (.reg [⟨(some (sl 19)), none, (.mv (.s (sl 2))), none⟩, ⟨(some (sl 20)), none, (.ld true (.s (sl 7)) (some 8)), none⟩, ⟨(some (sl 21)), none, (.calle (.s (sl 19)) [(.s (sl 20))]), none⟩])))
  (.reg [⟨(some (sl 22)), none, (.bin .add (.s (sl 15)) (.c (.int .i64 1))), none⟩, ⟨(some (sl 15)), none, (.mv (.s (sl 22))), none⟩]))))))))
def r_bit_row_api_Block_ : List ARes := []
theorem t_bit_row_api_Block_ : (Try.f23).body.bind (trCode Try.prog 8 (Try.f23).ntmps [0, 2, 8, 12, 19] [(18, 0, 0), (54, 0, 0), (27, 0, 0), (28, 0, 0), (22, 0, 0), (21, 0, 0), (24, 0, 0), (56, 0, 0), (57, 0, 0), (78, 0, 0), (19, 0, 0), (23, 0, 0), (25, 0, 0), (55, 0, 0), (77, 0, 0), (20, 0, 0), (26, 0, 0), (1000019, 0, 0)] (drOk 8)) = some c_bit_row_api_Block_ := by kernel_rfl
theorem u_bit_row_api_Block_ : trRess Try.prog 8 (Try.f23).results.toList = some r_bit_row_api_Block_ := by kernel_rfl

/-- marline/bit.row[marline/api.Glob] -/
def c_bit_row_api_Glob_ : ACode :=
  (.seq (.reg [⟨(some (sl 8)), none, (.mv (.s (sl 0))), none⟩, ⟨(some (sl 9)), none, (.mv (.s (sl 1))), none⟩, ⟨(some (sl 10)), none, (.len false (.s (sl 9))), none⟩, ⟨(some (sl 11)), none, (.mksl 1 1 [(.int .i64 0)] [(0, 1, (.s (sl 10)))]), none⟩, ⟨(some (sl 12)), none, (.calle (.f 22) [(.s (sl 8)), (.s (sl 11))]), none⟩])
  (.seq (.reg [⟨(some (sl 13)), none, (.mv (.s (sl 1))), none⟩, ⟨(some (sl 14)), none, (.len false (.s (sl 13))), none⟩, ⟨(some (sl 15)), none, (.mv (.c (.int .i64 0))), none⟩])
  (.block 0
  (.loop (.seq (.reg [⟨(some (sl 16)), none, (.bin .lss (.s (sl 15)) (.s (sl 14))), none⟩])
  (.seq (.cond (.s (sl 16))
  .skip
  (.exit 0))
  (.seq (.block 1
  (.seq (.seq (.reg [⟨(some (sl 17)), none, (.idx true (.s (sl 13)) (.s (sl 15)) 4), none⟩, ⟨(some (sl 18)), none, (.ld true (.s (sl 17)) (some 4)), none⟩, ⟨(some (sl 7)), none, (.new [(.string ⟨#[]⟩), (.int .i64 0), (.bool false), (.int .u64 0)]), none⟩, ⟨none, none, (.ini 1 (.s (sl 7)) (.s (sl 18)) 4), none⟩])
  (.frz (sl 7)))
  (.reg [⟨(some (sl 19)), none, (.mv (.s (sl 2))), none⟩, ⟨(some (sl 20)), none, (.ld true (.s (sl 7)) (some 4)), none⟩, ⟨(some (sl 21)), none, (.calle (.s (sl 19)) [(.s (sl 20))]), none⟩])))
  (.reg [⟨(some (sl 22)), none, (.bin .add (.s (sl 15)) (.c (.int .i64 1))), none⟩, ⟨(some (sl 15)), none, (.mv (.s (sl 22))), none⟩]))))))))
def r_bit_row_api_Glob_ : List ARes := []
theorem t_bit_row_api_Glob_ : (Try.f25).body.bind (trCode Try.prog 8 (Try.f25).ntmps [0, 2, 8, 12, 19] [(18, 0, 0), (54, 0, 0), (27, 0, 0), (28, 0, 0), (22, 0, 0), (21, 0, 0), (24, 0, 0), (56, 0, 0), (57, 0, 0), (78, 0, 0), (19, 0, 0), (23, 0, 0), (25, 0, 0), (55, 0, 0), (77, 0, 0), (20, 0, 0), (26, 0, 0), (1000019, 0, 0)] (drOk 8)) = some c_bit_row_api_Glob_ := by kernel_rfl
theorem u_bit_row_api_Glob_ : trRess Try.prog 8 (Try.f25).results.toList = some r_bit_row_api_Glob_ := by kernel_rfl

/-- marline/bit.row[marline/api.Inst] -/
def c_bit_row_api_Inst_ : ACode :=
  (.seq (.reg [⟨(some (sl 8)), none, (.mv (.s (sl 0))), none⟩, ⟨(some (sl 9)), none, (.mv (.s (sl 1))), none⟩, ⟨(some (sl 10)), none, (.len false (.s (sl 9))), none⟩, ⟨(some (sl 11)), none, (.mksl 1 1 [(.int .i64 0)] [(0, 1, (.s (sl 10)))]), none⟩, ⟨(some (sl 12)), none, (.calle (.f 22) [(.s (sl 8)), (.s (sl 11))]), none⟩])
  (.seq (.reg [⟨(some (sl 13)), none, (.mv (.s (sl 1))), none⟩, ⟨(some (sl 14)), none, (.len false (.s (sl 13))), none⟩, ⟨(some (sl 15)), none, (.mv (.c (.int .i64 0))), none⟩])
  (.block 0
  (.loop (.seq (.reg [⟨(some (sl 16)), none, (.bin .lss (.s (sl 15)) (.s (sl 14))), none⟩])
  (.seq (.cond (.s (sl 16))
  .skip
  (.exit 0))
  (.seq (.block 1
  (.seq (.seq (.reg [⟨(some (sl 17)), none, (.idx true (.s (sl 13)) (.s (sl 15)) 6), none⟩, ⟨(some (sl 18)), none, (.ld true (.s (sl 17)) (some 6)), none⟩, ⟨(some (sl 7)), none, (.new [(.int .i64 0), (.int .i64 0), (.int .i64 0), (.int .u64 0), (.string ⟨#[]⟩), (.slice none 0 0)]), none⟩, ⟨none, none, (.ini 1 (.s (sl 7)) (.s (sl 18)) 6), none⟩])
  (.frz (sl 7)))
  (.reg [⟨(some (sl 19)), none, (.mv (.s (sl 2))), none⟩, ⟨(some (sl 20)), none, (.ld true (.s (sl 7)) (some 6)), none⟩, ⟨(some (sl 21)), none, (.calle (.s (sl 19)) [(.s (sl 20))]), none⟩])))
  (.reg [⟨(some (sl 22)), none, (.bin .add (.s (sl 15)) (.c (.int .i64 1))), none⟩, ⟨(some (sl 15)), none, (.mv (.s (sl 22))), none⟩]))))))))
def r_bit_row_api_Inst_ : List ARes := []
theorem t_bit_row_api_Inst_ : (Try.f55).body.bind (trCode Try.prog 8 (Try.f55).ntmps [0, 2, 8, 12, 19] [(18, 0, 0), (54, 0, 0), (27, 0, 0), (28, 0, 0), (22, 0, 0), (21, 0, 0), (24, 0, 0), (56, 0, 0), (57, 0, 0), (78, 0, 0), (19, 0, 0), (23, 0, 0), (25, 0, 0), (55, 0, 0), (77, 0, 0), (20, 0, 0), (26, 0, 0), (1000019, 0, 0)] (drOk 8)) = some c_bit_row_api_Inst_ := by kernel_rfl
theorem u_bit_row_api_Inst_ : trRess Try.prog 8 (Try.f55).results.toList = some r_bit_row_api_Inst_ := by kernel_rfl

/-- marline/bit.row[int] -/
def c_bit_row_int_ : ACode :=
  (.seq (.reg [⟨(some (sl 8)), none, (.mv (.s (sl 0))), none⟩, ⟨(some (sl 9)), none, (.mv (.s (sl 1))), none⟩, ⟨(some (sl 10)), none, (.len false (.s (sl 9))), none⟩, ⟨(some (sl 11)), none, (.mksl 1 1 [(.int .i64 0)] [(0, 1, (.s (sl 10)))]), none⟩, ⟨(some (sl 12)), none, (.calle (.f 22) [(.s (sl 8)), (.s (sl 11))]), none⟩])
  (.seq (.reg [⟨(some (sl 13)), none, (.mv (.s (sl 1))), none⟩, ⟨(some (sl 14)), none, (.len false (.s (sl 13))), none⟩, ⟨(some (sl 15)), none, (.mv (.c (.int .i64 0))), none⟩])
  (.block 0
  (.loop (.seq (.reg [⟨(some (sl 16)), none, (.bin .lss (.s (sl 15)) (.s (sl 14))), none⟩])
  (.seq (.cond (.s (sl 16))
  .skip
  (.exit 0))
  (.seq (.block 1
  (.seq (.reg [⟨(some (sl 17)), none, (.idx true (.s (sl 13)) (.s (sl 15)) 1), none⟩, ⟨(some (sl 18)), none, (.ld true (.s (sl 17)) none), none⟩, ⟨(some (sl 7)), none, (.mv (.s (sl 18))), none⟩])
  (.reg [⟨(some (sl 19)), none, (.mv (.s (sl 2))), none⟩, ⟨(some (sl 20)), none, (.mv (.s (sl 7))), none⟩, ⟨(some (sl 21)), none, (.calle (.s (sl 19)) [(.s (sl 20))]), none⟩])))
  (.reg [⟨(some (sl 22)), none, (.bin .add (.s (sl 15)) (.c (.int .i64 1))), none⟩, ⟨(some (sl 15)), none, (.mv (.s (sl 22))), none⟩]))))))))
def r_bit_row_int_ : List ARes := []
theorem t_bit_row_int_ : (Try.f77).body.bind (trCode Try.prog 8 (Try.f77).ntmps [0, 2, 8, 12, 19] [(18, 0, 0), (54, 0, 0), (27, 0, 0), (28, 0, 0), (22, 0, 0), (21, 0, 0), (24, 0, 0), (56, 0, 0), (57, 0, 0), (78, 0, 0), (19, 0, 0), (23, 0, 0), (25, 0, 0), (55, 0, 0), (77, 0, 0), (20, 0, 0), (26, 0, 0), (1000019, 0, 0)] (drOk 8)) = some c_bit_row_int_ := by kernel_rfl
theorem u_bit_row_int_ : trRess Try.prog 8 (Try.f77).results.toList = some r_bit_row_int_ := by kernel_rfl

end Go.Proofs.Ytciihchbiifgkaa
