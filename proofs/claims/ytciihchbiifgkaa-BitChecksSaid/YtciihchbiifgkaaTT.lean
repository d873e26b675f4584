/- The bodies of some functions, as the evaluator has them (printed by program), and that they are the program's own. -/
import Derived.Test.YtciihchbiifgkaaKE
namespace Go.Proofs.Ytciihchbiifgkaa
open Go.RowKit

/-- marline/bit.several[marline/api.Func] -/
def c_bit_several_api_Func_ : ACode :=
  (.seq (.reg [⟨(some (sl 6)), none, (.mv (.c (.slice none 0 0))), none⟩])
  (.seq (.reg [⟨(some (sl 7)), none, (.mv (.c (.slice none 0 0))), none⟩])
  (.seq (.seq (.reg [⟨(some (sl 9)), none, (.mv (.s (sl 0))), none⟩, ⟨(some (sl 10)), none, (.mv (.s (sl 1))), none⟩, ⟨(some (sl 11)), none, (.calle (.f 61) [(.s (sl 9)), (.s (sl 10))]), none⟩, ⟨(some (sl 12)), none, (.mv (.c (.int .i64 0))), none⟩])
  (.block 0
  (.loop (.seq (.reg [⟨(some (sl 13)), none, (.bin .lss (.s (sl 12)) (.s (sl 11))), none⟩])
  (.seq (.cond (.s (sl 13))
  .skip
  (.exit 0))
  (.seq (.block 1
  (.seq (.seq (.reg [⟨(some (sl 14)), none, (.mv (.s (sl 2))), none⟩, ⟨(some (sl 15)), none, (.calle (.s (sl 14)) []), none⟩, ⟨(some (sl 8)), none, (.new [(.string ⟨#[]⟩), (.int .i64 0), (.int .i64 0), (.slice none 0 0)]), none⟩, ⟨none, none, (.ini 1 (.s (sl 8)) (.s (sl 15)) 4), none⟩])
  (.frz (sl 8)))
  (.seq (.seq (.reg [⟨(some (sl 16)), none, (.mv (.s (sl 0))), none⟩, ⟨(some (sl 17)), none, (.nck (.s (sl 16))), none⟩, ⟨(some (sl 18)), none, (.fld (.s (sl 17)) 1), none⟩, ⟨(some (sl 19)), none, (.ld false (.s (sl 18)) none), none⟩, ⟨(some (sl 20)), none, (.bin .neq (.s (sl 19)) (.c (.int .i64 0))), none⟩])
  (.cond (.s (sl 20))
  (.seq (.reg [⟨(some (sl 6)), none, (.mv (.c (.slice none 0 0))), none⟩])
  .ret)
  .skip))
  (.reg [⟨(some (sl 21)), none, (.mv (.s (sl 7))), none⟩, ⟨(some (sl 22)), none, (.ld true (.s (sl 8)) (some 4)), none⟩, ⟨(some (sl 23)), none, (.mksl 4 1 [(.string ⟨#[]⟩), (.int .i64 0), (.int .i64 0), (.slice none 0 0)] [(0, 4, (.s (sl 22)))]), none⟩, ⟨(some (sl 24)), none, (.app 59 4 56 (.s (sl 21)) (.s (sl 23))), none⟩, ⟨(some (sl 7)), none, (.mv (.s (sl 24))), none⟩]))))
  (.reg [⟨(some (sl 25)), none, (.bin .add (.s (sl 12)) (.c (.int .i64 1))), none⟩, ⟨(some (sl 12)), none, (.mv (.s (sl 25))), none⟩])))))))
  (.seq (.reg [⟨(some (sl 26)), none, (.mv (.s (sl 7))), none⟩, ⟨(some (sl 6)), none, (.mv (.s (sl 26))), none⟩])
  .ret))))
def r_bit_several_api_Func_ : List ARes := [(.tmp (sl 6))]
theorem t_bit_several_api_Func_ : (Try.f36).body.bind (trCode Try.prog 8 (Try.f36).ntmps [0, 2, 6, 7, 9, 11, 14, 16, 17, 18, 19, 21, 24, 26] [(40, 0, 0), (66, 0, 0), (63, 0, 0), (61, 0, 0), (62, 0, 0), (84, 0, 0), (83, 0, 0), (65, 0, 0), (37, 0, 0), (39, 0, 0), (36, 0, 0), (38, 0, 0), (64, 0, 0), (82, 0, 0), (92, 0, 0), (1000014, 0, 0)] (drOk 8)) = some c_bit_several_api_Func_ := by kernel_rfl
theorem u_bit_several_api_Func_ : trRess Try.prog 8 (Try.f36).results.toList = some r_bit_several_api_Func_ := by kernel_rfl

/-- marline/bit.several[marline/api.Glob] -/
def c_bit_several_api_Glob_ : ACode :=
  (.seq (.reg [⟨(some (sl 6)), none, (.mv (.c (.slice none 0 0))), none⟩])
  (.seq (.reg [⟨(some (sl 7)), none, (.mv (.c (.slice none 0 0))), none⟩])
  (.seq (.seq (.reg [⟨(some (sl 9)), none, (.mv (.s (sl 0))), none⟩, ⟨(some (sl 10)), none, (.mv (.s (sl 1))), none⟩, ⟨(some (sl 11)), none, (.calle (.f 61) [(.s (sl 9)), (.s (sl 10))]), none⟩, ⟨(some (sl 12)), none, (.mv (.c (.int .i64 0))), none⟩])
  (.block 0
  (.loop (.seq (.reg [⟨(some (sl 13)), none, (.bin .lss (.s (sl 12)) (.s (sl 11))), none⟩])
  (.seq (.cond (.s (sl 13))
  .skip
  (.exit 0))
  (.seq (.block 1
  (.seq (.seq (.reg [⟨(some (sl 14)), none, (.mv (.s (sl 2))), none⟩, ⟨(some (sl 15)), none, (.calle (.s (sl 14)) []), none⟩, ⟨(some (sl 8)), none, (.new [(.string ⟨#[]⟩), (.int .i64 0), (.bool false), (.int .u64 0)]), none⟩, ⟨none, none, (.ini 1 (.s (sl 8)) (.s (sl 15)) 4), none⟩])
  (.frz (sl 8)))
  (.seq (.seq (.reg [⟨(some (sl 16)), none, (.mv (.s (sl 0))), none⟩, ⟨(some (sl 17)), none, (.nck (.s (sl 16))), none⟩, ⟨(some (sl 18)), none, (.fld (.s (sl 17)) 1), none⟩, ⟨(some (sl 19)), none, (.ld false (.s (sl 18)) none), none⟩, ⟨(some (sl 20)), none, (.bin .neq (.s (sl 19)) (.c (.int .i64 0))), none⟩])
  (.cond (.s (sl 20))
  (.seq (.reg [⟨(some (sl 6)), none, (.mv (.c (.slice none 0 0))), none⟩])
  .ret)
  .skip))
  (.reg [⟨(some (sl 21)), none, (.mv (.s (sl 7))), none⟩, ⟨(some (sl 22)), none, (.ld true (.s (sl 8)) (some 4)), none⟩, ⟨(some (sl 23)), none, (.mksl 4 1 [(.string ⟨#[]⟩), (.int .i64 0), (.bool false), (.int .u64 0)] [(0, 4, (.s (sl 22)))]), none⟩, ⟨(some (sl 24)), none, (.app 73 4 40 (.s (sl 21)) (.s (sl 23))), none⟩, ⟨(some (sl 7)), none, (.mv (.s (sl 24))), none⟩]))))
  (.reg [⟨(some (sl 25)), none, (.bin .add (.s (sl 12)) (.c (.int .i64 1))), none⟩, ⟨(some (sl 12)), none, (.mv (.s (sl 25))), none⟩])))))))
  (.seq (.reg [⟨(some (sl 26)), none, (.mv (.s (sl 7))), none⟩, ⟨(some (sl 6)), none, (.mv (.s (sl 26))), none⟩])
  .ret))))
def r_bit_several_api_Glob_ : List ARes := [(.tmp (sl 6))]
theorem t_bit_several_api_Glob_ : (Try.f38).body.bind (trCode Try.prog 8 (Try.f38).ntmps [0, 2, 6, 7, 9, 11, 14, 16, 17, 18, 19, 21, 24, 26] [(40, 0, 0), (66, 0, 0), (63, 0, 0), (61, 0, 0), (62, 0, 0), (84, 0, 0), (83, 0, 0), (65, 0, 0), (37, 0, 0), (39, 0, 0), (36, 0, 0), (38, 0, 0), (64, 0, 0), (82, 0, 0), (92, 0, 0), (1000014, 0, 0)] (drOk 8)) = some c_bit_several_api_Glob_ := by kernel_rfl
theorem u_bit_several_api_Glob_ : trRess Try.prog 8 (Try.f38).results.toList = some r_bit_several_api_Glob_ := by kernel_rfl

/-- marline/bit.several[marline/api.Block] -/
def c_bit_several_api_Block_ : ACode :=
  (.seq (.reg [⟨(some (sl 6)), none, (.mv (.c (.slice none 0 0))), none⟩])
  (.seq (.reg [⟨(some (sl 7)), none, (.mv (.c (.slice none 0 0))), none⟩])
  (.seq (.seq (.reg [⟨(some (sl 9)), none, (.mv (.s (sl 0))), none⟩, ⟨(some (sl 10)), none, (.mv (.s (sl 1))), none⟩, ⟨(some (sl 11)), none, (.calle (.f 61) [(.s (sl 9)), (.s (sl 10))]), none⟩, ⟨(some (sl 12)), none, (.mv (.c (.int .i64 0))), none⟩])
  (.block 0
  (.loop (.seq (.reg [⟨(some (sl 13)), none, (.bin .lss (.s (sl 12)) (.s (sl 11))), none⟩])
  (.seq (.cond (.s (sl 13))
  .skip
  (.exit 0))
  (.seq (.block 1
  (.seq (.seq (.reg [⟨(some (sl 14)), none, (.mv (.s (sl 2))), none⟩, ⟨(some (sl 15)), none, (.calle (.s (sl 14)) []), none⟩, ⟨(some (sl 8)), none, (.new [(.int .i64 0), (.slice none 0 0), (.int .i64 0), (.int .i64 0), (.int .i64 0), (.slice none 0 0), (.int .i64 0), (.slice none 0 0)]), none⟩, ⟨none, none, (.ini 1 (.s (sl 8)) (.s (sl 15)) 8), none⟩])
  (.frz (sl 8)))
  (.seq (.seq (.reg [⟨(some (sl 16)), none, (.mv (.s (sl 0))), none⟩, ⟨(some (sl 17)), none, (.nck (.s (sl 16))), none⟩, ⟨(some (sl 18)), none, (.fld (.s (sl 17)) 1), none⟩, ⟨(some (sl 19)), none, (.ld false (.s (sl 18)) none), none⟩, ⟨(some (sl 20)), none, (.bin .neq (.s (sl 19)) (.c (.int .i64 0))), none⟩])
  (.cond (.s (sl 20))
  (.seq (.reg [⟨(some (sl 6)), none, (.mv (.c (.slice none 0 0))), none⟩])
  .ret)
  .skip))
  (.reg [⟨(some (sl 21)), none, (.mv (.s (sl 7))), none⟩, ⟨(some (sl 22)), none, (.ld true (.s (sl 8)) (some 8)), none⟩, ⟨(some (sl 23)), none, (.mksl 8 1 [(.int .i64 0), (.slice none 0 0), (.int .i64 0), (.int .i64 0), (.int .i64 0), (.slice none 0 0), (.int .i64 0), (.slice none 0 0)] [(0, 8, (.s (sl 22)))]), none⟩, ⟨(some (sl 24)), none, (.app 68 8 112 (.s (sl 21)) (.s (sl 23))), none⟩, ⟨(some (sl 7)), none, (.mv (.s (sl 24))), none⟩]))))
  (.reg [⟨(some (sl 25)), none, (.bin .add (.s (sl 12)) (.c (.int .i64 1))), none⟩, ⟨(some (sl 12)), none, (.mv (.s (sl 25))), none⟩])))))))
  (.seq (.reg [⟨(some (sl 26)), none, (.mv (.s (sl 7))), none⟩, ⟨(some (sl 6)), none, (.mv (.s (sl 26))), none⟩])
  .ret))))
def r_bit_several_api_Block_ : List ARes := [(.tmp (sl 6))]
theorem t_bit_several_api_Block_ : (Try.f64).body.bind (trCode Try.prog 8 (Try.f64).ntmps [0, 2, 6, 7, 9, 11, 14, 16, 17, 18, 19, 21, 24, 26] [(40, 0, 0), (66, 0, 0), (63, 0, 0), (61, 0, 0), (62, 0, 0), (84, 0, 0), (83, 0, 0), (65, 0, 0), (37, 0, 0), (39, 0, 0), (36, 0, 0), (38, 0, 0), (64, 0, 0), (82, 0, 0), (92, 0, 0), (1000014, 0, 0)] (drOk 8)) = some c_bit_several_api_Block_ := by kernel_rfl
theorem u_bit_several_api_Block_ : trRess Try.prog 8 (Try.f64).results.toList = some r_bit_several_api_Block_ := by kernel_rfl

/-- marline/bit.several[marline/api.Inst] -/
def c_bit_several_api_Inst_ : ACode :=
  (.seq (.reg [⟨(some (sl 6)), none, (.mv (.c (.slice none 0 0))), none⟩])
  (.seq (.reg [⟨(some (sl 7)), none, (.mv (.c (.slice none 0 0))), none⟩])
  (.seq (.seq (.reg [⟨(some (sl 9)), none, (.mv (.s (sl 0))), none⟩, ⟨(some (sl 10)), none, (.mv (.s (sl 1))), none⟩, ⟨(some (sl 11)), none, (.calle (.f 61) [(.s (sl 9)), (.s (sl 10))]), none⟩, ⟨(some (sl 12)), none, (.mv (.c (.int .i64 0))), none⟩])
  (.block 0
  (.loop (.seq (.reg [⟨(some (sl 13)), none, (.bin .lss (.s (sl 12)) (.s (sl 11))), none⟩])
  (.seq (.cond (.s (sl 13))
  .skip
  (.exit 0))
  (.seq (.block 1
  (.seq (.seq (.reg [⟨(some (sl 14)), none, (.mv (.s (sl 2))), none⟩, ⟨(some (sl 15)), none, (.calle (.s (sl 14)) []), none⟩, ⟨(some (sl 8)), none, (.new [(.int .i64 0), (.int .i64 0), (.int .i64 0), (.int .u64 0), (.string ⟨#[]⟩), (.slice none 0 0)]), none⟩, ⟨none, none, (.ini 1 (.s (sl 8)) (.s (sl 15)) 6), none⟩])
  (.frz (sl 8)))
  (.seq (.seq (.reg [⟨(some (sl 16)), none, (.mv (.s (sl 0))), none⟩, ⟨(some (sl 17)), none, (.nck (.s (sl 16))), none⟩, ⟨(some (sl 18)), none, (.fld (.s (sl 17)) 1), none⟩, ⟨(some (sl 19)), none, (.ld false (.s (sl 18)) none), none⟩, ⟨(some (sl 20)), none, (.bin .neq (.s (sl 19)) (.c (.int .i64 0))), none⟩])
  (.cond (.s (sl 20))
  (.seq (.reg [⟨(some (sl 6)), none, (.mv (.c (.slice none 0 0))), none⟩])
  .ret)
  .skip))
  (.reg [⟨(some (sl 21)), none, (.mv (.s (sl 7))), none⟩, ⟨(some (sl 22)), none, (.ld true (.s (sl 8)) (some 6)), none⟩, ⟨(some (sl 23)), none, (.mksl 6 1 [(.int .i64 0), (.int .i64 0), (.int .i64 0), (.int .u64 0), (.string ⟨#[]⟩), (.slice none 0 0)] [(0, 6, (.s (sl 22)))]), none⟩, ⟨(some (sl 24)), none, (.app 82 6 72 (.s (sl 21)) (.s (sl 23))), none⟩, ⟨(some (sl 7)), none, (.mv (.s (sl 24))), none⟩]))))
  (.reg [⟨(some (sl 25)), none, (.bin .add (.s (sl 12)) (.c (.int .i64 1))), none⟩, ⟨(some (sl 12)), none, (.mv (.s (sl 25))), none⟩])))))))
  (.seq (.reg [⟨(some (sl 26)), none, (.mv (.s (sl 7))), none⟩, ⟨(some (sl 6)), none, (.mv (.s (sl 26))), none⟩])
  .ret))))
def r_bit_several_api_Inst_ : List ARes := [(.tmp (sl 6))]
theorem t_bit_several_api_Inst_ : (Try.f82).body.bind (trCode Try.prog 8 (Try.f82).ntmps [0, 2, 6, 7, 9, 11, 14, 16, 17, 18, 19, 21, 24, 26] [(40, 0, 0), (66, 0, 0), (63, 0, 0), (61, 0, 0), (62, 0, 0), (84, 0, 0), (83, 0, 0), (65, 0, 0), (37, 0, 0), (39, 0, 0), (36, 0, 0), (38, 0, 0), (64, 0, 0), (82, 0, 0), (92, 0, 0), (1000014, 0, 0)] (drOk 8)) = some c_bit_several_api_Inst_ := by kernel_rfl
theorem u_bit_several_api_Inst_ : trRess Try.prog 8 (Try.f82).results.toList = some r_bit_several_api_Inst_ := by kernel_rfl

/-- marline/bit.several[int] -/
def c_bit_several_int_ : ACode :=
  (.seq (.reg [⟨(some (sl 6)), none, (.mv (.c (.slice none 0 0))), none⟩])
  (.seq (.reg [⟨(some (sl 7)), none, (.mv (.c (.slice none 0 0))), none⟩])
  (.seq (.seq (.reg [⟨(some (sl 9)), none, (.mv (.s (sl 0))), none⟩, ⟨(some (sl 10)), none, (.mv (.s (sl 1))), none⟩, ⟨(some (sl 11)), none, (.calle (.f 61) [(.s (sl 9)), (.s (sl 10))]), none⟩, ⟨(some (sl 12)), none, (.mv (.c (.int .i64 0))), none⟩])
  (.block 0
  (.loop (.seq (.reg [⟨(some (sl 13)), none, (.bin .lss (.s (sl 12)) (.s (sl 11))), none⟩])
  (.seq (.cond (.s (sl 13))
  .skip
  (.exit 0))
  (.seq (.block 1
  (.seq (.reg [⟨(some (sl 14)), none, (.mv (.s (sl 2))), none⟩, ⟨(some (sl 15)), none, (.calle (.s (sl 14)) []), none⟩, ⟨(some (sl 8)), none, (.mv (.s (sl 15))), none⟩])
  (.seq (.seq (.reg [⟨(some (sl 16)), none, (.mv (.s (sl 0))), none⟩, ⟨(some (sl 17)), none, (.nck (.s (sl 16))), none⟩, ⟨(some (sl 18)), none, (.fld (.s (sl 17)) 1), none⟩, ⟨(some (sl 19)), none, (.ld false (.s (sl 18)) none), none⟩, ⟨(some (sl 20)), none, (.bin .neq (.s (sl 19)) (.c (.int .i64 0))), none⟩])
  (.cond (.s (sl 20))
  (.seq (.reg [⟨(some (sl 6)), none, (.mv (.c (.slice none 0 0))), none⟩])
  .ret)
  .skip))
  (.reg [⟨(some (sl 21)), none, (.mv (.s (sl 7))), none⟩, ⟨(some (sl 22)), none, (.mv (.s (sl 8))), none⟩, ⟨(some (sl 23)), none, (.mksl 1 1 [(.int .i64 0)] [(0, 1, (.s (sl 22)))]), none⟩, ⟨(some (sl 24)), none, (.app 3 1 8 (.s (sl 21)) (.s (sl 23))), none⟩, ⟨(some (sl 7)), none, (.mv (.s (sl 24))), none⟩]))))
  (.reg [⟨(some (sl 25)), none, (.bin .add (.s (sl 12)) (.c (.int .i64 1))), none⟩, ⟨(some (sl 12)), none, (.mv (.s (sl 25))), none⟩])))))))
  (.seq (.reg [⟨(some (sl 26)), none, (.mv (.s (sl 7))), none⟩, ⟨(some (sl 6)), none, (.mv (.s (sl 26))), none⟩])
  .ret))))
def r_bit_several_int_ : List ARes := [(.tmp (sl 6))]
theorem t_bit_several_int_ : (Try.f92).body.bind (trCode Try.prog 8 (Try.f92).ntmps [0, 2, 6, 7, 9, 11, 14, 16, 17, 18, 19, 21, 24, 26] [(40, 0, 0), (66, 0, 0), (63, 0, 0), (61, 0, 0), (62, 0, 0), (84, 0, 0), (83, 0, 0), (65, 0, 0), (37, 0, 0), (39, 0, 0), (36, 0, 0), (38, 0, 0), (64, 0, 0), (82, 0, 0), (92, 0, 0), (1000014, 0, 0)] (drOk 8)) = some c_bit_several_int_ := by kernel_rfl
theorem u_bit_several_int_ : trRess Try.prog 8 (Try.f92).results.toList = some r_bit_several_int_ := by kernel_rfl

end Go.Proofs.Ytciihchbiifgkaa
