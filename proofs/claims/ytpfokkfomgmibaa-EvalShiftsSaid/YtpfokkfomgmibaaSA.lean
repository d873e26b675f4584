/- The bodies of some functions, as the evaluator has them (printed by program), and that they are the program's own. -/
import Derived.Test.YtpfokkfomgmibaaKE
namespace Go.Proofs.Ytpfokkfomgmibaa
open Go.RowKit

/-- (*marline/eval.frame).some -/
def c___eval_frame__some : ACode :=
  (.seq (.reg [⟨(some (sl 4)), none, (.mv (.c (.slice none 0 0))), none⟩])
  (.seq (.reg [⟨(some (sl 5)), none, (.mv (.c (.slice none 0 0))), none⟩])
  (.seq (.seq (.reg [⟨(some (sl 8)), none, (.mv (.s (sl 1))), none⟩, ⟨(some (sl 9)), none, (.len false (.s (sl 8))), none⟩, ⟨(some (sl 10)), none, (.mv (.c (.int .i64 0))), none⟩])
  (.block 0
  (.loop (.seq (.reg [⟨(some (sl 11)), none, (.bin .lss (.s (sl 10)) (.s (sl 9))), none⟩])
  (.seq (.cond (.s (sl 11))
  .skip
  (.exit 0))
  (.seq (.block 1
  (.seq (.reg [⟨(some (sl 12)), none, (.idx true (.s (sl 8)) (.s (sl 10)) 1), none⟩, ⟨(some (sl 13)), none, (.ld true (.s (sl 12)) none), none⟩, ⟨(some (sl 7)), none, (.mv (.s (sl 13))), none⟩])
  (.reg [⟨(some (sl 14)), none, (.mv (.s (sl 5))), none⟩, ⟨(some (sl 15)), none, (.mv (.s (sl 0))), none⟩, ⟨(some (sl 16)), none, (.nck (.s (sl 15))), none⟩, ⟨(some (sl 17)), none, (.fld (.s (sl 16)) 6), none⟩, ⟨(some (sl 18)), none, (.ld true (.s (sl 17)) none), none⟩, ⟨(some (sl 19)), none, (.mv (.s (sl 7))), none⟩, ⟨(some (sl 20)), none, (.idx true (.s (sl 18)) (.s (sl 19)) 1), none⟩, ⟨(some (sl 21)), none, (.ld true (.s (sl 20)) none), none⟩, ⟨(some (sl 22)), none, (.mksl 1 1 [(.int .u64 0)] [(0, 1, (.s (sl 21)))]), none⟩, ⟨(some (sl 23)), none, (.app 29 1 8 (.s (sl 14)) (.s (sl 22))), none⟩, ⟨(some (sl 5)), none, (.mv (.s (sl 23))), none⟩])))
  (.reg [⟨(some (sl 24)), none, (.bin .add (.s (sl 10)) (.c (.int .i64 1))), none⟩, ⟨(some (sl 10)), none, (.mv (.s (sl 24))), none⟩])))))))
  (.seq (.reg [⟨(some (sl 25)), none, (.mv (.s (sl 5))), none⟩, ⟨(some (sl 4)), none, (.mv (.s (sl 25))), none⟩])
  .ret))))
def r___eval_frame__some : List ARes := [(.tmp (sl 4))]
theorem t___eval_frame__some : (Try.f24).body.bind (trCode Try.prog 8 (Try.f24).ntmps [4, 5, 14, 23, 25] [(24, 29, 1), (19, 0, 0), (20, 0, 0), (21, 0, 0), (22, 0, 0), (23, 0, 0)] (drOk 8)) = some c___eval_frame__some := by kernel_rfl
theorem u___eval_frame__some : trRess Try.prog 8 (Try.f24).results.toList = some r___eval_frame__some := by kernel_rfl

/-- (*marline/eval.frame).goes -/
def c___eval_frame__goes : ACode :=
  (.seq (.reg [⟨(some (sl 6)), none, (.mv (.s (sl 0))), none⟩, ⟨(some (sl 7)), none, (.mv (.s (sl 0))), none⟩, ⟨(some (sl 8)), none, (.mv (.s (sl 2))), none⟩, ⟨(some (sl 9)), none, (.callo 29 1 (.f 24) [(.s (sl 7)), (.s (sl 8))]), none⟩, ⟨(some (sl 10)), none, (.nck (.s (sl 6))), none⟩, ⟨(some (sl 11)), none, (.fld (.s (sl 10)) 6), none⟩, ⟨none, none, (.st (.s (sl 11)) (.s (sl 9)) 1), none⟩])
  (.reg [⟨(some (sl 12)), none, (.mv (.s (sl 0))), none⟩, ⟨(some (sl 13)), none, (.mv (.s (sl 0))), none⟩, ⟨(some (sl 14)), none, (.mv (.s (sl 1))), none⟩, ⟨(some (sl 15)), none, (.nck (.s (sl 12))), none⟩, ⟨(some (sl 16)), none, (.fld (.s (sl 15)) 4), none⟩, ⟨none, none, (.st (.s (sl 16)) (.s (sl 14)) 1), none⟩, ⟨(some (sl 17)), none, (.nck (.s (sl 13))), none⟩, ⟨(some (sl 18)), none, (.fld (.s (sl 17)) 5), none⟩, ⟨none, none, (.st (.s (sl 18)) (.c (.int .i64 0)) 1), none⟩]))
def r___eval_frame__goes : List ARes := []
theorem t___eval_frame__goes : (Try.f22).body.bind (trCode Try.prog 8 (Try.f22).ntmps [0, 6, 7, 9, 10, 11, 12, 13, 15, 16, 17, 18] [(24, 29, 1), (19, 0, 0), (20, 0, 0), (21, 0, 0), (22, 0, 0), (23, 0, 0)] (drOk 8)) = some c___eval_frame__goes := by kernel_rfl
theorem u___eval_frame__goes : trRess Try.prog 8 (Try.f22).results.toList = some r___eval_frame__goes := by kernel_rfl

/-- (*marline/eval.run).gives -/
def c___eval_run__gives : ACode :=
  (.seq (.reg [⟨(some (sl 5)), none, (.box true (.s (sl 2))), none⟩, ⟨(some (sl 6)), none, (.mv (.c (.int .u64 0))), none⟩])
  (.seq (.seq (.reg [⟨(some (sl 7)), none, (.fld (.s (sl 5)) 0), none⟩, ⟨(some (sl 8)), none, (.ld true (.s (sl 7)) none), none⟩])
  (.block 0
  (.seq (.reg [⟨(some (sl 10)), none, (.bin .eql (.s (sl 8)) (.c (.int .i64 1))), none⟩, ⟨(some (sl 9)), none, (.mv (.s (sl 10))), none⟩])
  (.cond (.s (sl 9))
  (.seq (.reg [⟨(some (sl 11)), none, (.fld (.s (sl 5)) 3), none⟩, ⟨(some (sl 12)), none, (.ld true (.s (sl 11)) none), none⟩, ⟨(some (sl 6)), none, (.mv (.s (sl 12))), none⟩])
  .ret)
  (.seq (.reg [⟨(some (sl 14)), none, (.bin .eql (.s (sl 8)) (.c (.int .i64 12))), none⟩, ⟨(some (sl 13)), none, (.mv (.s (sl 14))), none⟩])
  (.cond (.s (sl 13))
  (.seq (.reg [⟨(some (sl 15)), none, (.mv (.s (sl 0))), (some (0, []))⟩, ⟨(some (sl 16)), none, (.nck (.s (sl 15))), (some (1, []))⟩, ⟨(some (sl 17)), none, (.fld (.s (sl 16)) 3), (some (2, []))⟩, ⟨(some (sl 18)), none, (.ld false (.s (sl 17)) none), (some (3, []))⟩, ⟨(some (sl 19)), none, (.fld (.s (sl 5)) 4), (some (4, []))⟩, ⟨(some (sl 20)), none, (.ld true (.s (sl 19)) none), (some (5, []))⟩, ⟨(some (sl 21)), none, (.mget (.s (sl 18)) (.s (sl 20)) false .string (.int .u64 0)), (some (6, []))⟩, ⟨(some (sl 6)), none, (.mv (.s (sl 21))), (some (7, []))⟩])
  .ret)
  (.seq (.reg [⟨(some (sl 23)), none, (.bin .eql (.s (sl 8)) (.c (.int .i64 13))), none⟩, ⟨(some (sl 22)), none, (.mv (.s (sl 23))), none⟩])
  (.cond (.s (sl 22))
  (.seq (.reg [⟨(some (sl 24)), none, (.mv (.s (sl 0))), (some (0, []))⟩, ⟨(some (sl 25)), none, (.nck (.s (sl 24))), (some (1, []))⟩, ⟨(some (sl 26)), none, (.fld (.s (sl 25)) 3), (some (2, []))⟩, ⟨(some (sl 27)), none, (.ld false (.s (sl 26)) none), (some (3, []))⟩, ⟨(some (sl 28)), none, (.fld (.s (sl 5)) 4), (some (4, []))⟩, ⟨(some (sl 29)), none, (.ld true (.s (sl 28)) none), (some (5, []))⟩, ⟨(some (sl 30)), none, (.mv (.s (sl 1))), (some (6, []))⟩, ⟨(some (sl 31)), none, (.nck (.s (sl 30))), (some (7, []))⟩, ⟨(some (sl 32)), none, (.fld (.s (sl 31)) 6), (some (8, []))⟩, ⟨(some (sl 33)), none, (.ld false (.s (sl 32)) none), (some (9, []))⟩, ⟨(some (sl 34)), none, (.fld (.s (sl 5)) 1), (some (10, []))⟩, ⟨(some (sl 35)), none, (.ld true (.s (sl 34)) none), (some (11, []))⟩, ⟨(some (sl 36)), none, (.idx false (.s (sl 33)) (.s (sl 35)) 1), (some (12, []))⟩, ⟨(some (sl 37)), none, (.ld false (.s (sl 36)) none), (some (13, []))⟩, ⟨none, none, (.mset false (.s (sl 27)) (.s (sl 29)) (.s (sl 37)) .string), (some (14, []))⟩])
  (.seq (.reg [⟨(some (sl 6)), none, (.mv (.c (.int .u64 0))), none⟩])
  .ret))
  (.seq (.reg [⟨(some (sl 39)), none, (.bin .eql (.s (sl 8)) (.c (.int .i64 15))), none⟩, ⟨(some (sl 38)), none, (.mv (.s (sl 39))), none⟩])
  (.cond (.s (sl 38))
  (.seq (.seq (.reg [⟨(some (sl 40)), none, (.mv (.s (sl 0))), (some (0, []))⟩, ⟨(some (sl 41)), none, (.nck (.s (sl 40))), (some (1, []))⟩, ⟨(some (sl 42)), none, (.fld (.s (sl 41)) 5), (some (2, []))⟩, ⟨(some (sl 43)), none, (.fld (.s (sl 42)) 3), (some (3, []))⟩, ⟨(some (sl 44)), none, (.ld false (.s (sl 43)) none), (some (4, []))⟩, ⟨(some (sl 45)), none, (.mv (.s (sl 0))), (some (5, []))⟩, ⟨(some (sl 46)), none, (.nck (.s (sl 45))), (some (6, []))⟩, ⟨(some (sl 47)), none, (.fld (.s (sl 46)) 2), (some (7, []))⟩, ⟨(some (sl 48)), none, (.ld false (.s (sl 47)) none), (some (8, []))⟩, ⟨(some (sl 49)), none, (.len true (.s (sl 48))), (some (9, []))⟩, ⟨(some (sl 50)), none, (.bin .geq (.s (sl 44)) (.s (sl 49))), (some (10, []))⟩])
  (.cond (.s (sl 50))
  (.seq (.reg [⟨(some (sl 6)), none, (.mv (.c (.int .u64 256))), none⟩])
  .ret)
  .skip))
  (.seq (.reg [⟨(some (sl 51)), none, (.mv (.s (sl 0))), none⟩, ⟨(some (sl 52)), none, (.nck (.s (sl 51))), none⟩, ⟨(some (sl 53)), none, (.fld (.s (sl 52)) 5), none⟩, ⟨(some (sl 54)), none, (.fld (.s (sl 53)) 3), none⟩, ⟨(some (sl 55)), none, (.ld false (.s (sl 54)) none), none⟩, ⟨(some (sl 56)), none, (.bin .add (.s (sl 55)) (.c (.int .i64 1))), none⟩, ⟨(some (sl 57)), none, (.nck (.s (sl 51))), none⟩, ⟨(some (sl 58)), none, (.fld (.s (sl 57)) 5), none⟩, ⟨(some (sl 59)), none, (.fld (.s (sl 58)) 3), none⟩, ⟨none, none, (.st (.s (sl 59)) (.s (sl 56)) 1), none⟩])
  (.seq (.reg [⟨(some (sl 60)), none, (.mv (.s (sl 0))), (some (0, []))⟩, ⟨(some (sl 61)), none, (.nck (.s (sl 60))), (some (1, []))⟩, ⟨(some (sl 62)), none, (.fld (.s (sl 61)) 2), (some (2, []))⟩, ⟨(some (sl 63)), none, (.ld false (.s (sl 62)) none), (some (3, []))⟩, ⟨(some (sl 64)), none, (.mv (.s (sl 0))), (some (4, []))⟩, ⟨(some (sl 65)), none, (.nck (.s (sl 64))), (some (5, []))⟩, ⟨(some (sl 66)), none, (.fld (.s (sl 65)) 5), (some (6, []))⟩, ⟨(some (sl 67)), none, (.fld (.s (sl 66)) 3), (some (7, []))⟩, ⟨(some (sl 68)), none, (.ld false (.s (sl 67)) none), (some (8, []))⟩, ⟨(some (sl 69)), none, (.bin .sub (.s (sl 68)) (.c (.int .i64 1))), (some (9, []))⟩, ⟨(some (sl 70)), none, (.sidx (.s (sl 63)) (.s (sl 69))), (some (10, []))⟩, ⟨(some (sl 71)), none, (.cnv .u64 (.s (sl 70))), (some (11, []))⟩, ⟨(some (sl 6)), none, (.mv (.s (sl 71))), (some (12, []))⟩])
  .ret)))
  (.seq (.reg [⟨(some (sl 73)), none, (.bin .eql (.s (sl 8)) (.c (.int .i64 16))), none⟩, ⟨(some (sl 72)), none, (.mv (.s (sl 73))), none⟩])
  (.cond (.s (sl 72))
  (.seq (.reg [⟨(some (sl 74)), none, (.mv (.s (sl 0))), (some (0, []))⟩, ⟨(some (sl 75)), none, (.nck (.s (sl 74))), (some (1, []))⟩, ⟨(some (sl 76)), none, (.fld (.s (sl 75)) 5), (some (2, []))⟩, ⟨(some (sl 77)), none, (.fld (.s (sl 76)) 2), (some (3, []))⟩, ⟨(some (sl 78)), none, (.ld false (.s (sl 77)) none), (some (4, []))⟩, ⟨(some (sl 79)), none, (.mv (.s (sl 1))), (some (5, []))⟩, ⟨(some (sl 80)), none, (.nck (.s (sl 79))), (some (6, []))⟩, ⟨(some (sl 81)), none, (.fld (.s (sl 80)) 6), (some (7, []))⟩, ⟨(some (sl 82)), none, (.ld false (.s (sl 81)) none), (some (8, []))⟩, ⟨(some (sl 83)), none, (.fld (.s (sl 5)) 1), (some (9, []))⟩, ⟨(some (sl 84)), none, (.ld true (.s (sl 83)) none), (some (10, []))⟩, ⟨(some (sl 85)), none, (.idx false (.s (sl 82)) (.s (sl 84)) 1), (some (11, []))⟩, ⟨(some (sl 86)), none, (.ld false (.s (sl 85)) none), (some (12, []))⟩, ⟨(some (sl 87)), none, (.cnv .u8 (.s (sl 86))), (some (13, []))⟩, ⟨(some (sl 88)), none, (.mksl 1 1 [(.int .u8 0)] [(0, 1, (.s (sl 87)))]), (some (14, []))⟩, ⟨(some (sl 89)), none, (.cnvs (.s (sl 88))), (some (15, []))⟩, ⟨(some (sl 90)), none, (.bin .add (.s (sl 78)) (.s (sl 89))), (some (16, []))⟩, ⟨(some (sl 91)), none, (.nck (.s (sl 74))), (some (17, []))⟩, ⟨(some (sl 92)), none, (.fld (.s (sl 91)) 5), (some (18, []))⟩, ⟨(some (sl 93)), none, (.fld (.s (sl 92)) 2), (some (19, []))⟩, ⟨none, none, (.st (.s (sl 93)) (.s (sl 90)) 1), (some (20, []))⟩])
  (.seq (.reg [⟨(some (sl 6)), none, (.mv (.c (.int .u64 0))), none⟩])
  .ret))
  .skip))))))))))))
  (.seq (.reg [⟨(some (sl 94)), none, (.fld (.s (sl 5)) 0), (some (0, []))⟩, ⟨(some (sl 95)), none, (.ld true (.s (sl 94)) none), (some (1, []))⟩, ⟨(some (sl 96)), none, (.mv (.s (sl 1))), (some (2, []))⟩, ⟨(some (sl 97)), none, (.nck (.s (sl 96))), (some (3, []))⟩, ⟨(some (sl 98)), none, (.fld (.s (sl 97)) 6), (some (4, []))⟩, ⟨(some (sl 99)), none, (.ld false (.s (sl 98)) none), (some (5, []))⟩, ⟨(some (sl 100)), none, (.fld (.s (sl 5)) 1), (some (6, []))⟩, ⟨(some (sl 101)), none, (.ld true (.s (sl 100)) none), (some (7, []))⟩, ⟨(some (sl 102)), none, (.idx false (.s (sl 99)) (.s (sl 101)) 1), (some (8, []))⟩, ⟨(some (sl 103)), none, (.ld false (.s (sl 102)) none), (some (9, []))⟩, ⟨(some (sl 104)), none, (.mv (.s (sl 1))), (some (10, []))⟩, ⟨(some (sl 105)), none, (.nck (.s (sl 104))), (some (11, []))⟩, ⟨(some (sl 106)), none, (.fld (.s (sl 105)) 6), (some (12, []))⟩, ⟨(some (sl 107)), none, (.ld false (.s (sl 106)) none), (some (13, []))⟩, ⟨(some (sl 108)), none, (.fld (.s (sl 5)) 2), (some (14, []))⟩, ⟨(some (sl 109)), none, (.ld true (.s (sl 108)) none), (some (15, []))⟩, ⟨(some (sl 110)), none, (.idx false (.s (sl 107)) (.s (sl 109)) 1), (some (16, []))⟩, ⟨(some (sl 111)), none, (.ld false (.s (sl 110)) none), (some (17, []))⟩, ⟨(some (sl 112)), none, (.call false (.f 17) [(.s (sl 95)), (.s (sl 103)), (.s (sl 111))]), (some (18, []))⟩, ⟨(some (sl 6)), none, (.mv (.s (sl 112))), (some (19, []))⟩])
  .ret)))
def r___eval_run__gives : List ARes := [(.tmp (sl 6))]
theorem t___eval_run__gives : (Try.f23).body.bind (trCode Try.prog 8 (Try.f23).ntmps [0, 1, 15, 16, 17, 18, 24, 25, 26, 27, 30, 31, 32, 33, 36, 37, 40, 41, 42, 43, 44, 45, 46, 47, 48, 51, 52, 53, 54, 55, 57, 58, 59, 60, 61, 62, 63, 64, 65, 66, 67, 68, 74, 75, 76, 77, 78, 79, 80, 81, 82, 85, 86, 91, 92, 93, 96, 97, 98, 99, 102, 103, 104, 105, 106, 107, 110, 111] [(24, 29, 1), (19, 0, 0), (20, 0, 0), (21, 0, 0), (22, 0, 0), (23, 0, 0)] (drOk 8)) = some c___eval_run__gives := by kernel_rfl
theorem u___eval_run__gives : trRess Try.prog 8 (Try.f23).results.toList = some r___eval_run__gives := by kernel_rfl

/-- marline/eval.Run$1 -/
def c_eval_Run_1 : ACode :=
  (.seq (.reg [⟨(some (sl 4)), none, (.box true (.s (sl 1))), none⟩, ⟨(some (sl 5)), none, (.mv (.c (.bool false))), none⟩])
  (.seq (.block 0
  (.seq (.reg [⟨(some (sl 13)), none, (.fld (.s (sl 4)) 0), none⟩, ⟨(some (sl 14)), none, (.ld true (.s (sl 13)) none), none⟩, ⟨(some (sl 15)), none, (.bin .eql (.s (sl 14)) (.c (.int .i64 3))), none⟩, ⟨(some (sl 12)), none, (.mv (.s (sl 15))), none⟩])
  (.cond (.s (sl 12))
  (.seq (.reg [⟨(some (sl 16)), none, (.ld false (.s (sl 2)) none), (some (0, []))⟩, ⟨(some (sl 17)), none, (.mv (.s (sl 0))), (some (1, []))⟩, ⟨(some (sl 18)), none, (.nck (.s (sl 17))), (some (2, []))⟩, ⟨(some (sl 19)), none, (.fld (.s (sl 18)) 6), (some (3, []))⟩, ⟨(some (sl 20)), none, (.ld false (.s (sl 19)) none), (some (4, []))⟩, ⟨(some (sl 21)), none, (.fld (.s (sl 4)) 1), (some (5, []))⟩, ⟨(some (sl 22)), none, (.ld true (.s (sl 21)) none), (some (6, []))⟩, ⟨(some (sl 23)), none, (.idx false (.s (sl 20)) (.s (sl 22)) 1), (some (7, []))⟩, ⟨(some (sl 24)), none, (.ld false (.s (sl 23)) none), (some (8, []))⟩, ⟨(some (sl 25)), none, (.calle (.f 21) [(.s (sl 16)), (.s (sl 24))]), (some (9, []))⟩, ⟨(some (sl 5)), none, (.mv (.s (sl 25))), (some (10, []))⟩])
  .ret)
  (.seq (.reg [⟨(some (sl 27)), none, (.fld (.s (sl 4)) 0), (some (0, []))⟩, ⟨(some (sl 28)), none, (.ld true (.s (sl 27)) none), (some (1, []))⟩, ⟨(some (sl 29)), none, (.bin .eql (.s (sl 28)) (.c (.int .i64 2))), (some (2, []))⟩, ⟨(some (sl 30)), none, (.mv (.s (sl 29))), (some (3, []))⟩, ⟨(some (sl 31)), (some ((sl 30), true)), (.mv (.s (sl 0))), (some (4, []))⟩, ⟨(some (sl 32)), (some ((sl 30), true)), (.nck (.s (sl 31))), (some (5, []))⟩, ⟨(some (sl 33)), (some ((sl 30), true)), (.fld (.s (sl 32)) 6), (some (6, []))⟩, ⟨(some (sl 34)), (some ((sl 30), true)), (.ld false (.s (sl 33)) none), (some (7, []))⟩, ⟨(some (sl 35)), (some ((sl 30), true)), (.fld (.s (sl 4)) 1), (some (8, []))⟩, ⟨(some (sl 36)), (some ((sl 30), true)), (.ld true (.s (sl 35)) none), (some (9, []))⟩, ⟨(some (sl 37)), (some ((sl 30), true)), (.idx false (.s (sl 34)) (.s (sl 36)) 1), (some (10, []))⟩, ⟨(some (sl 38)), (some ((sl 30), true)), (.ld false (.s (sl 37)) none), (some (11, []))⟩, ⟨(some (sl 39)), (some ((sl 30), true)), (.bin .eql (.s (sl 38)) (.c (.int .u64 0))), (some (12, []))⟩, ⟨(some (sl 40)), none, (.pick (.s (sl 30)) (.s (sl 39)) (.c (.bool false))), (some (13, []))⟩, ⟨(some (sl 26)), none, (.mv (.s (sl 40))), (some (14, []))⟩])
  (.cond (.s (sl 26))
  (.reg [⟨(some (sl 41)), none, (.mv (.s (sl 0))), none⟩, ⟨(some (sl 42)), none, (.fld (.s (sl 4)) 4), none⟩, ⟨(some (sl 43)), none, (.ld true (.s (sl 42)) none), none⟩, ⟨(some (sl 44)), none, (.fld (.s (sl 4)) 5), none⟩, ⟨(some (sl 45)), none, (.ld true (.s (sl 44)) none), none⟩, ⟨(some (sl 46)), none, (.calle (.f 22) [(.s (sl 41)), (.s (sl 43)), (.s (sl 45))]), none⟩])
  (.reg [⟨(some (sl 6)), none, (.mv (.s (sl 0))), none⟩, ⟨(some (sl 7)), none, (.fld (.s (sl 4)) 2), none⟩, ⟨(some (sl 8)), none, (.ld true (.s (sl 7)) none), none⟩, ⟨(some (sl 9)), none, (.fld (.s (sl 4)) 3), none⟩, ⟨(some (sl 10)), none, (.ld true (.s (sl 9)) none), none⟩, ⟨(some (sl 11)), none, (.calle (.f 22) [(.s (sl 6)), (.s (sl 8)), (.s (sl 10))]), none⟩]))))))
  (.seq (.reg [⟨(some (sl 5)), none, (.mv (.c (.bool true))), none⟩])
  .ret)))
def r_eval_Run_1 : List ARes := [(.tmp (sl 5))]
theorem t_eval_Run_1 : (Try.f20).body.bind (trCode Try.prog 8 (Try.f20).ntmps [0, 2, 5, 6, 11, 16, 17, 18, 19, 20, 23, 24, 25, 31, 32, 33, 34, 37, 38, 41, 46] [(24, 29, 1), (19, 0, 0), (20, 0, 0), (21, 0, 0), (22, 0, 0), (23, 0, 0)] (drOk 8)) = some c_eval_Run_1 := by kernel_rfl
theorem u_eval_Run_1 : trRess Try.prog 8 (Try.f20).results.toList = some r_eval_Run_1 := by kernel_rfl

/-- marline/eval.Reckon -/
def c_eval_Reckon : ACode :=
  (.seq (.reg [⟨(some (sl 6)), none, (.mv (.c (.int .u64 0))), none⟩])
  (.seq (.seq (.reg [⟨(some (sl 7)), none, (.mv (.s (sl 0))), none⟩])
  (.block 0
  (.seq (.block 10
  (.seq (.block 9
  (.seq (.block 8
  (.seq (.block 7
  (.seq (.block 6
  (.seq (.block 5
  (.seq (.block 4
  (.seq (.block 3
  (.seq (.block 2
  (.seq (.block 1
  (.seq (.seq (.seq (.reg [⟨(some (sl 9)), none, (.bin .eql (.s (sl 7)) (.c (.int .i64 3))), none⟩, ⟨(some (sl 8)), none, (.mv (.s (sl 9))), none⟩])
  (.cond (.s (sl 8))
  (.exit 1)
  .skip))
  (.seq (.seq (.reg [⟨(some (sl 11)), none, (.bin .eql (.s (sl 7)) (.c (.int .i64 2))), none⟩, ⟨(some (sl 10)), none, (.mv (.s (sl 11))), none⟩])
  (.cond (.s (sl 10))
  (.exit 2)
  .skip))
  (.seq (.seq (.reg [⟨(some (sl 13)), none, (.bin .eql (.s (sl 7)) (.c (.int .i64 4))), none⟩, ⟨(some (sl 12)), none, (.mv (.s (sl 13))), none⟩])
  (.cond (.s (sl 12))
  (.exit 3)
  .skip))
  (.seq (.seq (.reg [⟨(some (sl 15)), none, (.bin .eql (.s (sl 7)) (.c (.int .i64 5))), none⟩, ⟨(some (sl 14)), none, (.mv (.s (sl 15))), none⟩])
  (.cond (.s (sl 14))
  (.exit 4)
  .skip))
  (.seq (.seq (.reg [⟨(some (sl 17)), none, (.bin .eql (.s (sl 7)) (.c (.int .i64 6))), none⟩, ⟨(some (sl 16)), none, (.mv (.s (sl 17))), none⟩])
  (.cond (.s (sl 16))
  (.exit 5)
  .skip))
  (.seq (.seq (.reg [⟨(some (sl 19)), none, (.bin .eql (.s (sl 7)) (.c (.int .i64 7))), none⟩, ⟨(some (sl 18)), none, (.mv (.s (sl 19))), none⟩])
  (.cond (.s (sl 18))
  (.exit 6)
  .skip))
  (.seq (.seq (.reg [⟨(some (sl 21)), none, (.bin .eql (.s (sl 7)) (.c (.int .i64 8))), none⟩, ⟨(some (sl 20)), none, (.mv (.s (sl 21))), none⟩])
  (.cond (.s (sl 20))
  (.exit 7)
  .skip))
  (.seq (.seq (.reg [⟨(some (sl 23)), none, (.bin .eql (.s (sl 7)) (.c (.int .i64 9))), none⟩, ⟨(some (sl 22)), none, (.mv (.s (sl 23))), none⟩])
  (.cond (.s (sl 22))
  (.exit 8)
  .skip))
  (.seq (.seq (.reg [⟨(some (sl 25)), none, (.bin .eql (.s (sl 7)) (.c (.int .i64 10))), none⟩, ⟨(some (sl 24)), none, (.mv (.s (sl 25))), none⟩])
  (.cond (.s (sl 24))
  (.exit 9)
  .skip))
  (.seq (.reg [⟨(some (sl 27)), none, (.bin .eql (.s (sl 7)) (.c (.int .i64 11))), none⟩, ⟨(some (sl 26)), none, (.mv (.s (sl 27))), none⟩])
  (.cond (.s (sl 26))
  (.exit 10)
  .skip)))))))))))
  (.exit 0)))
  (.reg [⟨(some (sl 28)), none, (.mv (.s (sl 2))), none⟩, ⟨(some (sl 29)), none, (.bin .sub (.c (.int .u64 0)) (.s (sl 28))), none⟩, ⟨(some (sl 2)), none, (.mv (.s (sl 29))), none⟩])))
  (.seq (.seq (.reg [⟨(some (sl 30)), none, (.mv (.s (sl 1))), none⟩, ⟨(some (sl 31)), none, (.mv (.s (sl 2))), none⟩, ⟨(some (sl 32)), none, (.bin .add (.s (sl 30)) (.s (sl 31))), none⟩, ⟨(some (sl 6)), none, (.mv (.s (sl 32))), none⟩])
  .ret)
  (.exit 0))))
  (.seq (.seq (.reg [⟨(some (sl 33)), none, (.mv (.s (sl 1))), none⟩, ⟨(some (sl 34)), none, (.mv (.s (sl 2))), none⟩, ⟨(some (sl 35)), none, (.bin .mul (.s (sl 33)) (.s (sl 34))), none⟩, ⟨(some (sl 6)), none, (.mv (.s (sl 35))), none⟩])
  .ret)
  (.exit 0))))
  (.seq (.seq (.reg [⟨(some (sl 36)), none, (.mv (.s (sl 1))), none⟩, ⟨(some (sl 37)), none, (.mv (.s (sl 2))), none⟩, ⟨(some (sl 38)), none, (.bin .and (.s (sl 36)) (.s (sl 37))), none⟩, ⟨(some (sl 6)), none, (.mv (.s (sl 38))), none⟩])
  .ret)
  (.exit 0))))
  (.seq (.seq (.reg [⟨(some (sl 39)), none, (.mv (.s (sl 1))), none⟩, ⟨(some (sl 40)), none, (.mv (.s (sl 2))), none⟩, ⟨(some (sl 41)), none, (.bin .or (.s (sl 39)) (.s (sl 40))), none⟩, ⟨(some (sl 6)), none, (.mv (.s (sl 41))), none⟩])
  .ret)
  (.exit 0))))
  (.seq (.seq (.reg [⟨(some (sl 42)), none, (.mv (.s (sl 1))), none⟩, ⟨(some (sl 43)), none, (.mv (.s (sl 2))), none⟩, ⟨(some (sl 44)), none, (.bin .xor (.s (sl 42)) (.s (sl 43))), none⟩, ⟨(some (sl 6)), none, (.mv (.s (sl 44))), none⟩])
  .ret)
  (.exit 0))))
  (.seq (.seq (.reg [⟨(some (sl 45)), none, (.mv (.s (sl 1))), none⟩, ⟨(some (sl 46)), none, (.mv (.s (sl 2))), none⟩, ⟨(some (sl 47)), none, (.bin .rem (.s (sl 46)) (.c (.int .u64 64))), none⟩, ⟨(some (sl 48)), none, (.bin .shl (.s (sl 45)) (.s (sl 47))), none⟩, ⟨(some (sl 6)), none, (.mv (.s (sl 48))), none⟩])
  .ret)
  (.exit 0))))
  (.seq (.seq (.reg [⟨(some (sl 49)), none, (.mv (.s (sl 1))), none⟩, ⟨(some (sl 50)), none, (.mv (.s (sl 2))), none⟩, ⟨(some (sl 51)), none, (.bin .rem (.s (sl 50)) (.c (.int .u64 64))), none⟩, ⟨(some (sl 52)), none, (.bin .shr (.s (sl 49)) (.s (sl 51))), none⟩, ⟨(some (sl 6)), none, (.mv (.s (sl 52))), none⟩])
  .ret)
  (.exit 0))))
  (.seq (.seq (.reg [⟨(some (sl 53)), none, (.mv (.s (sl 1))), none⟩, ⟨(some (sl 54)), none, (.mv (.s (sl 2))), none⟩, ⟨(some (sl 55)), none, (.bin .lss (.s (sl 53)) (.s (sl 54))), none⟩, ⟨(some (sl 56)), none, (.call true (.f 35) [(.s (sl 55))]), none⟩, ⟨(some (sl 6)), none, (.mv (.s (sl 56))), none⟩])
  .ret)
  (.exit 0))))
  (.seq (.seq (.reg [⟨(some (sl 57)), none, (.mv (.s (sl 1))), none⟩, ⟨(some (sl 58)), none, (.mv (.s (sl 2))), none⟩, ⟨(some (sl 59)), none, (.bin .eql (.s (sl 57)) (.s (sl 58))), none⟩, ⟨(some (sl 60)), none, (.call true (.f 35) [(.s (sl 59))]), none⟩, ⟨(some (sl 6)), none, (.mv (.s (sl 60))), none⟩])
  .ret)
  (.exit 0)))))
  (.seq (.reg [⟨(some (sl 6)), none, (.mv (.c (.int .u64 0))), none⟩])
  .ret)))
def r_eval_Reckon : List ARes := [(.tmp (sl 6))]
theorem t_eval_Reckon : (Try.f17).body.bind (trCode Try.prog 8 (Try.f17).ntmps [] [(24, 29, 1), (19, 0, 0), (20, 0, 0), (21, 0, 0), (22, 0, 0), (23, 0, 0)] (drOk 8)) = some c_eval_Reckon := by kernel_rfl
theorem u_eval_Reckon : trRess Try.prog 8 (Try.f17).results.toList = some r_eval_Reckon := by kernel_rfl

/-- marline/eval.one -/
def c_eval_one : ACode :=
  (.seq (.reg [⟨(some (sl 2)), none, (.mv (.c (.int .u64 0))), none⟩])
  (.seq (.seq (.reg [⟨(some (sl 3)), none, (.mv (.s (sl 0))), none⟩])
  (.cond (.s (sl 3))
  (.seq (.reg [⟨(some (sl 2)), none, (.mv (.c (.int .u64 1))), none⟩])
  .ret)
  .skip))
  (.seq (.reg [⟨(some (sl 2)), none, (.mv (.c (.int .u64 0))), none⟩])
  .ret)))
def r_eval_one : List ARes := [(.tmp (sl 2))]
theorem t_eval_one : (Try.f35).body.bind (trCode Try.prog 8 (Try.f35).ntmps [] [(24, 29, 1), (19, 0, 0), (20, 0, 0), (21, 0, 0), (22, 0, 0), (23, 0, 0)] (drOk 8)) = some c_eval_one := by kernel_rfl
theorem u_eval_one : trRess Try.prog 8 (Try.f35).results.toList = some r_eval_one := by kernel_rfl

/-- marline/eval.find -/
def c_eval_find : ACode :=
  (.seq (.reg [⟨(some (sl 2)), none, (.box true (.s (sl 0))), none⟩, ⟨(some (sl 3)), none, (.box true (.s (sl 1))), none⟩, ⟨(some (sl 4)), none, (.new [(.string ⟨#[]⟩), (.int .i64 0), (.int .i64 0), (.slice none 0 0)]), none⟩, ⟨(some (sl 5)), none, (.mv (.c (.bool false))), none⟩])
  (.seq (.reg [⟨(some (sl 7)), none, (.fld (.s (sl 2)) 0), none⟩, ⟨(some (sl 8)), none, (.ld true (.s (sl 7)) none), none⟩, ⟨(some (sl 9)), none, (.mkfn 44 [(.s (sl 3))]), none⟩, ⟨(some (sl 10)), none, (.call true (.f 43) [(.s (sl 8)), (.s (sl 9))]), none⟩, ⟨(some (sl 6)), none, (.mv (.s (sl 10))), none⟩])
  (.seq (.seq (.reg [⟨(some (sl 11)), none, (.mv (.s (sl 6))), none⟩, ⟨(some (sl 12)), none, (.bin .lss (.s (sl 11)) (.c (.int .i64 0))), none⟩])
  (.cond (.s (sl 12))
  (.seq (.reg [⟨(some (sl 13)), none, (.bld [(.string ⟨#[]⟩), (.int .i64 0), (.int .i64 0), (.slice none 0 0)] []), none⟩, ⟨none, none, (.st (.s (sl 4)) (.s (sl 13)) 4), none⟩, ⟨(some (sl 5)), none, (.mv (.c (.bool false))), none⟩])
  .ret)
  .skip))
  (.seq (.reg [⟨(some (sl 14)), none, (.fld (.s (sl 2)) 0), none⟩, ⟨(some (sl 15)), none, (.ld true (.s (sl 14)) none), none⟩, ⟨(some (sl 16)), none, (.mv (.s (sl 6))), none⟩, ⟨(some (sl 17)), none, (.idx true (.s (sl 15)) (.s (sl 16)) 4), none⟩, ⟨(some (sl 18)), none, (.ld true (.s (sl 17)) (some 4)), none⟩, ⟨none, none, (.st (.s (sl 4)) (.s (sl 18)) 4), none⟩, ⟨(some (sl 5)), none, (.mv (.c (.bool true))), none⟩])
  .ret))))
def r_eval_find : List ARes := [(.cell (sl 4) (some 4)), (.tmp (sl 5))]
theorem t_eval_find : (Try.f27).body.bind (trCode Try.prog 8 (Try.f27).ntmps [4] [(24, 29, 1), (19, 0, 0), (20, 0, 0), (21, 0, 0), (22, 0, 0), (23, 0, 0)] (drOk 8)) = some c_eval_find := by kernel_rfl
theorem u_eval_find : trRess Try.prog 8 (Try.f27).results.toList = some r_eval_find := by kernel_rfl

/-- marline/eval.find$1 -/
def c_eval_find_1 : ACode :=
  (.seq (.reg [⟨(some (sl 2)), none, (.box true (.s (sl 0))), none⟩, ⟨(some (sl 3)), none, (.mv (.c (.bool false))), none⟩])
  (.seq (.reg [⟨(some (sl 4)), none, (.fld (.s (sl 2)) 0), none⟩, ⟨(some (sl 5)), none, (.ld true (.s (sl 4)) none), none⟩, ⟨(some (sl 6)), none, (.ld true (.s (sl 1)) none), none⟩, ⟨(some (sl 7)), none, (.bin .eql (.s (sl 5)) (.s (sl 6))), none⟩, ⟨(some (sl 3)), none, (.mv (.s (sl 7))), none⟩])
  .ret))
def r_eval_find_1 : List ARes := [(.tmp (sl 3))]
theorem t_eval_find_1 : (Try.f44).body.bind (trCode Try.prog 8 (Try.f44).ntmps [] [(24, 29, 1), (19, 0, 0), (20, 0, 0), (21, 0, 0), (22, 0, 0), (23, 0, 0)] (drOk 8)) = some c_eval_find_1 := by kernel_rfl
theorem u_eval_find_1 : trRess Try.prog 8 (Try.f44).results.toList = some r_eval_find_1 := by kernel_rfl

end Go.Proofs.Ytpfokkfomgmibaa
