/- The bodies of some functions, as the evaluator has them (printed by program), and that they are the program's own. -/
import Derived.Test.YtpfokkfomgmibaaKE
namespace Go.Proofs.Ytpfokkfomgmibaa
open Go.RowKit

/-- marline/marlineref07.gives -/
def c_marlineref07_gives : ACode :=
  (.seq (.reg [⟨(some (sl 5)), none, (.box true (.s (sl 0))), none⟩, ⟨(some (sl 6)), none, (.box false (.s (sl 1))), none⟩, ⟨(some (sl 8)), none, (.box true (.s (sl 3))), none⟩, ⟨(some (sl 10)), none, (.new [(.bool false), (.int .u64 0), (.string ⟨#[]⟩), (.int .i64 0), (.int .i64 0), (.int .i64 0), (.slice none 0 0), (.int .i64 0)]), none⟩, ⟨(some (sl 11)), none, (.mv (.c (.int .u64 0))), none⟩])
  (.seq (.seq (.reg [⟨(some (sl 13)), none, (.fld (.s (sl 8)) 0), none⟩, ⟨(some (sl 14)), none, (.ld true (.s (sl 13)) none), none⟩, ⟨(some (sl 15)), none, (.bin .eql (.s (sl 14)) (.c (.int .i64 1))), none⟩])
  (.cond (.s (sl 15))
  (.seq (.reg [⟨(some (sl 16)), none, (.ld false (.s (sl 6)) (some 8)), (some (0, []))⟩, ⟨(some (sl 17)), none, (.fld (.s (sl 8)) 3), (some (1, []))⟩, ⟨(some (sl 18)), none, (.ld true (.s (sl 17)) none), (some (2, []))⟩, ⟨none, none, (.st (.s (sl 10)) (.s (sl 16)) 8), (some (3, []))⟩, ⟨(some (sl 11)), none, (.mv (.s (sl 18))), (some (4, []))⟩])
  .ret)
  .skip))
  (.seq (.seq (.reg [⟨(some (sl 19)), none, (.fld (.s (sl 8)) 0), none⟩, ⟨(some (sl 20)), none, (.ld true (.s (sl 19)) none), none⟩, ⟨(some (sl 21)), none, (.bin .eql (.s (sl 20)) (.c (.int .i64 12))), none⟩])
  (.cond (.s (sl 21))
  (.seq (.reg [⟨(some (sl 22)), none, (.ld false (.s (sl 6)) (some 8)), (some (0, [(sl 10)]))⟩, ⟨(some (sl 23)), none, (.fld (.s (sl 6)) 6), (some (1, [(sl 10)]))⟩, ⟨(some (sl 24)), none, (.ld false (.s (sl 23)) none), (some (2, [(sl 10)]))⟩, ⟨(some (sl 25)), none, (.ld true (.s (sl 5)) (some 2)), (some (3, [(sl 10)]))⟩, ⟨(some (sl 26)), none, (.fld (.s (sl 8)) 4), (some (4, [(sl 10)]))⟩, ⟨(some (sl 27)), none, (.ld true (.s (sl 26)) none), (some (5, [(sl 10)]))⟩, ⟨(some (sl 28)), none, (.call true (.f 34) [(.s (sl 25)), (.s (sl 27))]), (some (6, [(sl 10)]))⟩, ⟨(some (sl 29)), none, (.idx false (.s (sl 24)) (.s (sl 28)) 1), (some (7, [(sl 10)]))⟩, ⟨(some (sl 30)), none, (.ld false (.s (sl 29)) none), (some (8, [(sl 10)]))⟩, ⟨none, none, (.st (.s (sl 10)) (.s (sl 22)) 8), (some (9, [(sl 10)]))⟩, ⟨(some (sl 11)), none, (.mv (.s (sl 30))), (some (10, [(sl 10)]))⟩])
  .ret)
  .skip))
  (.seq (.seq (.reg [⟨(some (sl 31)), none, (.fld (.s (sl 8)) 0), none⟩, ⟨(some (sl 32)), none, (.ld true (.s (sl 31)) none), none⟩, ⟨(some (sl 33)), none, (.bin .eql (.s (sl 32)) (.c (.int .i64 13))), none⟩])
  (.cond (.s (sl 33))
  (.seq (.reg [⟨(some (sl 34)), none, (.nrow 29 1), none⟩, ⟨(some (sl 35)), none, (.fld (.s (sl 6)) 6), none⟩, ⟨(some (sl 36)), none, (.ld false (.s (sl 35)) none), none⟩, ⟨(some (sl 37)), none, (.vapp 29 1 8 (.s (sl 34)) (.s (sl 36))), none⟩, ⟨(some (sl 12)), none, (.mv (.s (sl 37))), none⟩])
  (.seq (.reg [⟨(some (sl 38)), none, (.mv (.s (sl 12))), (some (0, []))⟩, ⟨(some (sl 39)), none, (.ld true (.s (sl 5)) (some 2)), (some (1, []))⟩, ⟨(some (sl 40)), none, (.fld (.s (sl 8)) 4), (some (2, []))⟩, ⟨(some (sl 41)), none, (.ld true (.s (sl 40)) none), (some (3, []))⟩, ⟨(some (sl 42)), none, (.call true (.f 34) [(.s (sl 39)), (.s (sl 41))]), (some (4, []))⟩, ⟨(some (sl 43)), none, (.mv (.s (sl 4))), (some (5, []))⟩, ⟨(some (sl 44)), none, (.fld (.s (sl 8)) 1), (some (6, []))⟩, ⟨(some (sl 45)), none, (.ld true (.s (sl 44)) none), (some (7, []))⟩, ⟨(some (sl 46)), none, (.idx true (.s (sl 43)) (.s (sl 45)) 1), (some (8, []))⟩, ⟨(some (sl 47)), none, (.ld true (.s (sl 46)) none), (some (9, []))⟩, ⟨(some (sl 48)), none, (.idx false (.s (sl 38)) (.s (sl 42)) 1), (some (10, []))⟩, ⟨none, none, (.st (.s (sl 48)) (.s (sl 47)) 1), (some (11, []))⟩])
  (.seq (.reg [⟨(some (sl 49)), none, (.mv (.s (sl 12))), none⟩, ⟨(some (sl 50)), none, (.fld (.s (sl 6)) 6), none⟩, ⟨none, none, (.st (.s (sl 50)) (.s (sl 49)) 1), none⟩])
  (.seq (.reg [⟨(some (sl 51)), none, (.ld false (.s (sl 6)) (some 8)), none⟩, ⟨none, none, (.st (.s (sl 10)) (.s (sl 51)) 8), none⟩, ⟨(some (sl 11)), none, (.mv (.c (.int .u64 0))), none⟩])
  .ret))))
  .skip))
  (.seq (.seq (.reg [⟨(some (sl 52)), none, (.fld (.s (sl 8)) 0), none⟩, ⟨(some (sl 53)), none, (.ld true (.s (sl 52)) none), none⟩, ⟨(some (sl 54)), none, (.bin .eql (.s (sl 53)) (.c (.int .i64 15))), none⟩])
  (.cond (.s (sl 54))
  (.seq (.seq (.reg [⟨(some (sl 55)), none, (.fld (.s (sl 6)) 0), none⟩, ⟨(some (sl 56)), none, (.fld (.s (sl 55)) 3), none⟩, ⟨(some (sl 57)), none, (.ld false (.s (sl 56)) none), none⟩, ⟨(some (sl 58)), none, (.mv (.s (sl 2))), none⟩, ⟨(some (sl 59)), none, (.len true (.s (sl 58))), none⟩, ⟨(some (sl 60)), none, (.bin .geq (.s (sl 57)) (.s (sl 59))), none⟩])
  (.cond (.s (sl 60))
  (.seq (.reg [⟨(some (sl 61)), none, (.ld false (.s (sl 6)) (some 8)), none⟩, ⟨none, none, (.st (.s (sl 10)) (.s (sl 61)) 8), none⟩, ⟨(some (sl 11)), none, (.mv (.c (.int .u64 256))), none⟩])
  .ret)
  .skip))
  (.seq (.reg [⟨(some (sl 62)), none, (.fld (.s (sl 6)) 0), none⟩, ⟨(some (sl 63)), none, (.fld (.s (sl 62)) 3), none⟩, ⟨(some (sl 64)), none, (.ld false (.s (sl 63)) none), none⟩, ⟨(some (sl 65)), none, (.bin .add (.s (sl 64)) (.c (.int .i64 1))), none⟩, ⟨(some (sl 66)), none, (.fld (.s (sl 6)) 0), none⟩, ⟨(some (sl 67)), none, (.fld (.s (sl 66)) 3), none⟩, ⟨none, none, (.st (.s (sl 67)) (.s (sl 65)) 1), none⟩])
  (.seq (.reg [⟨(some (sl 68)), none, (.ld false (.s (sl 6)) (some 8)), (some (0, [(sl 10)]))⟩, ⟨(some (sl 69)), none, (.mv (.s (sl 2))), (some (1, [(sl 10)]))⟩, ⟨(some (sl 70)), none, (.fld (.s (sl 6)) 0), (some (2, [(sl 10)]))⟩, ⟨(some (sl 71)), none, (.fld (.s (sl 70)) 3), (some (3, [(sl 10)]))⟩, ⟨(some (sl 72)), none, (.ld false (.s (sl 71)) none), (some (4, [(sl 10)]))⟩, ⟨(some (sl 73)), none, (.bin .sub (.s (sl 72)) (.c (.int .i64 1))), (some (5, [(sl 10)]))⟩, ⟨(some (sl 74)), none, (.sidx (.s (sl 69)) (.s (sl 73))), (some (6, [(sl 10)]))⟩, ⟨(some (sl 75)), none, (.cnv .u64 (.s (sl 74))), (some (7, [(sl 10)]))⟩, ⟨none, none, (.st (.s (sl 10)) (.s (sl 68)) 8), (some (8, [(sl 10)]))⟩, ⟨(some (sl 11)), none, (.mv (.s (sl 75))), (some (9, [(sl 10)]))⟩])
  .ret)))
  .skip))
  (.seq (.seq (.reg [⟨(some (sl 76)), none, (.fld (.s (sl 8)) 0), none⟩, ⟨(some (sl 77)), none, (.ld true (.s (sl 76)) none), none⟩, ⟨(some (sl 78)), none, (.bin .eql (.s (sl 77)) (.c (.int .i64 16))), none⟩])
  (.cond (.s (sl 78))
  (.seq (.reg [⟨(some (sl 79)), none, (.fld (.s (sl 6)) 0), (some (0, []))⟩, ⟨(some (sl 80)), none, (.fld (.s (sl 79)) 2), (some (1, []))⟩, ⟨(some (sl 81)), none, (.ld false (.s (sl 80)) none), (some (2, []))⟩, ⟨(some (sl 82)), none, (.mv (.s (sl 4))), (some (3, []))⟩, ⟨(some (sl 83)), none, (.fld (.s (sl 8)) 1), (some (4, []))⟩, ⟨(some (sl 84)), none, (.ld true (.s (sl 83)) none), (some (5, []))⟩, ⟨(some (sl 85)), none, (.idx true (.s (sl 82)) (.s (sl 84)) 1), (some (6, []))⟩, ⟨(some (sl 86)), none, (.ld true (.s (sl 85)) none), (some (7, []))⟩, ⟨(some (sl 87)), none, (.bin .rem (.s (sl 86)) (.c (.int .u64 256))), (some (8, []))⟩, ⟨(some (sl 88)), none, (.cnv .u8 (.s (sl 87))), (some (9, []))⟩, ⟨(some (sl 89)), none, (.mksl 1 1 [(.int .u8 0)] [(0, 1, (.s (sl 88)))]), (some (10, []))⟩, ⟨(some (sl 90)), none, (.cnvs (.s (sl 89))), (some (11, []))⟩, ⟨(some (sl 91)), none, (.bin .add (.s (sl 81)) (.s (sl 90))), (some (12, []))⟩, ⟨(some (sl 92)), none, (.fld (.s (sl 6)) 0), (some (13, []))⟩, ⟨(some (sl 93)), none, (.fld (.s (sl 92)) 2), (some (14, []))⟩, ⟨none, none, (.st (.s (sl 93)) (.s (sl 91)) 1), (some (15, []))⟩])
  (.seq (.reg [⟨(some (sl 94)), none, (.ld false (.s (sl 6)) (some 8)), none⟩, ⟨none, none, (.st (.s (sl 10)) (.s (sl 94)) 8), none⟩, ⟨(some (sl 11)), none, (.mv (.c (.int .u64 0))), none⟩])
  .ret))
  .skip))
  (.seq (.reg [⟨(some (sl 95)), none, (.ld false (.s (sl 6)) (some 8)), (some (0, []))⟩, ⟨(some (sl 96)), none, (.fld (.s (sl 8)) 0), (some (1, []))⟩, ⟨(some (sl 97)), none, (.ld true (.s (sl 96)) none), (some (2, []))⟩, ⟨(some (sl 98)), none, (.mv (.s (sl 4))), (some (3, []))⟩, ⟨(some (sl 99)), none, (.fld (.s (sl 8)) 1), (some (4, []))⟩, ⟨(some (sl 100)), none, (.ld true (.s (sl 99)) none), (some (5, []))⟩, ⟨(some (sl 101)), none, (.idx true (.s (sl 98)) (.s (sl 100)) 1), (some (6, []))⟩, ⟨(some (sl 102)), none, (.ld true (.s (sl 101)) none), (some (7, []))⟩, ⟨(some (sl 103)), none, (.mv (.s (sl 4))), (some (8, []))⟩, ⟨(some (sl 104)), none, (.fld (.s (sl 8)) 2), (some (9, []))⟩, ⟨(some (sl 105)), none, (.ld true (.s (sl 104)) none), (some (10, []))⟩, ⟨(some (sl 106)), none, (.idx true (.s (sl 103)) (.s (sl 105)) 1), (some (11, []))⟩, ⟨(some (sl 107)), none, (.ld true (.s (sl 106)) none), (some (12, []))⟩, ⟨(some (sl 108)), none, (.call true (.f 18) [(.s (sl 97)), (.s (sl 102)), (.s (sl 107))]), (some (13, []))⟩, ⟨none, none, (.st (.s (sl 10)) (.s (sl 95)) 8), (some (14, []))⟩, ⟨(some (sl 11)), none, (.mv (.s (sl 108))), (some (15, []))⟩])
  .ret)))))))
def r_marlineref07_gives : List ARes := [(.cell (sl 10) (some 8)), (.tmp (sl 11))]
theorem t_marlineref07_gives : (Try.f39).body.bind (trCode Try.prog 8 (Try.f39).ntmps [6, 10, 11, 12, 16, 22, 23, 24, 29, 30, 35, 36, 37, 38, 48, 49, 50, 51, 55, 56, 57, 61, 62, 63, 64, 66, 67, 68, 70, 71, 72, 79, 80, 81, 92, 93, 94, 95] [(2000037, 0, 1)] (drOk 8)) = some c_marlineref07_gives := by kernel_rfl
theorem u_marlineref07_gives : trRess Try.prog 8 (Try.f39).results.toList = some r_marlineref07_gives := by kernel_rfl

end Go.Proofs.Ytpfokkfomgmibaa
