/- The bodies of some functions, as the evaluator has them (printed by program), and that they are the program's own. -/
import Derived.Test.YtpfokkfomgmibaaKE
namespace Go.Proofs.Ytpfokkfomgmibaa
open Go.RowKit

/-- marline/marlineref07.call -/
def c_marlineref07_call : ACode :=
  (.seq (.reg [⟨(some (sl 8)), none, (.box true (.s (sl 0))), none⟩, ⟨(some (sl 9)), none, (.box false (.s (sl 1))), none⟩, ⟨(some (sl 16)), none, (.new [(.bool false), (.int .u64 0), (.string ⟨#[]⟩), (.int .i64 0), (.int .i64 0), (.int .i64 0), (.slice none 0 0), (.int .i64 0)]), none⟩, ⟨(some (sl 17)), none, (.mv (.c (.int .u64 0))), none⟩])
  (.seq (.seq (.reg [⟨(some (sl 25)), none, (.mv (.s (sl 5))), none⟩, ⟨(some (sl 26)), none, (.fld (.s (sl 9)) 0), none⟩, ⟨(some (sl 27)), none, (.fld (.s (sl 26)) 5), none⟩, ⟨(some (sl 28)), none, (.ld false (.s (sl 27)) none), none⟩, ⟨(some (sl 29)), none, (.bin .gtr (.s (sl 25)) (.s (sl 28))), none⟩])
  (.cond (.s (sl 29))
  (.reg [⟨(some (sl 30)), none, (.mv (.s (sl 5))), none⟩, ⟨(some (sl 31)), none, (.fld (.s (sl 9)) 0), none⟩, ⟨(some (sl 32)), none, (.fld (.s (sl 31)) 5), none⟩, ⟨none, none, (.st (.s (sl 32)) (.s (sl 30)) 1), none⟩])
  .skip))
  (.seq (.seq (.reg [⟨(some (sl 33)), none, (.fld (.s (sl 8)) 0), (some (0, []))⟩, ⟨(some (sl 34)), none, (.ld true (.s (sl 33)) none), (some (1, []))⟩, ⟨(some (sl 35)), none, (.ld true (.s (sl 8)) (some 2)), (some (2, []))⟩, ⟨(some (sl 36)), none, (.mv (.s (sl 3))), (some (3, []))⟩, ⟨(some (sl 37)), none, (.call true (.f 32) [(.s (sl 35)), (.s (sl 36))]), (some (4, []))⟩, ⟨(some (sl 38)), none, (.idx true (.s (sl 34)) (.s (sl 37)) 4), (some (5, []))⟩, ⟨(some (sl 39)), none, (.ld true (.s (sl 38)) (some 4)), (some (6, []))⟩, ⟨(some (sl 18)), none, (.new [(.string ⟨#[]⟩), (.int .i64 0), (.int .i64 0), (.slice none 0 0)]), (some (7, []))⟩, ⟨none, none, (.ini 1 (.s (sl 18)) (.s (sl 39)) 4), none⟩])
  (.frz (sl 18)))
  (.seq (.reg [⟨(some (sl 19)), none, (.mv (.c (.int .i64 0))), none⟩])
  (.seq (.seq (.reg [⟨(some (sl 40)), none, (.mv (.s (sl 4))), none⟩, ⟨(some (sl 20)), none, (.mv (.s (sl 40))), none⟩])
  (.frz (sl 20)))
  (.block 0
  (.loop (.block 1
  (.seq (.seq (.reg [⟨(some (sl 41)), none, (.fld (.s (sl 18)) 3), none⟩, ⟨(some (sl 42)), none, (.ld true (.s (sl 41)) none), none⟩, ⟨(some (sl 43)), none, (.mv (.s (sl 19))), none⟩, ⟨(some (sl 44)), none, (.idx true (.s (sl 42)) (.s (sl 43)) 8), none⟩, ⟨(some (sl 45)), none, (.ld true (.s (sl 44)) (some 8)), none⟩, ⟨(some (sl 21)), none, (.new [(.int .i64 0), (.slice none 0 0), (.int .i64 0), (.int .i64 0), (.int .i64 0), (.slice none 0 0), (.int .i64 0), (.slice none 0 0)]), none⟩, ⟨none, none, (.ini 1 (.s (sl 21)) (.s (sl 45)) 8), none⟩])
  (.frz (sl 21)))
  (.seq (.seq (.reg [⟨(some (sl 22)), none, (.mv (.c (.int .i64 0))), none⟩])
  (.block 2
  (.loop (.seq (.seq (.reg [⟨(some (sl 46)), none, (.mv (.s (sl 22))), none⟩, ⟨(some (sl 47)), none, (.fld (.s (sl 21)) 1), none⟩, ⟨(some (sl 48)), none, (.ld true (.s (sl 47)) none), none⟩, ⟨(some (sl 49)), none, (.len false (.s (sl 48))), none⟩, ⟨(some (sl 50)), none, (.bin .lss (.s (sl 46)) (.s (sl 49))), none⟩])
  (.cond (.s (sl 50))
  .skip
  (.exit 2)))
  (.seq (.block 3
  (.seq (.seq (.reg [⟨(some (sl 53)), none, (.fld (.s (sl 21)) 1), none⟩, ⟨(some (sl 54)), none, (.ld true (.s (sl 53)) none), none⟩, ⟨(some (sl 55)), none, (.mv (.s (sl 22))), none⟩, ⟨(some (sl 56)), none, (.idx true (.s (sl 54)) (.s (sl 55)) 6), none⟩, ⟨(some (sl 57)), none, (.ld true (.s (sl 56)) (some 6)), none⟩, ⟨(some (sl 23)), none, (.new [(.int .i64 0), (.int .i64 0), (.int .i64 0), (.int .u64 0), (.string ⟨#[]⟩), (.slice none 0 0)]), none⟩, ⟨none, none, (.ini 1 (.s (sl 23)) (.s (sl 57)) 6), none⟩])
  (.frz (sl 23)))
  (.seq (.reg [⟨(some (sl 58)), none, (.ld false (.s (sl 9)) (some 8)), none⟩, ⟨(some (sl 59)), none, (.mv (.s (sl 6))), none⟩, ⟨(some (sl 60)), none, (.call false (.f 37) [(.s (sl 58)), (.s (sl 59))]), none⟩, ⟨none, none, (.st (.s (sl 9)) (.s (sl 60)) 8), none⟩])
  (.seq (.seq (.reg [⟨(some (sl 61)), none, (.fld (.s (sl 9)) 7), none⟩, ⟨(some (sl 62)), none, (.ld false (.s (sl 61)) none), none⟩, ⟨(some (sl 63)), none, (.bin .neq (.s (sl 62)) (.c (.int .i64 0))), none⟩])
  (.cond (.s (sl 63))
  (.seq (.reg [⟨(some (sl 64)), none, (.ld false (.s (sl 9)) (some 8)), none⟩, ⟨none, none, (.st (.s (sl 16)) (.s (sl 64)) 8), none⟩, ⟨(some (sl 17)), none, (.mv (.c (.int .u64 0))), none⟩])
  .ret)
  .skip))
  (.seq (.reg [⟨(some (sl 24)), none, (.mv (.c (.int .u64 0))), none⟩])
  (.seq (.seq (.reg [⟨(some (sl 65)), none, (.fld (.s (sl 23)) 0), none⟩, ⟨(some (sl 66)), none, (.ld true (.s (sl 65)) none), none⟩, ⟨(some (sl 67)), none, (.bin .eql (.s (sl 66)) (.c (.int .i64 14))), none⟩])
  (.cond (.s (sl 67))
  (.seq (.seq (.reg [⟨(some (sl 68)), none, (.mv (.s (sl 5))), none⟩, ⟨(some (sl 69)), none, (.mv (.s (sl 7))), none⟩, ⟨(some (sl 70)), none, (.bin .eql (.s (sl 68)) (.s (sl 69))), none⟩])
  (.cond (.s (sl 70))
  (.seq (.reg [⟨(some (sl 71)), none, (.fld (.s (sl 9)) 7), none⟩, ⟨none, none, (.st (.s (sl 71)) (.c (.int .i64 13)) 1), none⟩])
  (.seq (.reg [⟨(some (sl 72)), none, (.ld false (.s (sl 9)) (some 8)), none⟩, ⟨none, none, (.st (.s (sl 16)) (.s (sl 72)) 8), none⟩, ⟨(some (sl 17)), none, (.mv (.c (.int .u64 0))), none⟩])
  .ret))
  .skip))
  (.seq (.reg [⟨(some (sl 74)), none, (.ld true (.s (sl 8)) (some 2)), (some (0, []))⟩, ⟨(some (sl 75)), none, (.ld false (.s (sl 9)) (some 8)), (some (1, []))⟩, ⟨(some (sl 76)), none, (.mv (.s (sl 2))), (some (2, []))⟩, ⟨(some (sl 77)), none, (.fld (.s (sl 23)) 4), (some (3, []))⟩, ⟨(some (sl 78)), none, (.ld true (.s (sl 77)) none), (some (4, []))⟩, ⟨(some (sl 79)), none, (.mv (.s (sl 20))), (some (5, []))⟩, ⟨(some (sl 80)), none, (.fld (.s (sl 23)) 5), (some (6, []))⟩, ⟨(some (sl 81)), none, (.ld true (.s (sl 80)) none), (some (7, []))⟩, ⟨(some (sl 82)), none, (.call false (.f 38) [(.s (sl 79)), (.s (sl 81))]), (some (8, []))⟩, ⟨(some (sl 83)), none, (.mv (.s (sl 5))), (some (9, []))⟩, ⟨(some (sl 84)), none, (.bin .add (.s (sl 83)) (.c (.int .i64 1))), (some (10, []))⟩, ⟨(some (sl 85)), none, (.mv (.s (sl 6))), (some (11, []))⟩, ⟨(some (sl 86)), none, (.mv (.s (sl 7))), (some (12, []))⟩, ⟨(some (sl 87)), none, (.call false (.f 25) [(.s (sl 74)), (.s (sl 75)), (.s (sl 76)), (.s (sl 78)), (.s (sl 82)), (.s (sl 84)), (.s (sl 85)), (.s (sl 86))]), (some (13, []))⟩, ⟨(some (sl 73)), none, (.mv (.s (sl 87))), (some (14, []))⟩, ⟨(some (sl 88)), none, (.ext (.s (sl 73)) 0), (some (15, []))⟩, ⟨(some (sl 89)), none, (.ext (.s (sl 73)) 1), (some (16, []))⟩, ⟨none, none, (.st (.s (sl 9)) (.s (sl 88)) 8), (some (17, []))⟩, ⟨(some (sl 24)), none, (.mv (.s (sl 89))), (some (18, []))⟩])
  (.seq (.reg [⟨(some (sl 90)), none, (.fld (.s (sl 9)) 7), none⟩, ⟨(some (sl 91)), none, (.ld false (.s (sl 90)) none), none⟩, ⟨(some (sl 92)), none, (.bin .neq (.s (sl 91)) (.c (.int .i64 0))), none⟩])
  (.cond (.s (sl 92))
  (.seq (.reg [⟨(some (sl 93)), none, (.ld false (.s (sl 9)) (some 8)), none⟩, ⟨none, none, (.st (.s (sl 16)) (.s (sl 93)) 8), none⟩, ⟨(some (sl 17)), none, (.mv (.c (.int .u64 0))), none⟩])
  .ret)
  .skip))))
  (.reg [⟨(some (sl 95)), none, (.ld true (.s (sl 8)) (some 2)), none⟩, ⟨(some (sl 96)), none, (.ld false (.s (sl 9)) (some 8)), none⟩, ⟨(some (sl 97)), none, (.mv (.s (sl 2))), none⟩, ⟨(some (sl 98)), none, (.ld true (.s (sl 23)) (some 6)), none⟩, ⟨(some (sl 99)), none, (.mv (.s (sl 20))), none⟩, ⟨(some (sl 100)), none, (.call false (.f 39) [(.s (sl 95)), (.s (sl 96)), (.s (sl 97)), (.s (sl 98)), (.s (sl 99))]), none⟩, ⟨(some (sl 94)), none, (.mv (.s (sl 100))), none⟩, ⟨(some (sl 101)), none, (.ext (.s (sl 94)) 0), none⟩, ⟨(some (sl 102)), none, (.ext (.s (sl 94)) 1), none⟩, ⟨none, none, (.st (.s (sl 9)) (.s (sl 101)) 8), none⟩, ⟨(some (sl 24)), none, (.mv (.s (sl 102))), none⟩])))
  (.seq (.reg [⟨(some (sl 103)), none, (.nrow 29 1), none⟩, ⟨(some (sl 104)), none, (.mv (.s (sl 20))), none⟩, ⟨(some (sl 105)), none, (.app 29 1 8 (.s (sl 103)) (.s (sl 104))), none⟩, ⟨(some (sl 106)), none, (.mv (.s (sl 24))), none⟩, ⟨(some (sl 107)), none, (.mksl 1 1 [(.int .u64 0)] [(0, 1, (.s (sl 106)))]), none⟩, ⟨(some (sl 108)), none, (.app 29 1 8 (.s (sl 105)) (.s (sl 107))), none⟩, ⟨(some (sl 20)), none, (.mv (.s (sl 108))), none⟩])
  (.frz (sl 20)))))))))
  (.reg [⟨(some (sl 51)), none, (.mv (.s (sl 22))), none⟩, ⟨(some (sl 52)), none, (.bin .add (.s (sl 51)) (.c (.int .i64 1))), none⟩, ⟨(some (sl 22)), none, (.mv (.s (sl 52))), none⟩]))))))
  (.seq (.reg [⟨(some (sl 109)), none, (.ld false (.s (sl 9)) (some 8)), none⟩, ⟨(some (sl 110)), none, (.mv (.s (sl 6))), none⟩, ⟨(some (sl 111)), none, (.call false (.f 37) [(.s (sl 109)), (.s (sl 110))]), none⟩, ⟨none, none, (.st (.s (sl 9)) (.s (sl 111)) 8), none⟩])
  (.seq (.seq (.reg [⟨(some (sl 112)), none, (.fld (.s (sl 9)) 7), none⟩, ⟨(some (sl 113)), none, (.ld false (.s (sl 112)) none), none⟩, ⟨(some (sl 114)), none, (.bin .neq (.s (sl 113)) (.c (.int .i64 0))), none⟩])
  (.cond (.s (sl 114))
  (.seq (.reg [⟨(some (sl 115)), none, (.ld false (.s (sl 9)) (some 8)), none⟩, ⟨none, none, (.st (.s (sl 16)) (.s (sl 115)) 8), none⟩, ⟨(some (sl 17)), none, (.mv (.c (.int .u64 0))), none⟩])
  .ret)
  .skip))
  (.seq (.seq (.reg [⟨(some (sl 116)), none, (.fld (.s (sl 21)) 2), none⟩, ⟨(some (sl 117)), none, (.fld (.s (sl 116)) 0), none⟩, ⟨(some (sl 118)), none, (.ld true (.s (sl 117)) none), none⟩, ⟨(some (sl 119)), none, (.bin .eql (.s (sl 118)) (.c (.int .i64 3))), none⟩])
  (.cond (.s (sl 119))
  (.seq (.reg [⟨(some (sl 120)), none, (.ld false (.s (sl 9)) (some 8)), (some (0, [(sl 16)]))⟩, ⟨(some (sl 121)), none, (.mv (.s (sl 20))), (some (1, [(sl 16)]))⟩, ⟨(some (sl 122)), none, (.fld (.s (sl 21)) 2), (some (2, [(sl 16)]))⟩, ⟨(some (sl 123)), none, (.fld (.s (sl 122)) 1), (some (3, [(sl 16)]))⟩, ⟨(some (sl 124)), none, (.ld true (.s (sl 123)) none), (some (4, [(sl 16)]))⟩, ⟨(some (sl 125)), none, (.idx false (.s (sl 121)) (.s (sl 124)) 1), (some (5, [(sl 16)]))⟩, ⟨(some (sl 126)), none, (.ld false (.s (sl 125)) none), (some (6, [(sl 16)]))⟩, ⟨none, none, (.st (.s (sl 16)) (.s (sl 120)) 8), (some (7, [(sl 16)]))⟩, ⟨(some (sl 17)), none, (.mv (.s (sl 126))), (some (8, [(sl 16)]))⟩])
  .ret)
  .skip))
  (.seq (.reg [⟨(some (sl 127)), none, (.fld (.s (sl 21)) 2), none⟩, ⟨(some (sl 128)), none, (.fld (.s (sl 127)) 0), none⟩, ⟨(some (sl 129)), none, (.ld true (.s (sl 128)) none), none⟩, ⟨(some (sl 130)), none, (.bin .eql (.s (sl 129)) (.c (.int .i64 2))), none⟩, ⟨(some (sl 131)), none, (.mv (.s (sl 130))), none⟩, ⟨(some (sl 132)), (some ((sl 131), true)), (.mv (.s (sl 20))), none⟩, ⟨(some (sl 133)), (some ((sl 131), true)), (.fld (.s (sl 21)) 2), none⟩, ⟨(some (sl 134)), (some ((sl 131), true)), (.fld (.s (sl 133)) 1), none⟩, ⟨(some (sl 135)), (some ((sl 131), true)), (.ld true (.s (sl 134)) none), none⟩, ⟨(some (sl 136)), (some ((sl 131), true)), (.idx false (.s (sl 132)) (.s (sl 135)) 1), none⟩, ⟨(some (sl 137)), (some ((sl 131), true)), (.ld false (.s (sl 136)) none), none⟩, ⟨(some (sl 138)), (some ((sl 131), true)), (.bin .eql (.s (sl 137)) (.c (.int .u64 0))), none⟩, ⟨(some (sl 139)), none, (.pick (.s (sl 131)) (.s (sl 138)) (.c (.bool false))), none⟩])
  (.cond (.s (sl 139))
  (.seq (.reg [⟨(some (sl 140)), none, (.fld (.s (sl 21)) 2), none⟩, ⟨(some (sl 141)), none, (.fld (.s (sl 140)) 4), none⟩, ⟨(some (sl 142)), none, (.ld true (.s (sl 141)) none), none⟩, ⟨(some (sl 19)), none, (.mv (.s (sl 142))), none⟩])
  (.seq (.reg [⟨(some (sl 143)), none, (.mv (.s (sl 20))), none⟩, ⟨(some (sl 144)), none, (.fld (.s (sl 21)) 2), none⟩, ⟨(some (sl 145)), none, (.fld (.s (sl 144)) 5), none⟩, ⟨(some (sl 146)), none, (.ld true (.s (sl 145)) none), none⟩, ⟨(some (sl 147)), none, (.call false (.f 38) [(.s (sl 143)), (.s (sl 146))]), none⟩, ⟨(some (sl 20)), none, (.mv (.s (sl 147))), none⟩])
  (.frz (sl 20))))
  (.seq (.reg [⟨(some (sl 148)), none, (.fld (.s (sl 21)) 2), none⟩, ⟨(some (sl 149)), none, (.fld (.s (sl 148)) 2), none⟩, ⟨(some (sl 150)), none, (.ld true (.s (sl 149)) none), none⟩, ⟨(some (sl 19)), none, (.mv (.s (sl 150))), none⟩])
  (.seq (.reg [⟨(some (sl 151)), none, (.mv (.s (sl 20))), none⟩, ⟨(some (sl 152)), none, (.fld (.s (sl 21)) 2), none⟩, ⟨(some (sl 153)), none, (.fld (.s (sl 152)) 3), none⟩, ⟨(some (sl 154)), none, (.ld true (.s (sl 153)) none), none⟩, ⟨(some (sl 155)), none, (.call false (.f 38) [(.s (sl 151)), (.s (sl 154))]), none⟩, ⟨(some (sl 20)), none, (.mv (.s (sl 155))), none⟩])
  (.frz (sl 20)))))))))))))))))))
def r_marlineref07_call : List ARes := [(.cell (sl 16) (some 8)), (.tmp (sl 17))]
theorem t_marlineref07_call : (Try.f25).body.bind (trCode Try.prog 8 (Try.f25).ntmps [9, 16, 17, 20, 26, 27, 28, 31, 32, 58, 61, 62, 64, 71, 72, 75, 79, 90, 91, 93, 96, 99, 104, 105, 108, 109, 112, 113, 115, 120, 121, 125, 126, 132, 136, 137, 143, 151] [(3000020, 0, 1)] (drOk 8)) = some c_marlineref07_call := by kernel_rfl
theorem u_marlineref07_call : trRess Try.prog 8 (Try.f25).results.toList = some r_marlineref07_call := by kernel_rfl

end Go.Proofs.Ytpfokkfomgmibaa
