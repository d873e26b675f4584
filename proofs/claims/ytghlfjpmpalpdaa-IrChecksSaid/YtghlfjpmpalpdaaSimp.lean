/- The evaluator's own rules, for simp. -/
import Derived.Test.YtghlfjpmpalpdaaEv
namespace Go.Proofs.Ytghlfjpmpalpdaa
open Go.RowKit

@[simp] theorem cell_lit (v : Value) : DV.cell (.lit v) = v.oneCell' := rfl
@[simp] theorem cell_sl (n len : Nat) (row : Nat → List DV) : DV.cell (.sl n len row) = true := rfl
@[simp] theorem cell_cref (cs : List DV) (off : Nat) : DV.cell (.cref cs off) = true := rfl
@[simp] theorem cell_fn (F : FuncId) (cs : List DV) : DV.cell (.fn F cs) = true := rfl

attribute [simp] okS stp setD wrap gval gok Opd.av AOp.val AOp.ok AV.strip AV.live initT setAll bits T.get T.set fldV isPtr ldV ldOk idxV idxOk binA binOk binV isBoolV notV notOk lenV lenOk extV extOk slcV slcOk bndV bndOk slLen pickV pickOk pickB mkAgg mkTup mkFn allD
  partsV fillV fillOk spl AV.cells AV.cellOk AV.cell AV.there Value.oneCell' liveAll callArgs mapO frz DV.isLit DV.flat cval cok Res resV ARes.val ARes.ok hget_nil hget_add hget_del hget_set appV appOk baseV moreV hdelO stH stOk hc ownOf lenOf iniOk hget_low rowOf idxH idxHOk mgetV mgetOk mlenV mlenOk isnilV isnilOk eqsV eqsOk fldsEq fldEq msetH msetOk kdOk

end Go.Proofs.Ytghlfjpmpalpdaa
