/- Contracts by the evaluator: layer 6's statement BitApart. -/
import Derived.Test.YtciihchbiifgkaaTM
import Derived.Test.YtciihchbiifgkaaTN
import Derived.Test.YtciihchbiifgkaaTP
import Derived.Test.YtciihchbiifgkaaE19
namespace Go.Proofs.Ytciihchbiifgkaa
open Go.RowKit

theorem shown06_pure : APure Try.prog 8 [] (.bool true) := by
  refine ⟨⟨_, _, Try.func8, by kernel_rfl, rfl⟩, fun X w vs _ hvs => ?_⟩
  obtain rfl : vs = #[] := Array.toList_inj.1 (by simpa using hvs.unnil)
  refine (shown06 w).mono ?_
  rintro e w' ⟨rfl, hw⟩
  exact ⟨hw, _, rfl, .lit _⟩
end Go.Proofs.Ytciihchbiifgkaa
