/- Contract by the evaluator: the first function of which something holds. -/
import Derived.Test.YtciihchbiifgkaaLC
namespace Go.Proofs.Ytciihchbiifgkaa
open Go.RowKit

end Go.Proofs.Ytciihchbiifgkaa
