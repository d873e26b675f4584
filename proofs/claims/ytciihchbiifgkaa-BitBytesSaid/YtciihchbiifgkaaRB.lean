/- Some texts of one kind, one behind the other. -/
import Derived.Test.YtciihchbiifgkaaKE
/- The bodies of some functions, as the evaluator has them (printed by program), and that they are the program's own. -/
namespace Go.Proofs.Ytciihchbiifgkaa
open Go.RowKit

end Go.Proofs.Ytciihchbiifgkaa
/- The bodies of some functions, as the evaluator has them (printed by program), and that they are the program's own. -/
namespace Go.Proofs.Ytciihchbiifgkaa
open Go.RowKit

end Go.Proofs.Ytciihchbiifgkaa
/- The bodies of some functions, as the evaluator has them (printed by program), and that they are the program's own. -/
namespace Go.Proofs.Ytciihchbiifgkaa
open Go.RowKit

end Go.Proofs.Ytciihchbiifgkaa
/- The bodies of some functions, as the evaluator has them (printed by program), and that they are the program's own. -/
namespace Go.Proofs.Ytciihchbiifgkaa
open Go.RowKit

end Go.Proofs.Ytciihchbiifgkaa
/- The bodies of some functions, as the evaluator has them (printed by program), and that they are the program's own. -/
namespace Go.Proofs.Ytciihchbiifgkaa
open Go.RowKit

end Go.Proofs.Ytciihchbiifgkaa
/- The bodies of some functions, as the evaluator has them (printed by program), and that they are the program's own. -/
namespace Go.Proofs.Ytciihchbiifgkaa
open Go.RowKit

end Go.Proofs.Ytciihchbiifgkaa
/- The bodies of some functions, as the evaluator has them (printed by program), and that they are the program's own. -/
namespace Go.Proofs.Ytciihchbiifgkaa
open Go.RowKit

end Go.Proofs.Ytciihchbiifgkaa
/- The bodies of some functions, as the evaluator has them (printed by program), and that they are the program's own. -/
namespace Go.Proofs.Ytciihchbiifgkaa
open Go.RowKit

end Go.Proofs.Ytciihchbiifgkaa
