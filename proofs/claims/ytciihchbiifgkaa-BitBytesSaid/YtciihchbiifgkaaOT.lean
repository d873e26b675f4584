/- What arguments of this program's own types read as: what layer 6 asks. -/
import Derived.Test.YtciihchbiifgkaaOP
import Derived.Test.YtciihchbiifgkaaTL
namespace Go.Proofs.Ytciihchbiifgkaa
open Go.RowKit

theorem bitFit_of {m : Module} (h : bModule m) : BitFit m where
  args := fun f hf b hb i hi => (((h.1 f hf).1 b hb).1 i hi).1
  ks := fun f hf b hb i hi => (((h.1 f hf).1 b hb).1 i hi).2
  inits := h.2.2.2

end Go.Proofs.Ytciihchbiifgkaa
