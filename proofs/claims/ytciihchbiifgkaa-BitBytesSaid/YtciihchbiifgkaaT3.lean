/- Layer 6: plain laws of taking; contracts of BitBack, BitCut, BitChecks. -/
import Derived.Test.YtciihchbiifgkaaT2
import Derived.Test.YtciihchbiifgkaaTQ
namespace Go.Proofs.Ytciihchbiifgkaa
open Go.RowKit

theorem take_zero {s : ByteArray} (h : takeE s = 0) : takeP s = .ok (takeM s) := by
  cases hp : takeP s with
  | ok m => rw [((take_is s).1 m hp).2]
  | error c =>
    obtain ⟨h1, h2, _⟩ := (take_is s).2 c hp
    exact absurd (h2.symm.trans h) h1

end Go.Proofs.Ytciihchbiifgkaa
