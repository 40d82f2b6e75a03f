/- Packed numbers: the opener's number, Num and Text. -/
import Derived.Test.YtmpbgnopejeelaaPkd
namespace Go.Proofs.Ytmpbgnopejeelaa
open Go.RowKit
set_option linter.unusedVariables false
set_option linter.unusedSimpArgs false
set_option maxRecDepth 100000
namespace Pk
end Pk
end Go.Proofs.Ytmpbgnopejeelaa
