/- Packed numbers: the opener's Raw, number, Num, Text. -/
import Derived.Test.YtmpbgnopejeelaaPkc
namespace Go.Proofs.Ytmpbgnopejeelaa
open Go.RowKit
set_option linter.unusedVariables false
set_option linter.unusedSimpArgs false
set_option maxRecDepth 100000
theorem max_is (a b c : Int) (h : (if a < b then b else a) = c) : ∀ ats ty, Builtin.max_ ats ty #[.int .i64 a, .int .i64 b] = pure (.int .i64 c) := fun ats ty => by
  subst h; simp only [Builtin.max_, List.foldlM_cons, List.foldlM_nil, Builtin.max2, gt_iff_lt]; rfl
namespace Pk
end Pk
end Go.Proofs.Ytmpbgnopejeelaa
