/- Letters: what the reference opens. -/
import Derived.Test.YthggbohoedfkpaaLtn
import Derived.Test.YthggbohoedfkpaaLto
namespace Go.Proofs.Ythggbohoedfkpaa
open Go.RowKit Pk
set_option linter.unusedVariables false
set_option linter.unusedSimpArgs false
set_option maxRecDepth 100000
namespace Lt
theorem ex_ok (p : Prop) : ∃ ok : Bool, ok = true ↔ p := by
  by_cases h : p
  · exact ⟨true, fun _ => h, fun _ => rfl⟩
  · exact ⟨false, (fun e => by cases e), fun e => absurd e h⟩
def ropened (r : Option Ltr) : Ending := .returned (.tuple #[.agg (r.getD l0).cells.toArray, .bool r.isSome])
end Lt
end Go.Proofs.Ythggbohoedfkpaa
