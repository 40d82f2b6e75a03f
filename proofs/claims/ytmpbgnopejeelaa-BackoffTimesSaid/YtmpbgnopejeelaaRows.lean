/-
  No cell of these rows narrows 'for every input' (looked for: loops, veiled, ifaces, maps, wideKeys, modest, calm, conditions, laid).
  DERIVED. THE GIVEN ROWS OF THIS SEAT. 10 by the template 'for every input the law returns true; each argument reads behind the call as it read before'; 0 by the template 'total and deterministic' (their statements: YtmpbgnopejeelaaTotals.lean).
  GIVEN WITH THE SEED: the statements are not yours to turn. If you find one false, say at which input.
  Laid BY PROGRAM, IN A SANDBOX (cutbox-rows.mjs): the forced cells as the released guide's own fill.sh prints them over the translation 5844fd944226e127… (all of the seat's roots in one cut). By AI agents, Wed Nov 11 2026. No macro, syntax, notation, axiom, sorry.
-/
import Derived.Test.YtmpbgnopejeelaaChecked
import GoSem.Claim
import GoSem.ClaimJoined
import GoSem.ClaimMapViews
import Derived.JoinedTies
import Derived.KernelRfl
namespace Go.Proofs.Ytmpbgnopejeelaa
/- THE CELL 'sum', in the pinned program and in every row, IS THE sha256 OF THE DUMP (.gsa) THAT YtmpbgnopejeelaaProg.lean LOADS. Nothing in Lean hashes anything: it is a label: what it is worth is what the hold of that sum in a sandbox is worth. -/
noncomputable def Try.pinned : Pinned := { name := "ytmpbgnopejeelaa", sum := "5844fd944226e127226119cf2fffc141f1077a650500b7fe82db07bb64f3403c", checked := Try.checked }
namespace Rows
def none {H : Type} : Left H := { results := [], args := [] }

/-- 'conciergelaw45.HistCells': WHATEVER THE INPUT: true; the input reads as it did. -/
def histCellsSpec : ChangeSpec := { name := "histCells", fn := fun _ => fun
  | [d1, d2] => { results := [.lit (.bool true)], args := [d1, d2] }
  | _ => none }
def histCellsRow : OpenClaim := { program := "ytmpbgnopejeelaa", sum := "5844fd944226e127226119cf2fffc141f1077a650500b7fe82db07bb64f3403c", func := "concierge/conciergelaw45.HistCells", spec := "histCells", apart := false }
def HistCellsSaid : Prop := histCellsRow.holds Try.pinned (OpenSpec.ofChange histCellsSpec)

/-- ITS FALSE NEIGHBOUR: 'it returns false'. Refute it at one input. -/
def histCellsWrong : ChangeSpec := { name := "histCells", fn := fun _ => fun
  | [d1, d2] => { results := [.lit (.bool false)], args := [d1, d2] }
  | _ => none }
def HistCellsWrongFalsely : Prop := histCellsRow.holds Try.pinned (OpenSpec.ofChange histCellsWrong)

/-- 'conciergelaw45.HistOrder': WHATEVER THE INPUT: true; the input reads as it did. -/
def histOrderSpec : ChangeSpec := { name := "histOrder", fn := fun _ => fun
  | [d1, d2] => { results := [.lit (.bool true)], args := [d1, d2] }
  | _ => none }
def histOrderRow : OpenClaim := { program := "ytmpbgnopejeelaa", sum := "5844fd944226e127226119cf2fffc141f1077a650500b7fe82db07bb64f3403c", func := "concierge/conciergelaw45.HistOrder", spec := "histOrder", apart := false }
def HistOrderSaid : Prop := histOrderRow.holds Try.pinned (OpenSpec.ofChange histOrderSpec)

/-- ITS FALSE NEIGHBOUR: 'it returns false'. Refute it at one input. -/
def histOrderWrong : ChangeSpec := { name := "histOrder", fn := fun _ => fun
  | [d1, d2] => { results := [.lit (.bool false)], args := [d1, d2] }
  | _ => none }
def HistOrderWrongFalsely : Prop := histOrderRow.holds Try.pinned (OpenSpec.ofChange histOrderWrong)

/-- 'conciergelaw45.HistCounts': WHATEVER THE INPUT: true; the input reads as it did. -/
def histCountsSpec : ChangeSpec := { name := "histCounts", fn := fun _ => fun
  | [d1, d2] => { results := [.lit (.bool true)], args := [d1, d2] }
  | _ => none }
def histCountsRow : OpenClaim := { program := "ytmpbgnopejeelaa", sum := "5844fd944226e127226119cf2fffc141f1077a650500b7fe82db07bb64f3403c", func := "concierge/conciergelaw45.HistCounts", spec := "histCounts", apart := false }
def HistCountsSaid : Prop := histCountsRow.holds Try.pinned (OpenSpec.ofChange histCountsSpec)

/-- ITS FALSE NEIGHBOUR: 'it returns false'. Refute it at one input. -/
def histCountsWrong : ChangeSpec := { name := "histCounts", fn := fun _ => fun
  | [d1, d2] => { results := [.lit (.bool false)], args := [d1, d2] }
  | _ => none }
def HistCountsWrongFalsely : Prop := histCountsRow.holds Try.pinned (OpenSpec.ofChange histCountsWrong)

/-- 'conciergelaw03.ShaTexts': WHATEVER THE INPUT: true; the input reads as it did. -/
def shaTextsSpec : ChangeSpec := { name := "shaTexts", fn := fun _ => fun
  | [d] => { results := [.lit (.bool true)], args := [d] }
  | _ => none }
def shaTextsRow : OpenClaim := { program := "ytmpbgnopejeelaa", sum := "5844fd944226e127226119cf2fffc141f1077a650500b7fe82db07bb64f3403c", func := "concierge/conciergelaw03.ShaTexts", spec := "shaTexts", apart := false }
def ShaTextsSaid : Prop := shaTextsRow.holds Try.pinned (OpenSpec.ofChange shaTextsSpec)

/-- ITS FALSE NEIGHBOUR: 'it returns false'. Refute it at one input. -/
def shaTextsWrong : ChangeSpec := { name := "shaTexts", fn := fun _ => fun
  | [d] => { results := [.lit (.bool false)], args := [d] }
  | _ => none }
def ShaTextsWrongFalsely : Prop := shaTextsRow.holds Try.pinned (OpenSpec.ofChange shaTextsWrong)

/-- 'conciergelaw03.ShaUnlike': WHATEVER THE INPUT: true; the input reads as it did. -/
def shaUnlikeSpec : ChangeSpec := { name := "shaUnlike", fn := fun _ => fun
  | [d1, d2, d3] => { results := [.lit (.bool true)], args := [d1, d2, d3] }
  | _ => none }
def shaUnlikeRow : OpenClaim := { program := "ytmpbgnopejeelaa", sum := "5844fd944226e127226119cf2fffc141f1077a650500b7fe82db07bb64f3403c", func := "concierge/conciergelaw03.ShaUnlike", spec := "shaUnlike", apart := false }
def ShaUnlikeSaid : Prop := shaUnlikeRow.holds Try.pinned (OpenSpec.ofChange shaUnlikeSpec)

/-- ITS FALSE NEIGHBOUR: 'it returns false'. Refute it at one input. -/
def shaUnlikeWrong : ChangeSpec := { name := "shaUnlike", fn := fun _ => fun
  | [d1, d2, d3] => { results := [.lit (.bool false)], args := [d1, d2, d3] }
  | _ => none }
def ShaUnlikeWrongFalsely : Prop := shaUnlikeRow.holds Try.pinned (OpenSpec.ofChange shaUnlikeWrong)

/-- 'conciergelaw45.HistJoins': WHATEVER THE INPUT: true; the input reads as it did. -/
def histJoinsSpec : ChangeSpec := { name := "histJoins", fn := fun _ => fun
  | [d1, d2] => { results := [.lit (.bool true)], args := [d1, d2] }
  | _ => none }
def histJoinsRow : OpenClaim := { program := "ytmpbgnopejeelaa", sum := "5844fd944226e127226119cf2fffc141f1077a650500b7fe82db07bb64f3403c", func := "concierge/conciergelaw45.HistJoins", spec := "histJoins", apart := false }
def HistJoinsSaid : Prop := histJoinsRow.holds Try.pinned (OpenSpec.ofChange histJoinsSpec)

/-- ITS FALSE NEIGHBOUR: 'it returns false'. Refute it at one input. -/
def histJoinsWrong : ChangeSpec := { name := "histJoins", fn := fun _ => fun
  | [d1, d2] => { results := [.lit (.bool false)], args := [d1, d2] }
  | _ => none }
def HistJoinsWrongFalsely : Prop := histJoinsRow.holds Try.pinned (OpenSpec.ofChange histJoinsWrong)

/-- 'conciergelaw03.ShaParts': WHATEVER THE INPUT: true; the input reads as it did. -/
def shaPartsSpec : ChangeSpec := { name := "shaParts", fn := fun _ => fun
  | [d] => { results := [.lit (.bool true)], args := [d] }
  | _ => none }
def shaPartsRow : OpenClaim := { program := "ytmpbgnopejeelaa", sum := "5844fd944226e127226119cf2fffc141f1077a650500b7fe82db07bb64f3403c", func := "concierge/conciergelaw03.ShaParts", spec := "shaParts", apart := false }
def ShaPartsSaid : Prop := shaPartsRow.holds Try.pinned (OpenSpec.ofChange shaPartsSpec)

/-- ITS FALSE NEIGHBOUR: 'it returns false'. Refute it at one input. -/
def shaPartsWrong : ChangeSpec := { name := "shaParts", fn := fun _ => fun
  | [d] => { results := [.lit (.bool false)], args := [d] }
  | _ => none }
def ShaPartsWrongFalsely : Prop := shaPartsRow.holds Try.pinned (OpenSpec.ofChange shaPartsWrong)

/-- 'conciergelaw40.BackoffWaits': WHATEVER THE INPUT: true; the input reads as it did. -/
def backoffWaitsSpec : ChangeSpec := { name := "backoffWaits", fn := fun _ => fun
  | [d1, d2, d3] => { results := [.lit (.bool true)], args := [d1, d2, d3] }
  | _ => none }
def backoffWaitsRow : OpenClaim := { program := "ytmpbgnopejeelaa", sum := "5844fd944226e127226119cf2fffc141f1077a650500b7fe82db07bb64f3403c", func := "concierge/conciergelaw40.BackoffWaits", spec := "backoffWaits", apart := false }
def BackoffWaitsSaid : Prop := backoffWaitsRow.holds Try.pinned (OpenSpec.ofChange backoffWaitsSpec)

/-- ITS FALSE NEIGHBOUR: 'it returns false'. Refute it at one input. -/
def backoffWaitsWrong : ChangeSpec := { name := "backoffWaits", fn := fun _ => fun
  | [d1, d2, d3] => { results := [.lit (.bool false)], args := [d1, d2, d3] }
  | _ => none }
def BackoffWaitsWrongFalsely : Prop := backoffWaitsRow.holds Try.pinned (OpenSpec.ofChange backoffWaitsWrong)

/-- 'conciergelaw40.BackoffBounds': WHATEVER THE INPUT: true; the input reads as it did. -/
def backoffBoundsSpec : ChangeSpec := { name := "backoffBounds", fn := fun _ => fun
  | [d1, d2, d3] => { results := [.lit (.bool true)], args := [d1, d2, d3] }
  | _ => none }
def backoffBoundsRow : OpenClaim := { program := "ytmpbgnopejeelaa", sum := "5844fd944226e127226119cf2fffc141f1077a650500b7fe82db07bb64f3403c", func := "concierge/conciergelaw40.BackoffBounds", spec := "backoffBounds", apart := false }
def BackoffBoundsSaid : Prop := backoffBoundsRow.holds Try.pinned (OpenSpec.ofChange backoffBoundsSpec)

/-- ITS FALSE NEIGHBOUR: 'it returns false'. Refute it at one input. -/
def backoffBoundsWrong : ChangeSpec := { name := "backoffBounds", fn := fun _ => fun
  | [d1, d2, d3] => { results := [.lit (.bool false)], args := [d1, d2, d3] }
  | _ => none }
def BackoffBoundsWrongFalsely : Prop := backoffBoundsRow.holds Try.pinned (OpenSpec.ofChange backoffBoundsWrong)

/-- 'conciergelaw40.BackoffTimes': WHATEVER THE INPUT: true; the input reads as it did. -/
def backoffTimesSpec : ChangeSpec := { name := "backoffTimes", fn := fun _ => fun
  | [d1, d2, d3] => { results := [.lit (.bool true)], args := [d1, d2, d3] }
  | _ => none }
def backoffTimesRow : OpenClaim := { program := "ytmpbgnopejeelaa", sum := "5844fd944226e127226119cf2fffc141f1077a650500b7fe82db07bb64f3403c", func := "concierge/conciergelaw40.BackoffTimes", spec := "backoffTimes", apart := false }
def BackoffTimesSaid : Prop := backoffTimesRow.holds Try.pinned (OpenSpec.ofChange backoffTimesSpec)

/-- ITS FALSE NEIGHBOUR: 'it returns false'. Refute it at one input. -/
def backoffTimesWrong : ChangeSpec := { name := "backoffTimes", fn := fun _ => fun
  | [d1, d2, d3] => { results := [.lit (.bool false)], args := [d1, d2, d3] }
  | _ => none }
def BackoffTimesWrongFalsely : Prop := backoffTimesRow.holds Try.pinned (OpenSpec.ofChange backoffTimesWrong)

/- THE SECOND FORM. 'bulk': how many values and letters a reading holds, each counted each time it is reached (what is shared counts as often as it is met; a slice's spare places count too). A statement '..UptoSaid' is the law's where the arguments, and the package variables that the reading takes, are together of bulk at most 1048576: NARROWER than '..Said'. Prove '..Said' where nothing that the law and all that it calls make is longer than what came in: it says more and counts as full. Else prove '..UptoSaid'. A law counts once. -/
mutual
def uptoBulk {H : Type} : DataW H → Nat
  | .lit (.string bytes) => bytes.length + 1
  | .lit _ => 1
  | .nil => 1
  | .ptr d => uptoBulk d + 1
  | .slice elems spare => uptoBulkAll elems + uptoBulkAll spare + 1
  | .agg parts => uptoBulkAll parts + 1
  | .iface _ d => uptoBulk d + 1
  | .map entries => uptoBulkEntries entries + 1
  | .held _ => 1
def uptoBulkAll {H : Type} : List (DataW H) → Nat
  | [] => 0
  | d :: r => uptoBulk d + uptoBulkAll r
def uptoBulkEntries {H : Type} : List (Lit × DataW H) → Nat
  | [] => 0
  | x :: r => uptoBulkEntry x + uptoBulkEntries r
def uptoBulkEntry {H : Type} : Lit × DataW H → Nat
  | (.string bytes, d) => bytes.length + uptoBulk d + 1
  | (_, d) => uptoBulk d + 1
 end
def uptoSmall : (H : Type) → List (DataW H) → Bool := fun _ ds => decide (uptoBulkAll ds ≤ 1048576)
def OpenSpec.upto (s : _root_.Go.ChangeSpec) : _root_.Go.OpenSpec := { _root_.Go.OpenSpec.ofChange s with cond := some uptoSmall }

/-- 'conciergelaw45.HistCells', WHERE WHAT IT READS IS OF BULK AT MOST 1048576: true; the input reads as it did. -/
def histCellsUptoRow : OpenClaim := { program := "ytmpbgnopejeelaa", sum := "5844fd944226e127226119cf2fffc141f1077a650500b7fe82db07bb64f3403c", func := "concierge/conciergelaw45.HistCells", spec := "histCells", apart := false, narrowed := true }
def HistCellsUptoSaid : Prop := histCellsUptoRow.holds Try.pinned (OpenSpec.upto histCellsSpec)

/-- 'conciergelaw45.HistOrder', WHERE WHAT IT READS IS OF BULK AT MOST 1048576: true; the input reads as it did. -/
def histOrderUptoRow : OpenClaim := { program := "ytmpbgnopejeelaa", sum := "5844fd944226e127226119cf2fffc141f1077a650500b7fe82db07bb64f3403c", func := "concierge/conciergelaw45.HistOrder", spec := "histOrder", apart := false, narrowed := true }
def HistOrderUptoSaid : Prop := histOrderUptoRow.holds Try.pinned (OpenSpec.upto histOrderSpec)

/-- 'conciergelaw45.HistCounts', WHERE WHAT IT READS IS OF BULK AT MOST 1048576: true; the input reads as it did. -/
def histCountsUptoRow : OpenClaim := { program := "ytmpbgnopejeelaa", sum := "5844fd944226e127226119cf2fffc141f1077a650500b7fe82db07bb64f3403c", func := "concierge/conciergelaw45.HistCounts", spec := "histCounts", apart := false, narrowed := true }
def HistCountsUptoSaid : Prop := histCountsUptoRow.holds Try.pinned (OpenSpec.upto histCountsSpec)

/-- 'conciergelaw03.ShaTexts', WHERE WHAT IT READS IS OF BULK AT MOST 1048576: true; the input reads as it did. -/
def shaTextsUptoRow : OpenClaim := { program := "ytmpbgnopejeelaa", sum := "5844fd944226e127226119cf2fffc141f1077a650500b7fe82db07bb64f3403c", func := "concierge/conciergelaw03.ShaTexts", spec := "shaTexts", apart := false, narrowed := true }
def ShaTextsUptoSaid : Prop := shaTextsUptoRow.holds Try.pinned (OpenSpec.upto shaTextsSpec)

/-- 'conciergelaw03.ShaUnlike', WHERE WHAT IT READS IS OF BULK AT MOST 1048576: true; the input reads as it did. -/
def shaUnlikeUptoRow : OpenClaim := { program := "ytmpbgnopejeelaa", sum := "5844fd944226e127226119cf2fffc141f1077a650500b7fe82db07bb64f3403c", func := "concierge/conciergelaw03.ShaUnlike", spec := "shaUnlike", apart := false, narrowed := true }
def ShaUnlikeUptoSaid : Prop := shaUnlikeUptoRow.holds Try.pinned (OpenSpec.upto shaUnlikeSpec)

/-- 'conciergelaw45.HistJoins', WHERE WHAT IT READS IS OF BULK AT MOST 1048576: true; the input reads as it did. -/
def histJoinsUptoRow : OpenClaim := { program := "ytmpbgnopejeelaa", sum := "5844fd944226e127226119cf2fffc141f1077a650500b7fe82db07bb64f3403c", func := "concierge/conciergelaw45.HistJoins", spec := "histJoins", apart := false, narrowed := true }
def HistJoinsUptoSaid : Prop := histJoinsUptoRow.holds Try.pinned (OpenSpec.upto histJoinsSpec)

/-- 'conciergelaw03.ShaParts', WHERE WHAT IT READS IS OF BULK AT MOST 1048576: true; the input reads as it did. -/
def shaPartsUptoRow : OpenClaim := { program := "ytmpbgnopejeelaa", sum := "5844fd944226e127226119cf2fffc141f1077a650500b7fe82db07bb64f3403c", func := "concierge/conciergelaw03.ShaParts", spec := "shaParts", apart := false, narrowed := true }
def ShaPartsUptoSaid : Prop := shaPartsUptoRow.holds Try.pinned (OpenSpec.upto shaPartsSpec)

/-- 'conciergelaw40.BackoffWaits', WHERE WHAT IT READS IS OF BULK AT MOST 1048576: true; the input reads as it did. -/
def backoffWaitsUptoRow : OpenClaim := { program := "ytmpbgnopejeelaa", sum := "5844fd944226e127226119cf2fffc141f1077a650500b7fe82db07bb64f3403c", func := "concierge/conciergelaw40.BackoffWaits", spec := "backoffWaits", apart := false, narrowed := true }
def BackoffWaitsUptoSaid : Prop := backoffWaitsUptoRow.holds Try.pinned (OpenSpec.upto backoffWaitsSpec)

/-- 'conciergelaw40.BackoffBounds', WHERE WHAT IT READS IS OF BULK AT MOST 1048576: true; the input reads as it did. -/
def backoffBoundsUptoRow : OpenClaim := { program := "ytmpbgnopejeelaa", sum := "5844fd944226e127226119cf2fffc141f1077a650500b7fe82db07bb64f3403c", func := "concierge/conciergelaw40.BackoffBounds", spec := "backoffBounds", apart := false, narrowed := true }
def BackoffBoundsUptoSaid : Prop := backoffBoundsUptoRow.holds Try.pinned (OpenSpec.upto backoffBoundsSpec)

/-- 'conciergelaw40.BackoffTimes', WHERE WHAT IT READS IS OF BULK AT MOST 1048576: true; the input reads as it did. -/
def backoffTimesUptoRow : OpenClaim := { program := "ytmpbgnopejeelaa", sum := "5844fd944226e127226119cf2fffc141f1077a650500b7fe82db07bb64f3403c", func := "concierge/conciergelaw40.BackoffTimes", spec := "backoffTimes", apart := false, narrowed := true }
def BackoffTimesUptoSaid : Prop := backoffTimesUptoRow.holds Try.pinned (OpenSpec.upto backoffTimesSpec)

end Rows
end Go.Proofs.Ytmpbgnopejeelaa
