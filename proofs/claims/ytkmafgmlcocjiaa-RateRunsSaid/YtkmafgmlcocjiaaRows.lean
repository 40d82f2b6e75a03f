/-
  No cell of these rows narrows 'for every input' (looked for: loops, veiled, ifaces, maps, wideKeys, modest, calm, conditions, laid).
  DERIVED. THE GIVEN ROWS OF THIS SEAT. 11 by the template 'for every input the law returns true; each argument reads behind the call as it read before'; 0 by the template 'total and deterministic' (their statements: YtkmafgmlcocjiaaTotals.lean).
  GIVEN WITH THE SEED: the statements are not yours to turn. If you find one false, say at which input.
  Laid BY PROGRAM, IN A SANDBOX (cutbox-rows.mjs): the forced cells as the released guide's own fill.sh prints them over the translation 8e858e067207458d… (all of the seat's roots in one cut). By AI agents, Wed Nov 11 2026. No macro, syntax, notation, axiom, sorry.
-/
import Derived.Test.YtkmafgmlcocjiaaChecked
import GoSem.Claim
import GoSem.ClaimJoined
import GoSem.ClaimMapViews
import Derived.JoinedTies
import Derived.KernelRfl
namespace Go.Proofs.Ytkmafgmlcocjiaa
/- THE CELL 'sum', in the pinned program and in every row, IS THE sha256 OF THE DUMP (.gsa) THAT YtkmafgmlcocjiaaProg.lean LOADS. Nothing in Lean hashes anything: it is a label: what it is worth is what the hold of that sum in a sandbox is worth. -/
noncomputable def Try.pinned : Pinned := { name := "ytkmafgmlcocjiaa", sum := "8e858e067207458dde50ec7516411abd0dc7787855d6df9b4830fa5b7a787e33", checked := Try.checked }
namespace Rows
def none {H : Type} : Left H := { results := [], args := [] }

/-- 'conciergelaw06.NumConfigs': WHATEVER THE INPUT: true; the input reads as it did. -/
def numConfigsSpec : ChangeSpec := { name := "numConfigs", fn := fun _ => fun
  | [d] => { results := [.lit (.bool true)], args := [d] }
  | _ => none }
def numConfigsRow : OpenClaim := { program := "ytkmafgmlcocjiaa", sum := "8e858e067207458dde50ec7516411abd0dc7787855d6df9b4830fa5b7a787e33", func := "concierge/conciergelaw06.NumConfigs", spec := "numConfigs", apart := false }
def NumConfigsSaid : Prop := numConfigsRow.holds Try.pinned (OpenSpec.ofChange numConfigsSpec)

/-- ITS FALSE NEIGHBOUR: 'it returns false'. Refute it at one input. -/
def numConfigsWrong : ChangeSpec := { name := "numConfigs", fn := fun _ => fun
  | [d] => { results := [.lit (.bool false)], args := [d] }
  | _ => none }
def NumConfigsWrongFalsely : Prop := numConfigsRow.holds Try.pinned (OpenSpec.ofChange numConfigsWrong)

/-- 'conciergelaw06.NumTimes': WHATEVER THE INPUT: true; the input reads as it did. -/
def numTimesSpec : ChangeSpec := { name := "numTimes", fn := fun _ => fun
  | [d1, d2] => { results := [.lit (.bool true)], args := [d1, d2] }
  | _ => none }
def numTimesRow : OpenClaim := { program := "ytkmafgmlcocjiaa", sum := "8e858e067207458dde50ec7516411abd0dc7787855d6df9b4830fa5b7a787e33", func := "concierge/conciergelaw06.NumTimes", spec := "numTimes", apart := false }
def NumTimesSaid : Prop := numTimesRow.holds Try.pinned (OpenSpec.ofChange numTimesSpec)

/-- ITS FALSE NEIGHBOUR: 'it returns false'. Refute it at one input. -/
def numTimesWrong : ChangeSpec := { name := "numTimes", fn := fun _ => fun
  | [d1, d2] => { results := [.lit (.bool false)], args := [d1, d2] }
  | _ => none }
def NumTimesWrongFalsely : Prop := numTimesRow.holds Try.pinned (OpenSpec.ofChange numTimesWrong)

/-- 'conciergelaw06.NumNext': WHATEVER THE INPUT: true; the input reads as it did. -/
def numNextSpec : ChangeSpec := { name := "numNext", fn := fun _ => fun
  | [d1, d2, d3] => { results := [.lit (.bool true)], args := [d1, d2, d3] }
  | _ => none }
def numNextRow : OpenClaim := { program := "ytkmafgmlcocjiaa", sum := "8e858e067207458dde50ec7516411abd0dc7787855d6df9b4830fa5b7a787e33", func := "concierge/conciergelaw06.NumNext", spec := "numNext", apart := false }
def NumNextSaid : Prop := numNextRow.holds Try.pinned (OpenSpec.ofChange numNextSpec)

/-- ITS FALSE NEIGHBOUR: 'it returns false'. Refute it at one input. -/
def numNextWrong : ChangeSpec := { name := "numNext", fn := fun _ => fun
  | [d1, d2, d3] => { results := [.lit (.bool false)], args := [d1, d2, d3] }
  | _ => none }
def NumNextWrongFalsely : Prop := numNextRow.holds Try.pinned (OpenSpec.ofChange numNextWrong)

/-- 'conciergelaw02.CrcTexts': WHATEVER THE INPUT: true; the input reads as it did. -/
def crcTextsSpec : ChangeSpec := { name := "crcTexts", fn := fun _ => fun
  | [d1, d2, d3] => { results := [.lit (.bool true)], args := [d1, d2, d3] }
  | _ => none }
def crcTextsRow : OpenClaim := { program := "ytkmafgmlcocjiaa", sum := "8e858e067207458dde50ec7516411abd0dc7787855d6df9b4830fa5b7a787e33", func := "concierge/conciergelaw02.CrcTexts", spec := "crcTexts", apart := false }
def CrcTextsSaid : Prop := crcTextsRow.holds Try.pinned (OpenSpec.ofChange crcTextsSpec)

/-- ITS FALSE NEIGHBOUR: 'it returns false'. Refute it at one input. -/
def crcTextsWrong : ChangeSpec := { name := "crcTexts", fn := fun _ => fun
  | [d1, d2, d3] => { results := [.lit (.bool false)], args := [d1, d2, d3] }
  | _ => none }
def CrcTextsWrongFalsely : Prop := crcTextsRow.holds Try.pinned (OpenSpec.ofChange crcTextsWrong)

/-- 'conciergelaw02.CrcBursts': WHATEVER THE INPUT: true; the input reads as it did. -/
def crcBurstsSpec : ChangeSpec := { name := "crcBursts", fn := fun _ => fun
  | [d1, d2, d3] => { results := [.lit (.bool true)], args := [d1, d2, d3] }
  | _ => none }
def crcBurstsRow : OpenClaim := { program := "ytkmafgmlcocjiaa", sum := "8e858e067207458dde50ec7516411abd0dc7787855d6df9b4830fa5b7a787e33", func := "concierge/conciergelaw02.CrcBursts", spec := "crcBursts", apart := false }
def CrcBurstsSaid : Prop := crcBurstsRow.holds Try.pinned (OpenSpec.ofChange crcBurstsSpec)

/-- ITS FALSE NEIGHBOUR: 'it returns false'. Refute it at one input. -/
def crcBurstsWrong : ChangeSpec := { name := "crcBursts", fn := fun _ => fun
  | [d1, d2, d3] => { results := [.lit (.bool false)], args := [d1, d2, d3] }
  | _ => none }
def CrcBurstsWrongFalsely : Prop := crcBurstsRow.holds Try.pinned (OpenSpec.ofChange crcBurstsWrong)

/-- 'conciergelaw02.CrcAny': WHATEVER THE INPUT: true; the input reads as it did. -/
def crcAnySpec : ChangeSpec := { name := "crcAny", fn := fun _ => fun
  | [d] => { results := [.lit (.bool true)], args := [d] }
  | _ => none }
def crcAnyRow : OpenClaim := { program := "ytkmafgmlcocjiaa", sum := "8e858e067207458dde50ec7516411abd0dc7787855d6df9b4830fa5b7a787e33", func := "concierge/conciergelaw02.CrcAny", spec := "crcAny", apart := false }
def CrcAnySaid : Prop := crcAnyRow.holds Try.pinned (OpenSpec.ofChange crcAnySpec)

/-- ITS FALSE NEIGHBOUR: 'it returns false'. Refute it at one input. -/
def crcAnyWrong : ChangeSpec := { name := "crcAny", fn := fun _ => fun
  | [d] => { results := [.lit (.bool false)], args := [d] }
  | _ => none }
def CrcAnyWrongFalsely : Prop := crcAnyRow.holds Try.pinned (OpenSpec.ofChange crcAnyWrong)

/-- 'conciergelaw17.QuotaRuns': WHATEVER THE INPUT: true; the input reads as it did. -/
def quotaRunsSpec : ChangeSpec := { name := "quotaRuns", fn := fun _ => fun
  | [d1, d2] => { results := [.lit (.bool true)], args := [d1, d2] }
  | _ => none }
def quotaRunsRow : OpenClaim := { program := "ytkmafgmlcocjiaa", sum := "8e858e067207458dde50ec7516411abd0dc7787855d6df9b4830fa5b7a787e33", func := "concierge/conciergelaw17.QuotaRuns", spec := "quotaRuns", apart := false }
def QuotaRunsSaid : Prop := quotaRunsRow.holds Try.pinned (OpenSpec.ofChange quotaRunsSpec)

/-- ITS FALSE NEIGHBOUR: 'it returns false'. Refute it at one input. -/
def quotaRunsWrong : ChangeSpec := { name := "quotaRuns", fn := fun _ => fun
  | [d1, d2] => { results := [.lit (.bool false)], args := [d1, d2] }
  | _ => none }
def QuotaRunsWrongFalsely : Prop := quotaRunsRow.holds Try.pinned (OpenSpec.ofChange quotaRunsWrong)

/-- 'conciergelaw17.QuotaApart': WHATEVER THE INPUT: true; the input reads as it did. -/
def quotaApartSpec : ChangeSpec := { name := "quotaApart", fn := fun _ => fun
  | [d1, d2, d3] => { results := [.lit (.bool true)], args := [d1, d2, d3] }
  | _ => none }
def quotaApartRow : OpenClaim := { program := "ytkmafgmlcocjiaa", sum := "8e858e067207458dde50ec7516411abd0dc7787855d6df9b4830fa5b7a787e33", func := "concierge/conciergelaw17.QuotaApart", spec := "quotaApart", apart := false }
def QuotaApartSaid : Prop := quotaApartRow.holds Try.pinned (OpenSpec.ofChange quotaApartSpec)

/-- ITS FALSE NEIGHBOUR: 'it returns false'. Refute it at one input. -/
def quotaApartWrong : ChangeSpec := { name := "quotaApart", fn := fun _ => fun
  | [d1, d2, d3] => { results := [.lit (.bool false)], args := [d1, d2, d3] }
  | _ => none }
def QuotaApartWrongFalsely : Prop := quotaApartRow.holds Try.pinned (OpenSpec.ofChange quotaApartWrong)

/-- 'conciergelaw39.RateRuns': WHATEVER THE INPUT: true; the input reads as it did. -/
def rateRunsSpec : ChangeSpec := { name := "rateRuns", fn := fun _ => fun
  | [d1, d2, d3] => { results := [.lit (.bool true)], args := [d1, d2, d3] }
  | _ => none }
def rateRunsRow : OpenClaim := { program := "ytkmafgmlcocjiaa", sum := "8e858e067207458dde50ec7516411abd0dc7787855d6df9b4830fa5b7a787e33", func := "concierge/conciergelaw39.RateRuns", spec := "rateRuns", apart := false }
def RateRunsSaid : Prop := rateRunsRow.holds Try.pinned (OpenSpec.ofChange rateRunsSpec)

/-- ITS FALSE NEIGHBOUR: 'it returns false'. Refute it at one input. -/
def rateRunsWrong : ChangeSpec := { name := "rateRuns", fn := fun _ => fun
  | [d1, d2, d3] => { results := [.lit (.bool false)], args := [d1, d2, d3] }
  | _ => none }
def RateRunsWrongFalsely : Prop := rateRunsRow.holds Try.pinned (OpenSpec.ofChange rateRunsWrong)

/-- 'conciergelaw39.RateWindow': WHATEVER THE INPUT: true; the input reads as it did. -/
def rateWindowSpec : ChangeSpec := { name := "rateWindow", fn := fun _ => fun
  | [d1, d2, d3] => { results := [.lit (.bool true)], args := [d1, d2, d3] }
  | _ => none }
def rateWindowRow : OpenClaim := { program := "ytkmafgmlcocjiaa", sum := "8e858e067207458dde50ec7516411abd0dc7787855d6df9b4830fa5b7a787e33", func := "concierge/conciergelaw39.RateWindow", spec := "rateWindow", apart := false }
def RateWindowSaid : Prop := rateWindowRow.holds Try.pinned (OpenSpec.ofChange rateWindowSpec)

/-- ITS FALSE NEIGHBOUR: 'it returns false'. Refute it at one input. -/
def rateWindowWrong : ChangeSpec := { name := "rateWindow", fn := fun _ => fun
  | [d1, d2, d3] => { results := [.lit (.bool false)], args := [d1, d2, d3] }
  | _ => none }
def RateWindowWrongFalsely : Prop := rateWindowRow.holds Try.pinned (OpenSpec.ofChange rateWindowWrong)

/-- 'conciergelaw39.RateAfter': WHATEVER THE INPUT: true; the input reads as it did. -/
def rateAfterSpec : ChangeSpec := { name := "rateAfter", fn := fun _ => fun
  | [d1, d2, d3] => { results := [.lit (.bool true)], args := [d1, d2, d3] }
  | _ => none }
def rateAfterRow : OpenClaim := { program := "ytkmafgmlcocjiaa", sum := "8e858e067207458dde50ec7516411abd0dc7787855d6df9b4830fa5b7a787e33", func := "concierge/conciergelaw39.RateAfter", spec := "rateAfter", apart := false }
def RateAfterSaid : Prop := rateAfterRow.holds Try.pinned (OpenSpec.ofChange rateAfterSpec)

/-- ITS FALSE NEIGHBOUR: 'it returns false'. Refute it at one input. -/
def rateAfterWrong : ChangeSpec := { name := "rateAfter", fn := fun _ => fun
  | [d1, d2, d3] => { results := [.lit (.bool false)], args := [d1, d2, d3] }
  | _ => none }
def RateAfterWrongFalsely : Prop := rateAfterRow.holds Try.pinned (OpenSpec.ofChange rateAfterWrong)

/- THE SECOND FORM. 'bulk': how many values and letters a reading holds, each counted each time it is reached (what is shared counts as often as it is met; a slice's spare places count too). A statement '..UptoSaid' is the law's where the arguments, and the package variables that the reading takes, are together of bulk at most 1048576: NARROWER than '..Said'. Prove '..Said' where nothing that the law and all that it calls make is longer than what came in: it says more and counts as full. Else prove '..UptoSaid'. A law counts once. -/
mutual
def uptoBulk {H : Type} : DataW H → Nat
  | .lit (.string bytes) => bytes.length + 1
  | .lit _ => 1
  | .nil => 1
  | .ptr d => uptoBulk d + 1
  | .slice elems spare => uptoBulkAll elems + uptoBulkAll spare + 1
  | .agg parts => uptoBulkAll parts + 1
  | .iface _ d => uptoBulk d + 1
  | .map entries => uptoBulkEntries entries + 1
  | .held _ => 1
def uptoBulkAll {H : Type} : List (DataW H) → Nat
  | [] => 0
  | d :: r => uptoBulk d + uptoBulkAll r
def uptoBulkEntries {H : Type} : List (Lit × DataW H) → Nat
  | [] => 0
  | x :: r => uptoBulkEntry x + uptoBulkEntries r
def uptoBulkEntry {H : Type} : Lit × DataW H → Nat
  | (.string bytes, d) => bytes.length + uptoBulk d + 1
  | (_, d) => uptoBulk d + 1
 end
def uptoSmall : (H : Type) → List (DataW H) → Bool := fun _ ds => decide (uptoBulkAll ds ≤ 1048576)
def OpenSpec.upto (s : _root_.Go.ChangeSpec) : _root_.Go.OpenSpec := { _root_.Go.OpenSpec.ofChange s with cond := some uptoSmall }

/-- 'conciergelaw06.NumConfigs', WHERE WHAT IT READS IS OF BULK AT MOST 1048576: true; the input reads as it did. -/
def numConfigsUptoRow : OpenClaim := { program := "ytkmafgmlcocjiaa", sum := "8e858e067207458dde50ec7516411abd0dc7787855d6df9b4830fa5b7a787e33", func := "concierge/conciergelaw06.NumConfigs", spec := "numConfigs", apart := false, narrowed := true }
def NumConfigsUptoSaid : Prop := numConfigsUptoRow.holds Try.pinned (OpenSpec.upto numConfigsSpec)

/-- 'conciergelaw06.NumTimes', WHERE WHAT IT READS IS OF BULK AT MOST 1048576: true; the input reads as it did. -/
def numTimesUptoRow : OpenClaim := { program := "ytkmafgmlcocjiaa", sum := "8e858e067207458dde50ec7516411abd0dc7787855d6df9b4830fa5b7a787e33", func := "concierge/conciergelaw06.NumTimes", spec := "numTimes", apart := false, narrowed := true }
def NumTimesUptoSaid : Prop := numTimesUptoRow.holds Try.pinned (OpenSpec.upto numTimesSpec)

/-- 'conciergelaw06.NumNext', WHERE WHAT IT READS IS OF BULK AT MOST 1048576: true; the input reads as it did. -/
def numNextUptoRow : OpenClaim := { program := "ytkmafgmlcocjiaa", sum := "8e858e067207458dde50ec7516411abd0dc7787855d6df9b4830fa5b7a787e33", func := "concierge/conciergelaw06.NumNext", spec := "numNext", apart := false, narrowed := true }
def NumNextUptoSaid : Prop := numNextUptoRow.holds Try.pinned (OpenSpec.upto numNextSpec)

/-- 'conciergelaw02.CrcTexts', WHERE WHAT IT READS IS OF BULK AT MOST 1048576: true; the input reads as it did. -/
def crcTextsUptoRow : OpenClaim := { program := "ytkmafgmlcocjiaa", sum := "8e858e067207458dde50ec7516411abd0dc7787855d6df9b4830fa5b7a787e33", func := "concierge/conciergelaw02.CrcTexts", spec := "crcTexts", apart := false, narrowed := true }
def CrcTextsUptoSaid : Prop := crcTextsUptoRow.holds Try.pinned (OpenSpec.upto crcTextsSpec)

/-- 'conciergelaw02.CrcBursts', WHERE WHAT IT READS IS OF BULK AT MOST 1048576: true; the input reads as it did. -/
def crcBurstsUptoRow : OpenClaim := { program := "ytkmafgmlcocjiaa", sum := "8e858e067207458dde50ec7516411abd0dc7787855d6df9b4830fa5b7a787e33", func := "concierge/conciergelaw02.CrcBursts", spec := "crcBursts", apart := false, narrowed := true }
def CrcBurstsUptoSaid : Prop := crcBurstsUptoRow.holds Try.pinned (OpenSpec.upto crcBurstsSpec)

/-- 'conciergelaw02.CrcAny', WHERE WHAT IT READS IS OF BULK AT MOST 1048576: true; the input reads as it did. -/
def crcAnyUptoRow : OpenClaim := { program := "ytkmafgmlcocjiaa", sum := "8e858e067207458dde50ec7516411abd0dc7787855d6df9b4830fa5b7a787e33", func := "concierge/conciergelaw02.CrcAny", spec := "crcAny", apart := false, narrowed := true }
def CrcAnyUptoSaid : Prop := crcAnyUptoRow.holds Try.pinned (OpenSpec.upto crcAnySpec)

/-- 'conciergelaw17.QuotaRuns', WHERE WHAT IT READS IS OF BULK AT MOST 1048576: true; the input reads as it did. -/
def quotaRunsUptoRow : OpenClaim := { program := "ytkmafgmlcocjiaa", sum := "8e858e067207458dde50ec7516411abd0dc7787855d6df9b4830fa5b7a787e33", func := "concierge/conciergelaw17.QuotaRuns", spec := "quotaRuns", apart := false, narrowed := true }
def QuotaRunsUptoSaid : Prop := quotaRunsUptoRow.holds Try.pinned (OpenSpec.upto quotaRunsSpec)

/-- 'conciergelaw17.QuotaApart', WHERE WHAT IT READS IS OF BULK AT MOST 1048576: true; the input reads as it did. -/
def quotaApartUptoRow : OpenClaim := { program := "ytkmafgmlcocjiaa", sum := "8e858e067207458dde50ec7516411abd0dc7787855d6df9b4830fa5b7a787e33", func := "concierge/conciergelaw17.QuotaApart", spec := "quotaApart", apart := false, narrowed := true }
def QuotaApartUptoSaid : Prop := quotaApartUptoRow.holds Try.pinned (OpenSpec.upto quotaApartSpec)

/-- 'conciergelaw39.RateRuns', WHERE WHAT IT READS IS OF BULK AT MOST 1048576: true; the input reads as it did. -/
def rateRunsUptoRow : OpenClaim := { program := "ytkmafgmlcocjiaa", sum := "8e858e067207458dde50ec7516411abd0dc7787855d6df9b4830fa5b7a787e33", func := "concierge/conciergelaw39.RateRuns", spec := "rateRuns", apart := false, narrowed := true }
def RateRunsUptoSaid : Prop := rateRunsUptoRow.holds Try.pinned (OpenSpec.upto rateRunsSpec)

/-- 'conciergelaw39.RateWindow', WHERE WHAT IT READS IS OF BULK AT MOST 1048576: true; the input reads as it did. -/
def rateWindowUptoRow : OpenClaim := { program := "ytkmafgmlcocjiaa", sum := "8e858e067207458dde50ec7516411abd0dc7787855d6df9b4830fa5b7a787e33", func := "concierge/conciergelaw39.RateWindow", spec := "rateWindow", apart := false, narrowed := true }
def RateWindowUptoSaid : Prop := rateWindowUptoRow.holds Try.pinned (OpenSpec.upto rateWindowSpec)

/-- 'conciergelaw39.RateAfter', WHERE WHAT IT READS IS OF BULK AT MOST 1048576: true; the input reads as it did. -/
def rateAfterUptoRow : OpenClaim := { program := "ytkmafgmlcocjiaa", sum := "8e858e067207458dde50ec7516411abd0dc7787855d6df9b4830fa5b7a787e33", func := "concierge/conciergelaw39.RateAfter", spec := "rateAfter", apart := false, narrowed := true }
def RateAfterUptoSaid : Prop := rateAfterUptoRow.holds Try.pinned (OpenSpec.upto rateAfterSpec)

end Rows
end Go.Proofs.Ytkmafgmlcocjiaa
