/-
  No cell of these rows narrows 'for every input' (looked for: loops, veiled, ifaces, maps, wideKeys, modest, calm, conditions, laid).
  DERIVED. THE GIVEN ROWS OF THIS SEAT. 8 by the template 'for every input the law returns true; each argument reads behind the call as it read before'; 0 by the template 'total and deterministic' (their statements: YteokiiolchpndaaTotals.lean).
  GIVEN WITH THE SEED: the statements are not yours to turn. If you find one false, say at which input.
  Laid BY PROGRAM, IN A SANDBOX (cutbox-rows.mjs): the forced cells as the released guide's own fill.sh prints them over the translation bc0e94701e68203b… (all of the seat's roots in one cut). By AI agents, Wed Nov 11 2026. No macro, syntax, notation, axiom, sorry.
-/
import Derived.Test.YteokiiolchpndaaChecked
import GoSem.Claim
import GoSem.ClaimJoined
import GoSem.ClaimMapViews
import Derived.JoinedTies
import Derived.KernelRfl
namespace Go.Proofs.Yteokiiolchpndaa
/- THE CELL 'sum', in the pinned program and in every row, IS THE sha256 OF THE DUMP (.gsa) THAT YteokiiolchpndaaProg.lean LOADS. Nothing in Lean hashes anything: it is a label: what it is worth is what the hold of that sum in a sandbox is worth. -/
noncomputable def Try.pinned : Pinned := { name := "yteokiiolchpndaa", sum := "bc0e94701e68203b5fe363c28b62050d70ec007a3d117a0b7f700058af213d2c", checked := Try.checked }
namespace Rows
def none {H : Type} : Left H := { results := [], args := [] }

/-- 'conciergelaw25.BackendOnce': WHATEVER THE INPUT: true; the input reads as it did. -/
def backendOnceSpec : ChangeSpec := { name := "backendOnce", fn := fun _ => fun
  | [d] => { results := [.lit (.bool true)], args := [d] }
  | _ => none }
def backendOnceRow : OpenClaim := { program := "yteokiiolchpndaa", sum := "bc0e94701e68203b5fe363c28b62050d70ec007a3d117a0b7f700058af213d2c", func := "concierge/conciergelaw25.BackendOnce", spec := "backendOnce", plainKeys := false, apart := false }
def BackendOnceSaid : Prop := backendOnceRow.holds Try.pinned (OpenSpec.ofChange backendOnceSpec)

/-- ITS FALSE NEIGHBOUR: 'it returns false'. Refute it at one input. -/
def backendOnceWrong : ChangeSpec := { name := "backendOnce", fn := fun _ => fun
  | [d] => { results := [.lit (.bool false)], args := [d] }
  | _ => none }
def BackendOnceWrongFalsely : Prop := backendOnceRow.holds Try.pinned (OpenSpec.ofChange backendOnceWrong)

/-- 'conciergelaw25.BackendFences': WHATEVER THE INPUT: true; the input reads as it did. -/
def backendFencesSpec : ChangeSpec := { name := "backendFences", fn := fun _ => fun
  | [d] => { results := [.lit (.bool true)], args := [d] }
  | _ => none }
def backendFencesRow : OpenClaim := { program := "yteokiiolchpndaa", sum := "bc0e94701e68203b5fe363c28b62050d70ec007a3d117a0b7f700058af213d2c", func := "concierge/conciergelaw25.BackendFences", spec := "backendFences", plainKeys := false, apart := false }
def BackendFencesSaid : Prop := backendFencesRow.holds Try.pinned (OpenSpec.ofChange backendFencesSpec)

/-- ITS FALSE NEIGHBOUR: 'it returns false'. Refute it at one input. -/
def backendFencesWrong : ChangeSpec := { name := "backendFences", fn := fun _ => fun
  | [d] => { results := [.lit (.bool false)], args := [d] }
  | _ => none }
def BackendFencesWrongFalsely : Prop := backendFencesRow.holds Try.pinned (OpenSpec.ofChange backendFencesWrong)

/-- 'conciergelaw25.BackendRuns': WHATEVER THE INPUT: true; the input reads as it did. -/
def backendRunsSpec : ChangeSpec := { name := "backendRuns", fn := fun _ => fun
  | [d] => { results := [.lit (.bool true)], args := [d] }
  | _ => none }
def backendRunsRow : OpenClaim := { program := "yteokiiolchpndaa", sum := "bc0e94701e68203b5fe363c28b62050d70ec007a3d117a0b7f700058af213d2c", func := "concierge/conciergelaw25.BackendRuns", spec := "backendRuns", plainKeys := false, apart := false }
def BackendRunsSaid : Prop := backendRunsRow.holds Try.pinned (OpenSpec.ofChange backendRunsSpec)

/-- ITS FALSE NEIGHBOUR: 'it returns false'. Refute it at one input. -/
def backendRunsWrong : ChangeSpec := { name := "backendRuns", fn := fun _ => fun
  | [d] => { results := [.lit (.bool false)], args := [d] }
  | _ => none }
def BackendRunsWrongFalsely : Prop := backendRunsRow.holds Try.pinned (OpenSpec.ofChange backendRunsWrong)

/-- 'conciergelaw25.BackendNobody': WHATEVER THE INPUT: true; the input reads as it did. -/
def backendNobodySpec : ChangeSpec := { name := "backendNobody", fn := fun _ => fun
  | [d] => { results := [.lit (.bool true)], args := [d] }
  | _ => none }
def backendNobodyRow : OpenClaim := { program := "yteokiiolchpndaa", sum := "bc0e94701e68203b5fe363c28b62050d70ec007a3d117a0b7f700058af213d2c", func := "concierge/conciergelaw25.BackendNobody", spec := "backendNobody", plainKeys := false, apart := false }
def BackendNobodySaid : Prop := backendNobodyRow.holds Try.pinned (OpenSpec.ofChange backendNobodySpec)

/-- ITS FALSE NEIGHBOUR: 'it returns false'. Refute it at one input. -/
def backendNobodyWrong : ChangeSpec := { name := "backendNobody", fn := fun _ => fun
  | [d] => { results := [.lit (.bool false)], args := [d] }
  | _ => none }
def BackendNobodyWrongFalsely : Prop := backendNobodyRow.holds Try.pinned (OpenSpec.ofChange backendNobodyWrong)

/-- 'conciergelaw27.BagRuns': WHATEVER THE INPUT: true; the input reads as it did. -/
def bagRunsSpec : ChangeSpec := { name := "bagRuns", fn := fun _ => fun
  | [d1, d2] => { results := [.lit (.bool true)], args := [d1, d2] }
  | _ => none }
def bagRunsRow : OpenClaim := { program := "yteokiiolchpndaa", sum := "bc0e94701e68203b5fe363c28b62050d70ec007a3d117a0b7f700058af213d2c", func := "concierge/conciergelaw27.BagRuns", spec := "bagRuns", plainKeys := false, apart := false }
def BagRunsSaid : Prop := bagRunsRow.holds Try.pinned (OpenSpec.ofChange bagRunsSpec)

/-- ITS FALSE NEIGHBOUR: 'it returns false'. Refute it at one input. -/
def bagRunsWrong : ChangeSpec := { name := "bagRuns", fn := fun _ => fun
  | [d1, d2] => { results := [.lit (.bool false)], args := [d1, d2] }
  | _ => none }
def BagRunsWrongFalsely : Prop := bagRunsRow.holds Try.pinned (OpenSpec.ofChange bagRunsWrong)

/-- 'conciergelaw27.BagKeeps': WHATEVER THE INPUT: true; the input reads as it did. -/
def bagKeepsSpec : ChangeSpec := { name := "bagKeeps", fn := fun _ => fun
  | [d] => { results := [.lit (.bool true)], args := [d] }
  | _ => none }
def bagKeepsRow : OpenClaim := { program := "yteokiiolchpndaa", sum := "bc0e94701e68203b5fe363c28b62050d70ec007a3d117a0b7f700058af213d2c", func := "concierge/conciergelaw27.BagKeeps", spec := "bagKeeps", plainKeys := false, apart := false }
def BagKeepsSaid : Prop := bagKeepsRow.holds Try.pinned (OpenSpec.ofChange bagKeepsSpec)

/-- ITS FALSE NEIGHBOUR: 'it returns false'. Refute it at one input. -/
def bagKeepsWrong : ChangeSpec := { name := "bagKeeps", fn := fun _ => fun
  | [d] => { results := [.lit (.bool false)], args := [d] }
  | _ => none }
def BagKeepsWrongFalsely : Prop := bagKeepsRow.holds Try.pinned (OpenSpec.ofChange bagKeepsWrong)

/-- 'conciergelaw32.ClientRuns': WHATEVER THE INPUT: true; the input reads as it did. -/
def clientRunsSpec : ChangeSpec := { name := "clientRuns", fn := fun _ => fun
  | [d1, d2, d3] => { results := [.lit (.bool true)], args := [d1, d2, d3] }
  | _ => none }
def clientRunsRow : OpenClaim := { program := "yteokiiolchpndaa", sum := "bc0e94701e68203b5fe363c28b62050d70ec007a3d117a0b7f700058af213d2c", func := "concierge/conciergelaw32.ClientRuns", spec := "clientRuns", plainKeys := false, apart := false }
def ClientRunsSaid : Prop := clientRunsRow.holds Try.pinned (OpenSpec.ofChange clientRunsSpec)

/-- ITS FALSE NEIGHBOUR: 'it returns false'. Refute it at one input. -/
def clientRunsWrong : ChangeSpec := { name := "clientRuns", fn := fun _ => fun
  | [d1, d2, d3] => { results := [.lit (.bool false)], args := [d1, d2, d3] }
  | _ => none }
def ClientRunsWrongFalsely : Prop := clientRunsRow.holds Try.pinned (OpenSpec.ofChange clientRunsWrong)

/-- 'conciergelaw32.ClientOnce': WHATEVER THE INPUT: true; the input reads as it did. -/
def clientOnceSpec : ChangeSpec := { name := "clientOnce", fn := fun _ => fun
  | [d1, d2] => { results := [.lit (.bool true)], args := [d1, d2] }
  | _ => none }
def clientOnceRow : OpenClaim := { program := "yteokiiolchpndaa", sum := "bc0e94701e68203b5fe363c28b62050d70ec007a3d117a0b7f700058af213d2c", func := "concierge/conciergelaw32.ClientOnce", spec := "clientOnce", plainKeys := false, apart := false }
def ClientOnceSaid : Prop := clientOnceRow.holds Try.pinned (OpenSpec.ofChange clientOnceSpec)

/-- ITS FALSE NEIGHBOUR: 'it returns false'. Refute it at one input. -/
def clientOnceWrong : ChangeSpec := { name := "clientOnce", fn := fun _ => fun
  | [d1, d2] => { results := [.lit (.bool false)], args := [d1, d2] }
  | _ => none }
def ClientOnceWrongFalsely : Prop := clientOnceRow.holds Try.pinned (OpenSpec.ofChange clientOnceWrong)

/- THE SECOND FORM. 'bulk': how many values and letters a reading holds, each counted each time it is reached (what is shared counts as often as it is met; a slice's spare places count too). A statement '..UptoSaid' is the law's where the arguments, and the package variables that the reading takes, are together of bulk at most 1048576: NARROWER than '..Said'. Prove '..Said' where nothing that the law and all that it calls make is longer than what came in: it says more and counts as full. Else prove '..UptoSaid'. A law counts once. -/
mutual
def uptoBulk {H : Type} : DataW H → Nat
  | .lit (.string bytes) => bytes.length + 1
  | .lit _ => 1
  | .nil => 1
  | .ptr d => uptoBulk d + 1
  | .slice elems spare => uptoBulkAll elems + uptoBulkAll spare + 1
  | .agg parts => uptoBulkAll parts + 1
  | .iface _ d => uptoBulk d + 1
  | .map entries => uptoBulkEntries entries + 1
  | .held _ => 1
def uptoBulkAll {H : Type} : List (DataW H) → Nat
  | [] => 0
  | d :: r => uptoBulk d + uptoBulkAll r
def uptoBulkEntries {H : Type} : List (Lit × DataW H) → Nat
  | [] => 0
  | x :: r => uptoBulkEntry x + uptoBulkEntries r
def uptoBulkEntry {H : Type} : Lit × DataW H → Nat
  | (.string bytes, d) => bytes.length + uptoBulk d + 1
  | (_, d) => uptoBulk d + 1
 end
def uptoSmall : (H : Type) → List (DataW H) → Bool := fun _ ds => decide (uptoBulkAll ds ≤ 1048576)
def OpenSpec.upto (s : _root_.Go.ChangeSpec) : _root_.Go.OpenSpec := { _root_.Go.OpenSpec.ofChange s with cond := some uptoSmall }

/-- 'conciergelaw25.BackendOnce', WHERE WHAT IT READS IS OF BULK AT MOST 1048576: true; the input reads as it did. -/
def backendOnceUptoRow : OpenClaim := { program := "yteokiiolchpndaa", sum := "bc0e94701e68203b5fe363c28b62050d70ec007a3d117a0b7f700058af213d2c", func := "concierge/conciergelaw25.BackendOnce", spec := "backendOnce", plainKeys := false, apart := false, narrowed := true }
def BackendOnceUptoSaid : Prop := backendOnceUptoRow.holds Try.pinned (OpenSpec.upto backendOnceSpec)

/-- 'conciergelaw25.BackendFences', WHERE WHAT IT READS IS OF BULK AT MOST 1048576: true; the input reads as it did. -/
def backendFencesUptoRow : OpenClaim := { program := "yteokiiolchpndaa", sum := "bc0e94701e68203b5fe363c28b62050d70ec007a3d117a0b7f700058af213d2c", func := "concierge/conciergelaw25.BackendFences", spec := "backendFences", plainKeys := false, apart := false, narrowed := true }
def BackendFencesUptoSaid : Prop := backendFencesUptoRow.holds Try.pinned (OpenSpec.upto backendFencesSpec)

/-- 'conciergelaw25.BackendRuns', WHERE WHAT IT READS IS OF BULK AT MOST 1048576: true; the input reads as it did. -/
def backendRunsUptoRow : OpenClaim := { program := "yteokiiolchpndaa", sum := "bc0e94701e68203b5fe363c28b62050d70ec007a3d117a0b7f700058af213d2c", func := "concierge/conciergelaw25.BackendRuns", spec := "backendRuns", plainKeys := false, apart := false, narrowed := true }
def BackendRunsUptoSaid : Prop := backendRunsUptoRow.holds Try.pinned (OpenSpec.upto backendRunsSpec)

/-- 'conciergelaw25.BackendNobody', WHERE WHAT IT READS IS OF BULK AT MOST 1048576: true; the input reads as it did. -/
def backendNobodyUptoRow : OpenClaim := { program := "yteokiiolchpndaa", sum := "bc0e94701e68203b5fe363c28b62050d70ec007a3d117a0b7f700058af213d2c", func := "concierge/conciergelaw25.BackendNobody", spec := "backendNobody", plainKeys := false, apart := false, narrowed := true }
def BackendNobodyUptoSaid : Prop := backendNobodyUptoRow.holds Try.pinned (OpenSpec.upto backendNobodySpec)

/-- 'conciergelaw27.BagRuns', WHERE WHAT IT READS IS OF BULK AT MOST 1048576: true; the input reads as it did. -/
def bagRunsUptoRow : OpenClaim := { program := "yteokiiolchpndaa", sum := "bc0e94701e68203b5fe363c28b62050d70ec007a3d117a0b7f700058af213d2c", func := "concierge/conciergelaw27.BagRuns", spec := "bagRuns", plainKeys := false, apart := false, narrowed := true }
def BagRunsUptoSaid : Prop := bagRunsUptoRow.holds Try.pinned (OpenSpec.upto bagRunsSpec)

/-- 'conciergelaw27.BagKeeps', WHERE WHAT IT READS IS OF BULK AT MOST 1048576: true; the input reads as it did. -/
def bagKeepsUptoRow : OpenClaim := { program := "yteokiiolchpndaa", sum := "bc0e94701e68203b5fe363c28b62050d70ec007a3d117a0b7f700058af213d2c", func := "concierge/conciergelaw27.BagKeeps", spec := "bagKeeps", plainKeys := false, apart := false, narrowed := true }
def BagKeepsUptoSaid : Prop := bagKeepsUptoRow.holds Try.pinned (OpenSpec.upto bagKeepsSpec)

/-- 'conciergelaw32.ClientRuns', WHERE WHAT IT READS IS OF BULK AT MOST 1048576: true; the input reads as it did. -/
def clientRunsUptoRow : OpenClaim := { program := "yteokiiolchpndaa", sum := "bc0e94701e68203b5fe363c28b62050d70ec007a3d117a0b7f700058af213d2c", func := "concierge/conciergelaw32.ClientRuns", spec := "clientRuns", plainKeys := false, apart := false, narrowed := true }
def ClientRunsUptoSaid : Prop := clientRunsUptoRow.holds Try.pinned (OpenSpec.upto clientRunsSpec)

/-- 'conciergelaw32.ClientOnce', WHERE WHAT IT READS IS OF BULK AT MOST 1048576: true; the input reads as it did. -/
def clientOnceUptoRow : OpenClaim := { program := "yteokiiolchpndaa", sum := "bc0e94701e68203b5fe363c28b62050d70ec007a3d117a0b7f700058af213d2c", func := "concierge/conciergelaw32.ClientOnce", spec := "clientOnce", plainKeys := false, apart := false, narrowed := true }
def ClientOnceUptoSaid : Prop := clientOnceUptoRow.holds Try.pinned (OpenSpec.upto clientOnceSpec)

end Rows
end Go.Proofs.Yteokiiolchpndaa
