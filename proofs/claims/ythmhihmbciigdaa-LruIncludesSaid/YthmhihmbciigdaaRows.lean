/-
  No cell of these rows narrows 'for every input' (looked for: loops, veiled, ifaces, maps, wideKeys, modest, calm, conditions, laid).
  DERIVED. THE GIVEN ROWS OF THIS SEAT. 10 by the template 'for every input the law returns true; each argument reads behind the call as it read before'; 0 by the template 'total and deterministic' (their statements: YthmhihmbciigdaaTotals.lean).
  GIVEN WITH THE SEED: the statements are not yours to turn. If you find one false, say at which input.
  Laid BY PROGRAM, IN A SANDBOX (cutbox-rows.mjs): the forced cells as the released guide's own fill.sh prints them over the translation 0e0a3ffbf3909b28… (all of the seat's roots in one cut). By AI agents, Wed Nov 11 2026. No macro, syntax, notation, axiom, sorry.
-/
import Derived.Test.YthmhihmbciigdaaChecked
import GoSem.Claim
import GoSem.ClaimJoined
import GoSem.ClaimMapViews
import Derived.JoinedTies
import Derived.KernelRfl
namespace Go.Proofs.Ythmhihmbciigdaa
/- THE CELL 'sum', in the pinned program and in every row, IS THE sha256 OF THE DUMP (.gsa) THAT YthmhihmbciigdaaProg.lean LOADS. Nothing in Lean hashes anything: it is a label: what it is worth is what the hold of that sum in a sandbox is worth. -/
noncomputable def Try.pinned : Pinned := { name := "ythmhihmbciigdaa", sum := "0e0a3ffbf3909b28b0b83d336548c157d4f87c7390297d7aff02cabf9be5cc03", checked := Try.checked }
namespace Rows
def none {H : Type} : Left H := { results := [], args := [] }

/-- 'conciergelaw10.FrameBack': WHATEVER THE INPUT: true; the input reads as it did. -/
def frameBackSpec : ChangeSpec := { name := "frameBack", fn := fun _ => fun
  | [d] => { results := [.lit (.bool true)], args := [d] }
  | _ => none }
def frameBackRow : OpenClaim := { program := "ythmhihmbciigdaa", sum := "0e0a3ffbf3909b28b0b83d336548c157d4f87c7390297d7aff02cabf9be5cc03", func := "concierge/conciergelaw10.FrameBack", spec := "frameBack", apart := false }
def FrameBackSaid : Prop := frameBackRow.holds Try.pinned (OpenSpec.ofChange frameBackSpec)

/-- ITS FALSE NEIGHBOUR: 'it returns false'. Refute it at one input. -/
def frameBackWrong : ChangeSpec := { name := "frameBack", fn := fun _ => fun
  | [d] => { results := [.lit (.bool false)], args := [d] }
  | _ => none }
def FrameBackWrongFalsely : Prop := frameBackRow.holds Try.pinned (OpenSpec.ofChange frameBackWrong)

/-- 'conciergelaw10.FrameLong': WHATEVER THE INPUT: true; the input reads as it did. -/
def frameLongSpec : ChangeSpec := { name := "frameLong", fn := fun _ => fun
  | [d1, d2] => { results := [.lit (.bool true)], args := [d1, d2] }
  | _ => none }
def frameLongRow : OpenClaim := { program := "ythmhihmbciigdaa", sum := "0e0a3ffbf3909b28b0b83d336548c157d4f87c7390297d7aff02cabf9be5cc03", func := "concierge/conciergelaw10.FrameLong", spec := "frameLong", apart := false }
def FrameLongSaid : Prop := frameLongRow.holds Try.pinned (OpenSpec.ofChange frameLongSpec)

/-- ITS FALSE NEIGHBOUR: 'it returns false'. Refute it at one input. -/
def frameLongWrong : ChangeSpec := { name := "frameLong", fn := fun _ => fun
  | [d1, d2] => { results := [.lit (.bool false)], args := [d1, d2] }
  | _ => none }
def FrameLongWrongFalsely : Prop := frameLongRow.holds Try.pinned (OpenSpec.ofChange frameLongWrong)

/-- 'conciergelaw10.FrameAny': WHATEVER THE INPUT: true; the input reads as it did. -/
def frameAnySpec : ChangeSpec := { name := "frameAny", fn := fun _ => fun
  | [d] => { results := [.lit (.bool true)], args := [d] }
  | _ => none }
def frameAnyRow : OpenClaim := { program := "ythmhihmbciigdaa", sum := "0e0a3ffbf3909b28b0b83d336548c157d4f87c7390297d7aff02cabf9be5cc03", func := "concierge/conciergelaw10.FrameAny", spec := "frameAny", apart := false }
def FrameAnySaid : Prop := frameAnyRow.holds Try.pinned (OpenSpec.ofChange frameAnySpec)

/-- ITS FALSE NEIGHBOUR: 'it returns false'. Refute it at one input. -/
def frameAnyWrong : ChangeSpec := { name := "frameAny", fn := fun _ => fun
  | [d] => { results := [.lit (.bool false)], args := [d] }
  | _ => none }
def FrameAnyWrongFalsely : Prop := frameAnyRow.holds Try.pinned (OpenSpec.ofChange frameAnyWrong)

/-- 'conciergelaw10.FrameCut': WHATEVER THE INPUT: true; the input reads as it did. -/
def frameCutSpec : ChangeSpec := { name := "frameCut", fn := fun _ => fun
  | [d1, d2] => { results := [.lit (.bool true)], args := [d1, d2] }
  | _ => none }
def frameCutRow : OpenClaim := { program := "ythmhihmbciigdaa", sum := "0e0a3ffbf3909b28b0b83d336548c157d4f87c7390297d7aff02cabf9be5cc03", func := "concierge/conciergelaw10.FrameCut", spec := "frameCut", apart := false }
def FrameCutSaid : Prop := frameCutRow.holds Try.pinned (OpenSpec.ofChange frameCutSpec)

/-- ITS FALSE NEIGHBOUR: 'it returns false'. Refute it at one input. -/
def frameCutWrong : ChangeSpec := { name := "frameCut", fn := fun _ => fun
  | [d1, d2] => { results := [.lit (.bool false)], args := [d1, d2] }
  | _ => none }
def FrameCutWrongFalsely : Prop := frameCutRow.holds Try.pinned (OpenSpec.ofChange frameCutWrong)

/-- 'conciergelaw10.FrameRot': WHATEVER THE INPUT: true; the input reads as it did. -/
def frameRotSpec : ChangeSpec := { name := "frameRot", fn := fun _ => fun
  | [d1, d2, d3] => { results := [.lit (.bool true)], args := [d1, d2, d3] }
  | _ => none }
def frameRotRow : OpenClaim := { program := "ythmhihmbciigdaa", sum := "0e0a3ffbf3909b28b0b83d336548c157d4f87c7390297d7aff02cabf9be5cc03", func := "concierge/conciergelaw10.FrameRot", spec := "frameRot", apart := false }
def FrameRotSaid : Prop := frameRotRow.holds Try.pinned (OpenSpec.ofChange frameRotSpec)

/-- ITS FALSE NEIGHBOUR: 'it returns false'. Refute it at one input. -/
def frameRotWrong : ChangeSpec := { name := "frameRot", fn := fun _ => fun
  | [d1, d2, d3] => { results := [.lit (.bool false)], args := [d1, d2, d3] }
  | _ => none }
def FrameRotWrongFalsely : Prop := frameRotRow.holds Try.pinned (OpenSpec.ofChange frameRotWrong)

/-- 'conciergelaw47.LruRuns': WHATEVER THE INPUT: true; the input reads as it did. -/
def lruRunsSpec : ChangeSpec := { name := "lruRuns", fn := fun _ => fun
  | [d1, d2] => { results := [.lit (.bool true)], args := [d1, d2] }
  | _ => none }
def lruRunsRow : OpenClaim := { program := "ythmhihmbciigdaa", sum := "0e0a3ffbf3909b28b0b83d336548c157d4f87c7390297d7aff02cabf9be5cc03", func := "concierge/conciergelaw47.LruRuns", spec := "lruRuns", apart := false }
def LruRunsSaid : Prop := lruRunsRow.holds Try.pinned (OpenSpec.ofChange lruRunsSpec)

/-- ITS FALSE NEIGHBOUR: 'it returns false'. Refute it at one input. -/
def lruRunsWrong : ChangeSpec := { name := "lruRuns", fn := fun _ => fun
  | [d1, d2] => { results := [.lit (.bool false)], args := [d1, d2] }
  | _ => none }
def LruRunsWrongFalsely : Prop := lruRunsRow.holds Try.pinned (OpenSpec.ofChange lruRunsWrong)

/-- 'conciergelaw47.LruIncludes': WHATEVER THE INPUT: true; the input reads as it did. -/
def lruIncludesSpec : ChangeSpec := { name := "lruIncludes", fn := fun _ => fun
  | [d1, d2, d3] => { results := [.lit (.bool true)], args := [d1, d2, d3] }
  | _ => none }
def lruIncludesRow : OpenClaim := { program := "ythmhihmbciigdaa", sum := "0e0a3ffbf3909b28b0b83d336548c157d4f87c7390297d7aff02cabf9be5cc03", func := "concierge/conciergelaw47.LruIncludes", spec := "lruIncludes", apart := false }
def LruIncludesSaid : Prop := lruIncludesRow.holds Try.pinned (OpenSpec.ofChange lruIncludesSpec)

/-- ITS FALSE NEIGHBOUR: 'it returns false'. Refute it at one input. -/
def lruIncludesWrong : ChangeSpec := { name := "lruIncludes", fn := fun _ => fun
  | [d1, d2, d3] => { results := [.lit (.bool false)], args := [d1, d2, d3] }
  | _ => none }
def LruIncludesWrongFalsely : Prop := lruIncludesRow.holds Try.pinned (OpenSpec.ofChange lruIncludesWrong)

/-- 'conciergelaw01.PackBack': WHATEVER THE INPUT: true; the input reads as it did. -/
def packBackSpec : ChangeSpec := { name := "packBack", fn := fun _ => fun
  | [d] => { results := [.lit (.bool true)], args := [d] }
  | _ => none }
def packBackRow : OpenClaim := { program := "ythmhihmbciigdaa", sum := "0e0a3ffbf3909b28b0b83d336548c157d4f87c7390297d7aff02cabf9be5cc03", func := "concierge/conciergelaw01.PackBack", spec := "packBack", apart := false }
def PackBackSaid : Prop := packBackRow.holds Try.pinned (OpenSpec.ofChange packBackSpec)

/-- ITS FALSE NEIGHBOUR: 'it returns false'. Refute it at one input. -/
def packBackWrong : ChangeSpec := { name := "packBack", fn := fun _ => fun
  | [d] => { results := [.lit (.bool false)], args := [d] }
  | _ => none }
def PackBackWrongFalsely : Prop := packBackRow.holds Try.pinned (OpenSpec.ofChange packBackWrong)

/-- 'conciergelaw01.PackReads': WHATEVER THE INPUT: true; the input reads as it did. -/
def packReadsSpec : ChangeSpec := { name := "packReads", fn := fun _ => fun
  | [d1, d2] => { results := [.lit (.bool true)], args := [d1, d2] }
  | _ => none }
def packReadsRow : OpenClaim := { program := "ythmhihmbciigdaa", sum := "0e0a3ffbf3909b28b0b83d336548c157d4f87c7390297d7aff02cabf9be5cc03", func := "concierge/conciergelaw01.PackReads", spec := "packReads", unfollowed := true, recurses := true, apart := false }
def PackReadsSaid : Prop := packReadsRow.holds Try.pinned (OpenSpec.ofChange packReadsSpec)

/-- ITS FALSE NEIGHBOUR: 'it returns false'. Refute it at one input. -/
def packReadsWrong : ChangeSpec := { name := "packReads", fn := fun _ => fun
  | [d1, d2] => { results := [.lit (.bool false)], args := [d1, d2] }
  | _ => none }
def PackReadsWrongFalsely : Prop := packReadsRow.holds Try.pinned (OpenSpec.ofChange packReadsWrong)

/-- 'conciergelaw01.PackNumbers': WHATEVER THE INPUT: true; the input reads as it did. -/
def packNumbersSpec : ChangeSpec := { name := "packNumbers", fn := fun _ => fun
  | [d1, d2] => { results := [.lit (.bool true)], args := [d1, d2] }
  | _ => none }
def packNumbersRow : OpenClaim := { program := "ythmhihmbciigdaa", sum := "0e0a3ffbf3909b28b0b83d336548c157d4f87c7390297d7aff02cabf9be5cc03", func := "concierge/conciergelaw01.PackNumbers", spec := "packNumbers", apart := false }
def PackNumbersSaid : Prop := packNumbersRow.holds Try.pinned (OpenSpec.ofChange packNumbersSpec)

/-- ITS FALSE NEIGHBOUR: 'it returns false'. Refute it at one input. -/
def packNumbersWrong : ChangeSpec := { name := "packNumbers", fn := fun _ => fun
  | [d1, d2] => { results := [.lit (.bool false)], args := [d1, d2] }
  | _ => none }
def PackNumbersWrongFalsely : Prop := packNumbersRow.holds Try.pinned (OpenSpec.ofChange packNumbersWrong)

/- THE SECOND FORM. 'bulk': how many values and letters a reading holds, each counted each time it is reached (what is shared counts as often as it is met; a slice's spare places count too). A statement '..UptoSaid' is the law's where the arguments, and the package variables that the reading takes, are together of bulk at most 1048576: NARROWER than '..Said'. Prove '..Said' where nothing that the law and all that it calls make is longer than what came in: it says more and counts as full. Else prove '..UptoSaid'. A law counts once. -/
mutual
def uptoBulk {H : Type} : DataW H → Nat
  | .lit (.string bytes) => bytes.length + 1
  | .lit _ => 1
  | .nil => 1
  | .ptr d => uptoBulk d + 1
  | .slice elems spare => uptoBulkAll elems + uptoBulkAll spare + 1
  | .agg parts => uptoBulkAll parts + 1
  | .iface _ d => uptoBulk d + 1
  | .map entries => uptoBulkEntries entries + 1
  | .held _ => 1
def uptoBulkAll {H : Type} : List (DataW H) → Nat
  | [] => 0
  | d :: r => uptoBulk d + uptoBulkAll r
def uptoBulkEntries {H : Type} : List (Lit × DataW H) → Nat
  | [] => 0
  | x :: r => uptoBulkEntry x + uptoBulkEntries r
def uptoBulkEntry {H : Type} : Lit × DataW H → Nat
  | (.string bytes, d) => bytes.length + uptoBulk d + 1
  | (_, d) => uptoBulk d + 1
 end
def uptoSmall : (H : Type) → List (DataW H) → Bool := fun _ ds => decide (uptoBulkAll ds ≤ 1048576)
def OpenSpec.upto (s : _root_.Go.ChangeSpec) : _root_.Go.OpenSpec := { _root_.Go.OpenSpec.ofChange s with cond := some uptoSmall }

/-- 'conciergelaw10.FrameBack', WHERE WHAT IT READS IS OF BULK AT MOST 1048576: true; the input reads as it did. -/
def frameBackUptoRow : OpenClaim := { program := "ythmhihmbciigdaa", sum := "0e0a3ffbf3909b28b0b83d336548c157d4f87c7390297d7aff02cabf9be5cc03", func := "concierge/conciergelaw10.FrameBack", spec := "frameBack", apart := false, narrowed := true }
def FrameBackUptoSaid : Prop := frameBackUptoRow.holds Try.pinned (OpenSpec.upto frameBackSpec)

/-- 'conciergelaw10.FrameLong', WHERE WHAT IT READS IS OF BULK AT MOST 1048576: true; the input reads as it did. -/
def frameLongUptoRow : OpenClaim := { program := "ythmhihmbciigdaa", sum := "0e0a3ffbf3909b28b0b83d336548c157d4f87c7390297d7aff02cabf9be5cc03", func := "concierge/conciergelaw10.FrameLong", spec := "frameLong", apart := false, narrowed := true }
def FrameLongUptoSaid : Prop := frameLongUptoRow.holds Try.pinned (OpenSpec.upto frameLongSpec)

/-- 'conciergelaw10.FrameAny', WHERE WHAT IT READS IS OF BULK AT MOST 1048576: true; the input reads as it did. -/
def frameAnyUptoRow : OpenClaim := { program := "ythmhihmbciigdaa", sum := "0e0a3ffbf3909b28b0b83d336548c157d4f87c7390297d7aff02cabf9be5cc03", func := "concierge/conciergelaw10.FrameAny", spec := "frameAny", apart := false, narrowed := true }
def FrameAnyUptoSaid : Prop := frameAnyUptoRow.holds Try.pinned (OpenSpec.upto frameAnySpec)

/-- 'conciergelaw10.FrameCut', WHERE WHAT IT READS IS OF BULK AT MOST 1048576: true; the input reads as it did. -/
def frameCutUptoRow : OpenClaim := { program := "ythmhihmbciigdaa", sum := "0e0a3ffbf3909b28b0b83d336548c157d4f87c7390297d7aff02cabf9be5cc03", func := "concierge/conciergelaw10.FrameCut", spec := "frameCut", apart := false, narrowed := true }
def FrameCutUptoSaid : Prop := frameCutUptoRow.holds Try.pinned (OpenSpec.upto frameCutSpec)

/-- 'conciergelaw10.FrameRot', WHERE WHAT IT READS IS OF BULK AT MOST 1048576: true; the input reads as it did. -/
def frameRotUptoRow : OpenClaim := { program := "ythmhihmbciigdaa", sum := "0e0a3ffbf3909b28b0b83d336548c157d4f87c7390297d7aff02cabf9be5cc03", func := "concierge/conciergelaw10.FrameRot", spec := "frameRot", apart := false, narrowed := true }
def FrameRotUptoSaid : Prop := frameRotUptoRow.holds Try.pinned (OpenSpec.upto frameRotSpec)

/-- 'conciergelaw47.LruRuns', WHERE WHAT IT READS IS OF BULK AT MOST 1048576: true; the input reads as it did. -/
def lruRunsUptoRow : OpenClaim := { program := "ythmhihmbciigdaa", sum := "0e0a3ffbf3909b28b0b83d336548c157d4f87c7390297d7aff02cabf9be5cc03", func := "concierge/conciergelaw47.LruRuns", spec := "lruRuns", apart := false, narrowed := true }
def LruRunsUptoSaid : Prop := lruRunsUptoRow.holds Try.pinned (OpenSpec.upto lruRunsSpec)

/-- 'conciergelaw47.LruIncludes', WHERE WHAT IT READS IS OF BULK AT MOST 1048576: true; the input reads as it did. -/
def lruIncludesUptoRow : OpenClaim := { program := "ythmhihmbciigdaa", sum := "0e0a3ffbf3909b28b0b83d336548c157d4f87c7390297d7aff02cabf9be5cc03", func := "concierge/conciergelaw47.LruIncludes", spec := "lruIncludes", apart := false, narrowed := true }
def LruIncludesUptoSaid : Prop := lruIncludesUptoRow.holds Try.pinned (OpenSpec.upto lruIncludesSpec)

/-- 'conciergelaw01.PackBack', WHERE WHAT IT READS IS OF BULK AT MOST 1048576: true; the input reads as it did. -/
def packBackUptoRow : OpenClaim := { program := "ythmhihmbciigdaa", sum := "0e0a3ffbf3909b28b0b83d336548c157d4f87c7390297d7aff02cabf9be5cc03", func := "concierge/conciergelaw01.PackBack", spec := "packBack", apart := false, narrowed := true }
def PackBackUptoSaid : Prop := packBackUptoRow.holds Try.pinned (OpenSpec.upto packBackSpec)

/-- 'conciergelaw01.PackReads', WHERE WHAT IT READS IS OF BULK AT MOST 1048576: true; the input reads as it did. -/
def packReadsUptoRow : OpenClaim := { program := "ythmhihmbciigdaa", sum := "0e0a3ffbf3909b28b0b83d336548c157d4f87c7390297d7aff02cabf9be5cc03", func := "concierge/conciergelaw01.PackReads", spec := "packReads", unfollowed := true, recurses := true, apart := false, narrowed := true }
def PackReadsUptoSaid : Prop := packReadsUptoRow.holds Try.pinned (OpenSpec.upto packReadsSpec)

/-- 'conciergelaw01.PackNumbers', WHERE WHAT IT READS IS OF BULK AT MOST 1048576: true; the input reads as it did. -/
def packNumbersUptoRow : OpenClaim := { program := "ythmhihmbciigdaa", sum := "0e0a3ffbf3909b28b0b83d336548c157d4f87c7390297d7aff02cabf9be5cc03", func := "concierge/conciergelaw01.PackNumbers", spec := "packNumbers", apart := false, narrowed := true }
def PackNumbersUptoSaid : Prop := packNumbersUptoRow.holds Try.pinned (OpenSpec.upto packNumbersSpec)

end Rows
end Go.Proofs.Ythmhihmbciigdaa
