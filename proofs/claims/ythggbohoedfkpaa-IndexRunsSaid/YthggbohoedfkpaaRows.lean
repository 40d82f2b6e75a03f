/-
  No cell of these rows narrows 'for every input' (looked for: loops, veiled, ifaces, maps, wideKeys, modest, calm, conditions, laid).
  DERIVED. THE GIVEN ROWS OF THIS SEAT. 8 by the template 'for every input the law returns true; each argument reads behind the call as it read before'; 0 by the template 'total and deterministic' (their statements: YthggbohoedfkpaaTotals.lean).
  GIVEN WITH THE SEED: the statements are not yours to turn. If you find one false, say at which input.
  Laid BY PROGRAM, IN A SANDBOX (cutbox-rows.mjs): the forced cells as the released guide's own fill.sh prints them over the translation dadaae99f15b99e4… (all of the seat's roots in one cut). By AI agents, Wed Nov 11 2026. No macro, syntax, notation, axiom, sorry.
-/
import Derived.Test.YthggbohoedfkpaaChecked
import GoSem.Claim
import GoSem.ClaimJoined
import GoSem.ClaimMapViews
import Derived.JoinedTies
import Derived.KernelRfl
namespace Go.Proofs.Ythggbohoedfkpaa
/- THE CELL 'sum', in the pinned program and in every row, IS THE sha256 OF THE DUMP (.gsa) THAT YthggbohoedfkpaaProg.lean LOADS. Nothing in Lean hashes anything: it is a label: what it is worth is what the hold of that sum in a sandbox is worth. -/
noncomputable def Try.pinned : Pinned := { name := "ythggbohoedfkpaa", sum := "dadaae99f15b99e43ed49c2106071d20e5a1a2d25680cfed4d9832aa96d7464f", checked := Try.checked }
namespace Rows
def none {H : Type} : Left H := { results := [], args := [] }

/-- 'conciergelaw26.LetterBack': WHATEVER THE INPUT: true; the input reads as it did. -/
def letterBackSpec : ChangeSpec := { name := "letterBack", fn := fun _ => fun
  | [d] => { results := [.lit (.bool true)], args := [d] }
  | _ => none }
def letterBackRow : OpenClaim := { program := "ythggbohoedfkpaa", sum := "dadaae99f15b99e43ed49c2106071d20e5a1a2d25680cfed4d9832aa96d7464f", func := "concierge/conciergelaw26.LetterBack", spec := "letterBack", apart := false }
def LetterBackSaid : Prop := letterBackRow.holds Try.pinned (OpenSpec.ofChange letterBackSpec)

/-- ITS FALSE NEIGHBOUR: 'it returns false'. Refute it at one input. -/
def letterBackWrong : ChangeSpec := { name := "letterBack", fn := fun _ => fun
  | [d] => { results := [.lit (.bool false)], args := [d] }
  | _ => none }
def LetterBackWrongFalsely : Prop := letterBackRow.holds Try.pinned (OpenSpec.ofChange letterBackWrong)

/-- 'conciergelaw26.LetterAny': WHATEVER THE INPUT: true; the input reads as it did. -/
def letterAnySpec : ChangeSpec := { name := "letterAny", fn := fun _ => fun
  | [d] => { results := [.lit (.bool true)], args := [d] }
  | _ => none }
def letterAnyRow : OpenClaim := { program := "ythggbohoedfkpaa", sum := "dadaae99f15b99e43ed49c2106071d20e5a1a2d25680cfed4d9832aa96d7464f", func := "concierge/conciergelaw26.LetterAny", spec := "letterAny", apart := false }
def LetterAnySaid : Prop := letterAnyRow.holds Try.pinned (OpenSpec.ofChange letterAnySpec)

/-- ITS FALSE NEIGHBOUR: 'it returns false'. Refute it at one input. -/
def letterAnyWrong : ChangeSpec := { name := "letterAny", fn := fun _ => fun
  | [d] => { results := [.lit (.bool false)], args := [d] }
  | _ => none }
def LetterAnyWrongFalsely : Prop := letterAnyRow.holds Try.pinned (OpenSpec.ofChange letterAnyWrong)

/-- 'conciergelaw26.LetterUnlike': WHATEVER THE INPUT: true; the input reads as it did. -/
def letterUnlikeSpec : ChangeSpec := { name := "letterUnlike", fn := fun _ => fun
  | [d1, d2] => { results := [.lit (.bool true)], args := [d1, d2] }
  | _ => none }
def letterUnlikeRow : OpenClaim := { program := "ythggbohoedfkpaa", sum := "dadaae99f15b99e43ed49c2106071d20e5a1a2d25680cfed4d9832aa96d7464f", func := "concierge/conciergelaw26.LetterUnlike", spec := "letterUnlike", apart := false }
def LetterUnlikeSaid : Prop := letterUnlikeRow.holds Try.pinned (OpenSpec.ofChange letterUnlikeSpec)

/-- ITS FALSE NEIGHBOUR: 'it returns false'. Refute it at one input. -/
def letterUnlikeWrong : ChangeSpec := { name := "letterUnlike", fn := fun _ => fun
  | [d1, d2] => { results := [.lit (.bool false)], args := [d1, d2] }
  | _ => none }
def LetterUnlikeWrongFalsely : Prop := letterUnlikeRow.holds Try.pinned (OpenSpec.ofChange letterUnlikeWrong)

/-- 'conciergelaw26.LetterKinds': WHATEVER THE INPUT: true; the input reads as it did. -/
def letterKindsSpec : ChangeSpec := { name := "letterKinds", fn := fun _ => fun
  | [d] => { results := [.lit (.bool true)], args := [d] }
  | _ => none }
def letterKindsRow : OpenClaim := { program := "ythggbohoedfkpaa", sum := "dadaae99f15b99e43ed49c2106071d20e5a1a2d25680cfed4d9832aa96d7464f", func := "concierge/conciergelaw26.LetterKinds", spec := "letterKinds", apart := false }
def LetterKindsSaid : Prop := letterKindsRow.holds Try.pinned (OpenSpec.ofChange letterKindsSpec)

/-- ITS FALSE NEIGHBOUR: 'it returns false'. Refute it at one input. -/
def letterKindsWrong : ChangeSpec := { name := "letterKinds", fn := fun _ => fun
  | [d] => { results := [.lit (.bool false)], args := [d] }
  | _ => none }
def LetterKindsWrongFalsely : Prop := letterKindsRow.holds Try.pinned (OpenSpec.ofChange letterKindsWrong)

/-- 'conciergelaw15.IndexPages': WHATEVER THE INPUT: true; the input reads as it did. -/
def indexPagesSpec : ChangeSpec := { name := "indexPages", fn := fun _ => fun
  | [d1, d2] => { results := [.lit (.bool true)], args := [d1, d2] }
  | _ => none }
def indexPagesRow : OpenClaim := { program := "ythggbohoedfkpaa", sum := "dadaae99f15b99e43ed49c2106071d20e5a1a2d25680cfed4d9832aa96d7464f", func := "concierge/conciergelaw15.IndexPages", spec := "indexPages", inPlace := ["slices.overlaps[concierge/api.Entry]"], unfollowed := true, recurses := true, apart := false }
def IndexPagesSaid : Prop := indexPagesRow.holds Try.pinned (OpenSpec.ofChange indexPagesSpec)

/-- ITS FALSE NEIGHBOUR: 'it returns false'. Refute it at one input. -/
def indexPagesWrong : ChangeSpec := { name := "indexPages", fn := fun _ => fun
  | [d1, d2] => { results := [.lit (.bool false)], args := [d1, d2] }
  | _ => none }
def IndexPagesWrongFalsely : Prop := indexPagesRow.holds Try.pinned (OpenSpec.ofChange indexPagesWrong)

/-- 'conciergelaw15.IndexFinds': WHATEVER THE INPUT: true; the input reads as it did. -/
def indexFindsSpec : ChangeSpec := { name := "indexFinds", fn := fun _ => fun
  | [d1, d2, d3] => { results := [.lit (.bool true)], args := [d1, d2, d3] }
  | _ => none }
def indexFindsRow : OpenClaim := { program := "ythggbohoedfkpaa", sum := "dadaae99f15b99e43ed49c2106071d20e5a1a2d25680cfed4d9832aa96d7464f", func := "concierge/conciergelaw15.IndexFinds", spec := "indexFinds", inPlace := ["slices.overlaps[concierge/api.Entry]"], unfollowed := true, recurses := true, apart := false }
def IndexFindsSaid : Prop := indexFindsRow.holds Try.pinned (OpenSpec.ofChange indexFindsSpec)

/-- ITS FALSE NEIGHBOUR: 'it returns false'. Refute it at one input. -/
def indexFindsWrong : ChangeSpec := { name := "indexFinds", fn := fun _ => fun
  | [d1, d2, d3] => { results := [.lit (.bool false)], args := [d1, d2, d3] }
  | _ => none }
def IndexFindsWrongFalsely : Prop := indexFindsRow.holds Try.pinned (OpenSpec.ofChange indexFindsWrong)

/-- 'conciergelaw15.IndexRuns': WHATEVER THE INPUT: true; the input reads as it did. -/
def indexRunsSpec : ChangeSpec := { name := "indexRuns", fn := fun _ => fun
  | [d] => { results := [.lit (.bool true)], args := [d] }
  | _ => none }
def indexRunsRow : OpenClaim := { program := "ythggbohoedfkpaa", sum := "dadaae99f15b99e43ed49c2106071d20e5a1a2d25680cfed4d9832aa96d7464f", func := "concierge/conciergelaw15.IndexRuns", spec := "indexRuns", inPlace := ["slices.overlaps[concierge/api.Entry]"], unfollowed := true, recurses := true, apart := false }
def IndexRunsSaid : Prop := indexRunsRow.holds Try.pinned (OpenSpec.ofChange indexRunsSpec)

/-- ITS FALSE NEIGHBOUR: 'it returns false'. Refute it at one input. -/
def indexRunsWrong : ChangeSpec := { name := "indexRuns", fn := fun _ => fun
  | [d] => { results := [.lit (.bool false)], args := [d] }
  | _ => none }
def IndexRunsWrongFalsely : Prop := indexRunsRow.holds Try.pinned (OpenSpec.ofChange indexRunsWrong)

/-- 'conciergelaw15.IndexOwn': WHATEVER THE INPUT: true; the input reads as it did. -/
def indexOwnSpec : ChangeSpec := { name := "indexOwn", fn := fun _ => fun
  | [d] => { results := [.lit (.bool true)], args := [d] }
  | _ => none }
def indexOwnRow : OpenClaim := { program := "ythggbohoedfkpaa", sum := "dadaae99f15b99e43ed49c2106071d20e5a1a2d25680cfed4d9832aa96d7464f", func := "concierge/conciergelaw15.IndexOwn", spec := "indexOwn", inPlace := ["slices.overlaps[concierge/api.Entry]"], unfollowed := true, recurses := true, apart := false }
def IndexOwnSaid : Prop := indexOwnRow.holds Try.pinned (OpenSpec.ofChange indexOwnSpec)

/-- ITS FALSE NEIGHBOUR: 'it returns false'. Refute it at one input. -/
def indexOwnWrong : ChangeSpec := { name := "indexOwn", fn := fun _ => fun
  | [d] => { results := [.lit (.bool false)], args := [d] }
  | _ => none }
def IndexOwnWrongFalsely : Prop := indexOwnRow.holds Try.pinned (OpenSpec.ofChange indexOwnWrong)

/- THE SECOND FORM. 'bulk': how many values and letters a reading holds, each counted each time it is reached (what is shared counts as often as it is met; a slice's spare places count too). A statement '..UptoSaid' is the law's where the arguments, and the package variables that the reading takes, are together of bulk at most 1048576: NARROWER than '..Said'. Prove '..Said' where nothing that the law and all that it calls make is longer than what came in: it says more and counts as full. Else prove '..UptoSaid'. A law counts once. -/
mutual
def uptoBulk {H : Type} : DataW H → Nat
  | .lit (.string bytes) => bytes.length + 1
  | .lit _ => 1
  | .nil => 1
  | .ptr d => uptoBulk d + 1
  | .slice elems spare => uptoBulkAll elems + uptoBulkAll spare + 1
  | .agg parts => uptoBulkAll parts + 1
  | .iface _ d => uptoBulk d + 1
  | .map entries => uptoBulkEntries entries + 1
  | .held _ => 1
def uptoBulkAll {H : Type} : List (DataW H) → Nat
  | [] => 0
  | d :: r => uptoBulk d + uptoBulkAll r
def uptoBulkEntries {H : Type} : List (Lit × DataW H) → Nat
  | [] => 0
  | x :: r => uptoBulkEntry x + uptoBulkEntries r
def uptoBulkEntry {H : Type} : Lit × DataW H → Nat
  | (.string bytes, d) => bytes.length + uptoBulk d + 1
  | (_, d) => uptoBulk d + 1
 end
def uptoSmall : (H : Type) → List (DataW H) → Bool := fun _ ds => decide (uptoBulkAll ds ≤ 1048576)
def OpenSpec.upto (s : _root_.Go.ChangeSpec) : _root_.Go.OpenSpec := { _root_.Go.OpenSpec.ofChange s with cond := some uptoSmall }

/-- 'conciergelaw26.LetterBack', WHERE WHAT IT READS IS OF BULK AT MOST 1048576: true; the input reads as it did. -/
def letterBackUptoRow : OpenClaim := { program := "ythggbohoedfkpaa", sum := "dadaae99f15b99e43ed49c2106071d20e5a1a2d25680cfed4d9832aa96d7464f", func := "concierge/conciergelaw26.LetterBack", spec := "letterBack", apart := false, narrowed := true }
def LetterBackUptoSaid : Prop := letterBackUptoRow.holds Try.pinned (OpenSpec.upto letterBackSpec)

/-- 'conciergelaw26.LetterAny', WHERE WHAT IT READS IS OF BULK AT MOST 1048576: true; the input reads as it did. -/
def letterAnyUptoRow : OpenClaim := { program := "ythggbohoedfkpaa", sum := "dadaae99f15b99e43ed49c2106071d20e5a1a2d25680cfed4d9832aa96d7464f", func := "concierge/conciergelaw26.LetterAny", spec := "letterAny", apart := false, narrowed := true }
def LetterAnyUptoSaid : Prop := letterAnyUptoRow.holds Try.pinned (OpenSpec.upto letterAnySpec)

/-- 'conciergelaw26.LetterUnlike', WHERE WHAT IT READS IS OF BULK AT MOST 1048576: true; the input reads as it did. -/
def letterUnlikeUptoRow : OpenClaim := { program := "ythggbohoedfkpaa", sum := "dadaae99f15b99e43ed49c2106071d20e5a1a2d25680cfed4d9832aa96d7464f", func := "concierge/conciergelaw26.LetterUnlike", spec := "letterUnlike", apart := false, narrowed := true }
def LetterUnlikeUptoSaid : Prop := letterUnlikeUptoRow.holds Try.pinned (OpenSpec.upto letterUnlikeSpec)

/-- 'conciergelaw26.LetterKinds', WHERE WHAT IT READS IS OF BULK AT MOST 1048576: true; the input reads as it did. -/
def letterKindsUptoRow : OpenClaim := { program := "ythggbohoedfkpaa", sum := "dadaae99f15b99e43ed49c2106071d20e5a1a2d25680cfed4d9832aa96d7464f", func := "concierge/conciergelaw26.LetterKinds", spec := "letterKinds", apart := false, narrowed := true }
def LetterKindsUptoSaid : Prop := letterKindsUptoRow.holds Try.pinned (OpenSpec.upto letterKindsSpec)

/-- 'conciergelaw15.IndexPages', WHERE WHAT IT READS IS OF BULK AT MOST 1048576: true; the input reads as it did. -/
def indexPagesUptoRow : OpenClaim := { program := "ythggbohoedfkpaa", sum := "dadaae99f15b99e43ed49c2106071d20e5a1a2d25680cfed4d9832aa96d7464f", func := "concierge/conciergelaw15.IndexPages", spec := "indexPages", inPlace := ["slices.overlaps[concierge/api.Entry]"], unfollowed := true, recurses := true, apart := false, narrowed := true }
def IndexPagesUptoSaid : Prop := indexPagesUptoRow.holds Try.pinned (OpenSpec.upto indexPagesSpec)

/-- 'conciergelaw15.IndexFinds', WHERE WHAT IT READS IS OF BULK AT MOST 1048576: true; the input reads as it did. -/
def indexFindsUptoRow : OpenClaim := { program := "ythggbohoedfkpaa", sum := "dadaae99f15b99e43ed49c2106071d20e5a1a2d25680cfed4d9832aa96d7464f", func := "concierge/conciergelaw15.IndexFinds", spec := "indexFinds", inPlace := ["slices.overlaps[concierge/api.Entry]"], unfollowed := true, recurses := true, apart := false, narrowed := true }
def IndexFindsUptoSaid : Prop := indexFindsUptoRow.holds Try.pinned (OpenSpec.upto indexFindsSpec)

/-- 'conciergelaw15.IndexRuns', WHERE WHAT IT READS IS OF BULK AT MOST 1048576: true; the input reads as it did. -/
def indexRunsUptoRow : OpenClaim := { program := "ythggbohoedfkpaa", sum := "dadaae99f15b99e43ed49c2106071d20e5a1a2d25680cfed4d9832aa96d7464f", func := "concierge/conciergelaw15.IndexRuns", spec := "indexRuns", inPlace := ["slices.overlaps[concierge/api.Entry]"], unfollowed := true, recurses := true, apart := false, narrowed := true }
def IndexRunsUptoSaid : Prop := indexRunsUptoRow.holds Try.pinned (OpenSpec.upto indexRunsSpec)

/-- 'conciergelaw15.IndexOwn', WHERE WHAT IT READS IS OF BULK AT MOST 1048576: true; the input reads as it did. -/
def indexOwnUptoRow : OpenClaim := { program := "ythggbohoedfkpaa", sum := "dadaae99f15b99e43ed49c2106071d20e5a1a2d25680cfed4d9832aa96d7464f", func := "concierge/conciergelaw15.IndexOwn", spec := "indexOwn", inPlace := ["slices.overlaps[concierge/api.Entry]"], unfollowed := true, recurses := true, apart := false, narrowed := true }
def IndexOwnUptoSaid : Prop := indexOwnUptoRow.holds Try.pinned (OpenSpec.upto indexOwnSpec)

end Rows
end Go.Proofs.Ythggbohoedfkpaa
