/- Arguments of this seat's rows: slices of strings and of numbers. -/
import Derived.Test.YteokiiolchpndaaR
import Derived.Test.YteokiiolchpndaaM
namespace Go.Proofs.Yteokiiolchpndaa
open Go.RowKit Go.ChangeShapes Go.WideShapes
set_option linter.unusedVariables false
def rstr (x : ByteArray) : List Value := [.string x]
theorem rstr_len (x : ByteArray) : (rstr x).length = 1 := rfl
theorem flat_rstr (l : List ByteArray) : l.flatMap rstr = strs l := by
  induction l with
  | nil => rfl
  | cons x l ih => rw [List.flatMap_cons, ih]; rfl
theorem parse_rstr : Try.prog.cellsOf 9 = 1 ∧ ∀ {H : Type} {enc : TypeId × Value → H} {w : World} {base : Nat} {spare : Nat → Bool} {held : Bool} n cs x, cs.length = 1 → DataW.trod enc Try.prog w base spare held n 9 cs = some x →
    ∃ a : ByteArray, cs = rstr a ∧ a.size ≤ maxLen := by
  refine ⟨by kernel_rfl, fun n cs x hl h => ?_⟩
  obtain ⟨s, h, _, hs⟩ := DataW.trod_string Try.underlying9 h
  exact ⟨s, h, hs⟩
def rint (x : Int) : List Value := [.int .i64 x]
theorem rint_len (x : Int) : (rint x).length = 1 := rfl
theorem flat_rint (l : List Int) : l.flatMap rint = wints l := by
  induction l with
  | nil => rfl
  | cons x l ih => rw [List.flatMap_cons, ih]; rfl
theorem parse_rint : Try.prog.cellsOf 3 = 1 ∧ ∀ {H : Type} {enc : TypeId × Value → H} {w : World} {base : Nat} {spare : Nat → Bool} {held : Bool} n cs x, cs.length = 1 → DataW.trod enc Try.prog w base spare held n 3 cs = some x →
    ∃ a : Int, cs = rint a ∧ (Lit.int .i64 a).wf = true := by
  refine ⟨by kernel_rfl, fun n cs x hl h => ?_⟩
  obtain ⟨s, h, _, hs⟩ := DataW.trod_int Try.underlying3 h
  exact ⟨s, h, hs⟩
end Go.Proofs.Yteokiiolchpndaa
