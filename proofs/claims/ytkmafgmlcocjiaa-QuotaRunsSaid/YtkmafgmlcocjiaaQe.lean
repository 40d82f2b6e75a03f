/- How the structs of quota's laws parse: two numbers; a bool and a number. -/
import Derived.Test.YtkmafgmlcocjiaaR
import Derived.Test.YtkmafgmlcocjiaaProg
import Derived.KernelRfl
namespace Go.Proofs.Ytkmafgmlcocjiaa
open Go.RowKit Go.ChangeShapes Go.WideShapes

def two (p : Int × Int) : List Value := [.int .i64 p.1, .int .i64 p.2]
theorem parse_two : (∃ fs, Try.prog.underlying 60 = some (.struct fs)) ∧ Try.prog.cellsOf 60 = 2 ∧ ∀ {H : Type} {enc : TypeId × Value → H} {w : World} {base : Nat} {spare : Nat → Bool} {held : Bool} n cs x, cs.length = 2 → DataW.trod enc Try.prog w base spare held n 60 cs = some x →
    ∃ a : Int × Int, cs = two a ∧ ((Lit.int .i64 a.1).wf = true ∧ (Lit.int .i64 a.2).wf = true) := by
  refine ⟨⟨_, Try.underlying60⟩, by kernel_rfl, fun n cs x hl h => ?_⟩
  have hc3 : Try.prog.cellsOf 3 = 1 := by kernel_rfl
  match cs, hl with
  | [c0, c1], _ =>
    obtain ⟨xs, m, rfl, hx, _, hxl, hf⟩ := DataW.trod_struct Try.underlying60 h
    match xs, hxl with
    | [x0, x1], _ =>
      have h0 := hf 0 _ rfl
      have h1 := hf 1 _ rfl
      simp [hc3] at h0 h1
      obtain ⟨a, e0, _, wa⟩ := DataW.trod_int Try.underlying3 h0
      obtain ⟨b, e1, _, wb⟩ := DataW.trod_int Try.underlying3 h1
      simp at e0 e1
      subst e0 e1
      exact ⟨(a, b), rfl, wa, wb⟩

def gdeed (p : Bool × Int) : List Value := [.bool p.1, .int .i64 p.2]
theorem parse_gdeed : Try.prog.cellsOf 51 = 2 ∧ ∀ {H : Type} {enc : TypeId × Value → H} {w : World} {base : Nat} {spare : Nat → Bool} {held : Bool} n cs x, cs.length = 2 → DataW.trod enc Try.prog w base spare held n 51 cs = some x →
    ∃ a : Bool × Int, cs = gdeed a ∧ (Lit.int .i64 a.2).wf = true := by
  refine ⟨by kernel_rfl, fun n cs x hl h => ?_⟩
  have hc3 : Try.prog.cellsOf 3 = 1 := by kernel_rfl
  have hc4 : Try.prog.cellsOf 4 = 1 := by kernel_rfl
  match cs, hl with
  | [c0, c1], _ =>
    obtain ⟨xs, m, rfl, hx, _, hxl, hf⟩ := DataW.trod_struct Try.underlying51 h
    match xs, hxl with
    | [x0, x1], _ =>
      have h0 := hf 0 _ rfl
      have h1 := hf 1 _ rfl
      simp [hc3, hc4] at h0 h1
      obtain ⟨a, e0, _⟩ := DataW.trod_bool Try.underlying4 h0
      obtain ⟨b, e1, _, wb⟩ := DataW.trod_int Try.underlying3 h1
      simp at e0 e1
      subst e0 e1
      exact ⟨(a, b), rfl, wb⟩
end Go.Proofs.Ytkmafgmlcocjiaa
