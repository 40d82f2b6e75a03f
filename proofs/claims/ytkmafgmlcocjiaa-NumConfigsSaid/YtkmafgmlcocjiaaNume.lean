/- How a configuration parses: six numbers. -/
import Derived.Test.YtkmafgmlcocjiaaR
import Derived.Test.YtkmafgmlcocjiaaProg
import Derived.KernelRfl
namespace Go.Proofs.Ytkmafgmlcocjiaa
open Go.RowKit Go.ChangeShapes Go.WideShapes

structure Cf where
  a : Int
  b : Int
  c : Int
  d : Int
  e : Int
  f : Int
def Cf.cells (x : Cf) : List Value := [.int .i64 x.a, .int .i64 x.b, .int .i64 x.c, .int .i64 x.d, .int .i64 x.e, .int .i64 x.f]
structure Cf.Good (x : Cf) : Prop where
  a : (Lit.int .i64 x.a).wf = true
  b : (Lit.int .i64 x.b).wf = true
  c : (Lit.int .i64 x.c).wf = true
  d : (Lit.int .i64 x.d).wf = true
  e : (Lit.int .i64 x.e).wf = true
  f : (Lit.int .i64 x.f).wf = true
theorem Cf.cells_len (x : Cf) : x.cells.length = 6 := rfl
theorem parse_Cf : (∃ fs, Try.prog.underlying 23 = some (.struct fs)) ∧ Try.prog.cellsOf 23 = 6 ∧ ∀ {H : Type} {enc : TypeId × Value → H} {w : World} {base : Nat} {spare : Nat → Bool} {held : Bool} n cs x, cs.length = 6 → DataW.trod enc Try.prog w base spare held n 23 cs = some x →
    ∃ a : Cf, cs = a.cells ∧ a.Good := by
  refine ⟨⟨_, Try.underlying23⟩, by kernel_rfl, fun n cs x hl h => ?_⟩
  have hc0 : Try.prog.cellsOf 3 = 1 := by kernel_rfl
  match cs, hl with
  | [c0, c1, c2, c3, c4, c5], _ =>
    obtain ⟨xs, m, rfl, hx, _, hxl, hf⟩ := DataW.trod_struct Try.underlying23 h
    match xs, hxl with
    | [x0, x1, x2, x3, x4, x5], _ =>
      have h0 := hf 0 _ rfl
      have h1 := hf 1 _ rfl
      have h2 := hf 2 _ rfl
      have h3 := hf 3 _ rfl
      have h4 := hf 4 _ rfl
      have h5 := hf 5 _ rfl
      clear hf
      simp [hc0] at h0
      simp [hc0] at h1
      simp [hc0] at h2
      simp [hc0] at h3
      simp [hc0] at h4
      simp [hc0] at h5
      obtain ⟨a0, e0, _, g0⟩ := DataW.trod_int Try.underlying3 h0
      simp at e0
      subst e0
      obtain ⟨a1, e1, _, g1⟩ := DataW.trod_int Try.underlying3 h1
      simp at e1
      subst e1
      obtain ⟨a2, e2, _, g2⟩ := DataW.trod_int Try.underlying3 h2
      simp at e2
      subst e2
      obtain ⟨a3, e3, _, g3⟩ := DataW.trod_int Try.underlying3 h3
      simp at e3
      subst e3
      obtain ⟨a4, e4, _, g4⟩ := DataW.trod_int Try.underlying3 h4
      simp at e4
      subst e4
      obtain ⟨a5, e5, _, g5⟩ := DataW.trod_int Try.underlying3 h5
      simp at e5
      subst e5
      exact ⟨⟨a0, a1, a2, a3, a4, a5⟩, rfl, ⟨g0, g1, g2, g3, g4, g5⟩⟩

end Go.Proofs.Ytkmafgmlcocjiaa
