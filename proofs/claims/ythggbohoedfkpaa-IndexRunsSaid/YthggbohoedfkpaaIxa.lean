/- Entries: their cells, and that a reading of such cells parses. -/
import Derived.Test.YthggbohoedfkpaaR
import Derived.Test.YthggbohoedfkpaaS
namespace Go.Proofs.Ythggbohoedfkpaa
open Go.RowKit Go.ChangeShapes Go.WideShapes
set_option linter.unusedVariables false
set_option linter.unusedSimpArgs false
set_option maxRecDepth 100000
namespace Ix
structure En where
  tenant : Int
  key : ByteArray
  state : Int
  epoch : Int
  token : Int
  point : Int
  print : ByteArray
  lease : Int
  expiry : Int
  status : Int
  text : ByteArray
  method : ByteArray
  path : ByteArray
  body : ByteArray
def En.cells (x : En) : List Value := [.int .i64 x.tenant, .string x.key, .int .i64 x.state, .int .i64 x.epoch, .int .i64 x.token, .int .i64 x.point, .string x.print, .int .i64 x.lease, .int .i64 x.expiry, .int .i64 x.status, .string x.text, .string x.method, .string x.path, .string x.body]
structure En.Good (x : En) : Prop where
  tenant : (Lit.int .i64 x.tenant).wf = true
  key : x.key.size ≤ maxLen
  state : (Lit.int .i64 x.state).wf = true
  epoch : (Lit.int .i64 x.epoch).wf = true
  token : (Lit.int .i64 x.token).wf = true
  point : (Lit.int .i64 x.point).wf = true
  print : x.print.size ≤ maxLen
  lease : (Lit.int .i64 x.lease).wf = true
  expiry : (Lit.int .i64 x.expiry).wf = true
  status : (Lit.int .i64 x.status).wf = true
  text : x.text.size ≤ maxLen
  method : x.method.size ≤ maxLen
  path : x.path.size ≤ maxLen
  body : x.body.size ≤ maxLen
theorem En.cells_len (x : En) : x.cells.length = 14 := rfl
theorem parse_En : (∃ fs, Try.prog.underlying 52 = some (.struct fs)) ∧ Try.prog.cellsOf 52 = 14 ∧ ∀ {H : Type} {enc : TypeId × Value → H} {w : World} {base : Nat} {spare : Nat → Bool} {held : Bool} n cs x, cs.length = 14 → DataW.trod enc Try.prog w base spare held n 52 cs = some x →
    ∃ a : En, cs = a.cells ∧ a.Good := by
  refine ⟨⟨_, Try.underlying52⟩, by kernel_rfl, fun n cs x hl h => ?_⟩
  have hc0 : Try.prog.cellsOf 3 = 1 := by kernel_rfl
  have hc1 : Try.prog.cellsOf 9 = 1 := by kernel_rfl
  match cs, hl with
  | [c0, c1, c2, c3, c4, c5, c6, c7, c8, c9, c10, c11, c12, c13], _ =>
    obtain ⟨xs, m, rfl, hx, _, hxl, hf⟩ := DataW.trod_struct Try.underlying52 h
    match xs, hxl with
    | [x0, x1, x2, x3, x4, x5, x6, x7, x8, x9, x10, x11, x12, x13], _ =>
      have h0 := hf 0 _ rfl
      have h1 := hf 1 _ rfl
      have h2 := hf 2 _ rfl
      have h3 := hf 3 _ rfl
      have h4 := hf 4 _ rfl
      have h5 := hf 5 _ rfl
      have h6 := hf 6 _ rfl
      have h7 := hf 7 _ rfl
      have h8 := hf 8 _ rfl
      have h9 := hf 9 _ rfl
      have h10 := hf 10 _ rfl
      have h11 := hf 11 _ rfl
      have h12 := hf 12 _ rfl
      have h13 := hf 13 _ rfl
      clear hf
      simp [hc0, hc1] at h0
      simp [hc0, hc1] at h1
      simp [hc0, hc1] at h2
      simp [hc0, hc1] at h3
      simp [hc0, hc1] at h4
      simp [hc0, hc1] at h5
      simp [hc0, hc1] at h6
      simp [hc0, hc1] at h7
      simp [hc0, hc1] at h8
      simp [hc0, hc1] at h9
      simp [hc0, hc1] at h10
      simp [hc0, hc1] at h11
      simp [hc0, hc1] at h12
      simp [hc0, hc1] at h13
      obtain ⟨a0, e0, _, g0⟩ := DataW.trod_int Try.underlying3 h0
      simp at e0
      subst e0
      obtain ⟨a1, e1, _, g1⟩ := DataW.trod_string Try.underlying9 h1
      simp at e1
      subst e1
      obtain ⟨a2, e2, _, g2⟩ := DataW.trod_int Try.underlying3 h2
      simp at e2
      subst e2
      obtain ⟨a3, e3, _, g3⟩ := DataW.trod_int Try.underlying3 h3
      simp at e3
      subst e3
      obtain ⟨a4, e4, _, g4⟩ := DataW.trod_int Try.underlying3 h4
      simp at e4
      subst e4
      obtain ⟨a5, e5, _, g5⟩ := DataW.trod_int Try.underlying3 h5
      simp at e5
      subst e5
      obtain ⟨a6, e6, _, g6⟩ := DataW.trod_string Try.underlying9 h6
      simp at e6
      subst e6
      obtain ⟨a7, e7, _, g7⟩ := DataW.trod_int Try.underlying3 h7
      simp at e7
      subst e7
      obtain ⟨a8, e8, _, g8⟩ := DataW.trod_int Try.underlying3 h8
      simp at e8
      subst e8
      obtain ⟨a9, e9, _, g9⟩ := DataW.trod_int Try.underlying3 h9
      simp at e9
      subst e9
      obtain ⟨a10, e10, _, g10⟩ := DataW.trod_string Try.underlying9 h10
      simp at e10
      subst e10
      obtain ⟨a11, e11, _, g11⟩ := DataW.trod_string Try.underlying9 h11
      simp at e11
      subst e11
      obtain ⟨a12, e12, _, g12⟩ := DataW.trod_string Try.underlying9 h12
      simp at e12
      subst e12
      obtain ⟨a13, e13, _, g13⟩ := DataW.trod_string Try.underlying9 h13
      simp at e13
      subst e13
      exact ⟨⟨a0, a1, a2, a3, a4, a5, a6, a7, a8, a9, a10, a11, a12, a13⟩, rfl, ⟨g0, g1, g2, g3, g4, g5, g6, g7, g8, g9, g10, g11, g12, g13⟩⟩

structure Nm where
  tenant : Int
  key : ByteArray
def Nm.cells (x : Nm) : List Value := [.int .i64 x.tenant, .string x.key]
structure Nm.Good (x : Nm) : Prop where
  tenant : (Lit.int .i64 x.tenant).wf = true
  key : x.key.size ≤ maxLen
theorem Nm.cells_len (x : Nm) : x.cells.length = 2 := rfl
theorem parse_Nm : (∃ fs, Try.prog.underlying 59 = some (.struct fs)) ∧ Try.prog.cellsOf 59 = 2 ∧ ∀ {H : Type} {enc : TypeId × Value → H} {w : World} {base : Nat} {spare : Nat → Bool} {held : Bool} n cs x, cs.length = 2 → DataW.trod enc Try.prog w base spare held n 59 cs = some x →
    ∃ a : Nm, cs = a.cells ∧ a.Good := by
  refine ⟨⟨_, Try.underlying59⟩, by kernel_rfl, fun n cs x hl h => ?_⟩
  have hc0 : Try.prog.cellsOf 3 = 1 := by kernel_rfl
  have hc1 : Try.prog.cellsOf 9 = 1 := by kernel_rfl
  match cs, hl with
  | [c0, c1], _ =>
    obtain ⟨xs, m, rfl, hx, _, hxl, hf⟩ := DataW.trod_struct Try.underlying59 h
    match xs, hxl with
    | [x0, x1], _ =>
      have h0 := hf 0 _ rfl
      have h1 := hf 1 _ rfl
      clear hf
      simp [hc0, hc1] at h0
      simp [hc0, hc1] at h1
      obtain ⟨a0, e0, _, g0⟩ := DataW.trod_int Try.underlying3 h0
      simp at e0
      subst e0
      obtain ⟨a1, e1, _, g1⟩ := DataW.trod_string Try.underlying9 h1
      simp at e1
      subst e1
      exact ⟨⟨a0, a1⟩, rfl, ⟨g0, g1⟩⟩

structure XDeed where
  kind : Int
  entry : En
def XDeed.cells (x : XDeed) : List Value := [.int .u8 x.kind, .int .i64 x.entry.tenant, .string x.entry.key, .int .i64 x.entry.state, .int .i64 x.entry.epoch, .int .i64 x.entry.token, .int .i64 x.entry.point, .string x.entry.print, .int .i64 x.entry.lease, .int .i64 x.entry.expiry, .int .i64 x.entry.status, .string x.entry.text, .string x.entry.method, .string x.entry.path, .string x.entry.body]
structure XDeed.Good (x : XDeed) : Prop where
  kind : (Lit.int .u8 x.kind).wf = true
  entry : x.entry.Good
theorem XDeed.cells_len (x : XDeed) : x.cells.length = 15 := rfl
theorem parse_XDeed : (∃ fs, Try.prog.underlying 71 = some (.struct fs)) ∧ Try.prog.cellsOf 71 = 15 ∧ ∀ {H : Type} {enc : TypeId × Value → H} {w : World} {base : Nat} {spare : Nat → Bool} {held : Bool} n cs x, cs.length = 15 → DataW.trod enc Try.prog w base spare held n 71 cs = some x →
    ∃ a : XDeed, cs = a.cells ∧ a.Good := by
  refine ⟨⟨_, Try.underlying71⟩, by kernel_rfl, fun n cs x hl h => ?_⟩
  have hc0 : Try.prog.cellsOf 5 = 1 := by kernel_rfl
  have hc1 : Try.prog.cellsOf 52 = 14 := by kernel_rfl
  match cs, hl with
  | [c0, c1, c2, c3, c4, c5, c6, c7, c8, c9, c10, c11, c12, c13, c14], _ =>
    obtain ⟨xs, m, rfl, hx, _, hxl, hf⟩ := DataW.trod_struct Try.underlying71 h
    match xs, hxl with
    | [x0, x1], _ =>
      have h0 := hf 0 _ rfl
      have h1 := hf 1 _ rfl
      clear hf
      simp [hc0, hc1] at h0
      simp [hc0, hc1] at h1
      obtain ⟨a0, e0, _, g0⟩ := DataW.trod_int Try.underlying5 h0
      simp at e0
      subst e0
      obtain ⟨a1, e1, g1⟩ := parse_En.2.2 _ _ _ rfl h1
      simp [En.cells] at e1
      obtain ⟨rfl, rfl, rfl, rfl, rfl, rfl, rfl, rfl, rfl, rfl, rfl, rfl, rfl, rfl⟩ := e1
      exact ⟨⟨a0, a1⟩, rfl, ⟨g0, g1⟩⟩


end Ix
end Go.Proofs.Ythggbohoedfkpaa
