/- Letters: their cells, and that a reading of such cells parses. -/
import Derived.Test.YthggbohoedfkpaaR
import Derived.Test.YthggbohoedfkpaaS
namespace Go.Proofs.Ythggbohoedfkpaa
open Go.RowKit Go.ChangeShapes Go.WideShapes
set_option linter.unusedVariables false
set_option linter.unusedSimpArgs false
set_option maxRecDepth 100000
namespace Lt
structure Rq where
  client : Int
  serial : Int
  tenant : Int
  key : ByteArray
  method : ByteArray
  path : ByteArray
  body : ByteArray
def Rq.cells (x : Rq) : List Value := [.int .i64 x.client, .int .i64 x.serial, .int .i64 x.tenant, .string x.key, .string x.method, .string x.path, .string x.body]
structure Rq.Good (x : Rq) : Prop where
  client : (Lit.int .i64 x.client).wf = true
  serial : (Lit.int .i64 x.serial).wf = true
  tenant : (Lit.int .i64 x.tenant).wf = true
  key : x.key.size ≤ maxLen
  method : x.method.size ≤ maxLen
  path : x.path.size ≤ maxLen
  body : x.body.size ≤ maxLen
theorem Rq.cells_len (x : Rq) : x.cells.length = 7 := rfl
theorem parse_Rq : (∃ fs, Try.prog.underlying 23 = some (.struct fs)) ∧ Try.prog.cellsOf 23 = 7 ∧ ∀ {H : Type} {enc : TypeId × Value → H} {w : World} {base : Nat} {spare : Nat → Bool} {held : Bool} n cs x, cs.length = 7 → DataW.trod enc Try.prog w base spare held n 23 cs = some x →
    ∃ a : Rq, cs = a.cells ∧ a.Good := by
  refine ⟨⟨_, Try.underlying23⟩, by kernel_rfl, fun n cs x hl h => ?_⟩
  have hc0 : Try.prog.cellsOf 3 = 1 := by kernel_rfl
  have hc1 : Try.prog.cellsOf 9 = 1 := by kernel_rfl
  match cs, hl with
  | [c0, c1, c2, c3, c4, c5, c6], _ =>
    obtain ⟨xs, m, rfl, hx, _, hxl, hf⟩ := DataW.trod_struct Try.underlying23 h
    match xs, hxl with
    | [x0, x1, x2, x3, x4, x5, x6], _ =>
      have h0 := hf 0 _ rfl
      have h1 := hf 1 _ rfl
      have h2 := hf 2 _ rfl
      have h3 := hf 3 _ rfl
      have h4 := hf 4 _ rfl
      have h5 := hf 5 _ rfl
      have h6 := hf 6 _ rfl
      clear hf
      simp [hc0, hc1] at h0
      simp [hc0, hc1] at h1
      simp [hc0, hc1] at h2
      simp [hc0, hc1] at h3
      simp [hc0, hc1] at h4
      simp [hc0, hc1] at h5
      simp [hc0, hc1] at h6
      obtain ⟨a0, e0, _, g0⟩ := DataW.trod_int Try.underlying3 h0
      simp at e0
      subst e0
      obtain ⟨a1, e1, _, g1⟩ := DataW.trod_int Try.underlying3 h1
      simp at e1
      subst e1
      obtain ⟨a2, e2, _, g2⟩ := DataW.trod_int Try.underlying3 h2
      simp at e2
      subst e2
      obtain ⟨a3, e3, _, g3⟩ := DataW.trod_string Try.underlying9 h3
      simp at e3
      subst e3
      obtain ⟨a4, e4, _, g4⟩ := DataW.trod_string Try.underlying9 h4
      simp at e4
      subst e4
      obtain ⟨a5, e5, _, g5⟩ := DataW.trod_string Try.underlying9 h5
      simp at e5
      subst e5
      obtain ⟨a6, e6, _, g6⟩ := DataW.trod_string Try.underlying9 h6
      simp at e6
      subst e6
      exact ⟨⟨a0, a1, a2, a3, a4, a5, a6⟩, rfl, ⟨g0, g1, g2, g3, g4, g5, g6⟩⟩

structure An where
  client : Int
  serial : Int
  status : Int
  text : ByteArray
  after : Int
  epoch : Int
def An.cells (x : An) : List Value := [.int .i64 x.client, .int .i64 x.serial, .int .i64 x.status, .string x.text, .int .i64 x.after, .int .i64 x.epoch]
structure An.Good (x : An) : Prop where
  client : (Lit.int .i64 x.client).wf = true
  serial : (Lit.int .i64 x.serial).wf = true
  status : (Lit.int .i64 x.status).wf = true
  text : x.text.size ≤ maxLen
  after : (Lit.int .i64 x.after).wf = true
  epoch : (Lit.int .i64 x.epoch).wf = true
theorem An.cells_len (x : An) : x.cells.length = 6 := rfl
theorem parse_An : (∃ fs, Try.prog.underlying 25 = some (.struct fs)) ∧ Try.prog.cellsOf 25 = 6 ∧ ∀ {H : Type} {enc : TypeId × Value → H} {w : World} {base : Nat} {spare : Nat → Bool} {held : Bool} n cs x, cs.length = 6 → DataW.trod enc Try.prog w base spare held n 25 cs = some x →
    ∃ a : An, cs = a.cells ∧ a.Good := by
  refine ⟨⟨_, Try.underlying25⟩, by kernel_rfl, fun n cs x hl h => ?_⟩
  have hc0 : Try.prog.cellsOf 3 = 1 := by kernel_rfl
  have hc1 : Try.prog.cellsOf 9 = 1 := by kernel_rfl
  match cs, hl with
  | [c0, c1, c2, c3, c4, c5], _ =>
    obtain ⟨xs, m, rfl, hx, _, hxl, hf⟩ := DataW.trod_struct Try.underlying25 h
    match xs, hxl with
    | [x0, x1, x2, x3, x4, x5], _ =>
      have h0 := hf 0 _ rfl
      have h1 := hf 1 _ rfl
      have h2 := hf 2 _ rfl
      have h3 := hf 3 _ rfl
      have h4 := hf 4 _ rfl
      have h5 := hf 5 _ rfl
      clear hf
      simp [hc0, hc1] at h0
      simp [hc0, hc1] at h1
      simp [hc0, hc1] at h2
      simp [hc0, hc1] at h3
      simp [hc0, hc1] at h4
      simp [hc0, hc1] at h5
      obtain ⟨a0, e0, _, g0⟩ := DataW.trod_int Try.underlying3 h0
      simp at e0
      subst e0
      obtain ⟨a1, e1, _, g1⟩ := DataW.trod_int Try.underlying3 h1
      simp at e1
      subst e1
      obtain ⟨a2, e2, _, g2⟩ := DataW.trod_int Try.underlying3 h2
      simp at e2
      subst e2
      obtain ⟨a3, e3, _, g3⟩ := DataW.trod_string Try.underlying9 h3
      simp at e3
      subst e3
      obtain ⟨a4, e4, _, g4⟩ := DataW.trod_int Try.underlying3 h4
      simp at e4
      subst e4
      obtain ⟨a5, e5, _, g5⟩ := DataW.trod_int Try.underlying3 h5
      simp at e5
      subst e5
      exact ⟨⟨a0, a1, a2, a3, a4, a5⟩, rfl, ⟨g0, g1, g2, g3, g4, g5⟩⟩

structure Cl where
  tenant : Int
  key : ByteArray
  epoch : Int
  phase : Int
  token : Int
  name : ByteArray
  body : ByteArray
def Cl.cells (x : Cl) : List Value := [.int .i64 x.tenant, .string x.key, .int .i64 x.epoch, .int .i64 x.phase, .int .i64 x.token, .string x.name, .string x.body]
structure Cl.Good (x : Cl) : Prop where
  tenant : (Lit.int .i64 x.tenant).wf = true
  key : x.key.size ≤ maxLen
  epoch : (Lit.int .i64 x.epoch).wf = true
  phase : (Lit.int .i64 x.phase).wf = true
  token : (Lit.int .i64 x.token).wf = true
  name : x.name.size ≤ maxLen
  body : x.body.size ≤ maxLen
theorem Cl.cells_len (x : Cl) : x.cells.length = 7 := rfl
theorem parse_Cl : (∃ fs, Try.prog.underlying 27 = some (.struct fs)) ∧ Try.prog.cellsOf 27 = 7 ∧ ∀ {H : Type} {enc : TypeId × Value → H} {w : World} {base : Nat} {spare : Nat → Bool} {held : Bool} n cs x, cs.length = 7 → DataW.trod enc Try.prog w base spare held n 27 cs = some x →
    ∃ a : Cl, cs = a.cells ∧ a.Good := by
  refine ⟨⟨_, Try.underlying27⟩, by kernel_rfl, fun n cs x hl h => ?_⟩
  have hc0 : Try.prog.cellsOf 3 = 1 := by kernel_rfl
  have hc1 : Try.prog.cellsOf 9 = 1 := by kernel_rfl
  match cs, hl with
  | [c0, c1, c2, c3, c4, c5, c6], _ =>
    obtain ⟨xs, m, rfl, hx, _, hxl, hf⟩ := DataW.trod_struct Try.underlying27 h
    match xs, hxl with
    | [x0, x1, x2, x3, x4, x5, x6], _ =>
      have h0 := hf 0 _ rfl
      have h1 := hf 1 _ rfl
      have h2 := hf 2 _ rfl
      have h3 := hf 3 _ rfl
      have h4 := hf 4 _ rfl
      have h5 := hf 5 _ rfl
      have h6 := hf 6 _ rfl
      clear hf
      simp [hc0, hc1] at h0
      simp [hc0, hc1] at h1
      simp [hc0, hc1] at h2
      simp [hc0, hc1] at h3
      simp [hc0, hc1] at h4
      simp [hc0, hc1] at h5
      simp [hc0, hc1] at h6
      obtain ⟨a0, e0, _, g0⟩ := DataW.trod_int Try.underlying3 h0
      simp at e0
      subst e0
      obtain ⟨a1, e1, _, g1⟩ := DataW.trod_string Try.underlying9 h1
      simp at e1
      subst e1
      obtain ⟨a2, e2, _, g2⟩ := DataW.trod_int Try.underlying3 h2
      simp at e2
      subst e2
      obtain ⟨a3, e3, _, g3⟩ := DataW.trod_int Try.underlying3 h3
      simp at e3
      subst e3
      obtain ⟨a4, e4, _, g4⟩ := DataW.trod_int Try.underlying3 h4
      simp at e4
      subst e4
      obtain ⟨a5, e5, _, g5⟩ := DataW.trod_string Try.underlying9 h5
      simp at e5
      subst e5
      obtain ⟨a6, e6, _, g6⟩ := DataW.trod_string Try.underlying9 h6
      simp at e6
      subst e6
      exact ⟨⟨a0, a1, a2, a3, a4, a5, a6⟩, rfl, ⟨g0, g1, g2, g3, g4, g5, g6⟩⟩

structure Rp where
  tenant : Int
  key : ByteArray
  epoch : Int
  phase : Int
  token : Int
  code : Int
def Rp.cells (x : Rp) : List Value := [.int .i64 x.tenant, .string x.key, .int .i64 x.epoch, .int .i64 x.phase, .int .i64 x.token, .int .i64 x.code]
structure Rp.Good (x : Rp) : Prop where
  tenant : (Lit.int .i64 x.tenant).wf = true
  key : x.key.size ≤ maxLen
  epoch : (Lit.int .i64 x.epoch).wf = true
  phase : (Lit.int .i64 x.phase).wf = true
  token : (Lit.int .i64 x.token).wf = true
  code : (Lit.int .i64 x.code).wf = true
theorem Rp.cells_len (x : Rp) : x.cells.length = 6 := rfl
theorem parse_Rp : (∃ fs, Try.prog.underlying 29 = some (.struct fs)) ∧ Try.prog.cellsOf 29 = 6 ∧ ∀ {H : Type} {enc : TypeId × Value → H} {w : World} {base : Nat} {spare : Nat → Bool} {held : Bool} n cs x, cs.length = 6 → DataW.trod enc Try.prog w base spare held n 29 cs = some x →
    ∃ a : Rp, cs = a.cells ∧ a.Good := by
  refine ⟨⟨_, Try.underlying29⟩, by kernel_rfl, fun n cs x hl h => ?_⟩
  have hc0 : Try.prog.cellsOf 3 = 1 := by kernel_rfl
  have hc1 : Try.prog.cellsOf 9 = 1 := by kernel_rfl
  match cs, hl with
  | [c0, c1, c2, c3, c4, c5], _ =>
    obtain ⟨xs, m, rfl, hx, _, hxl, hf⟩ := DataW.trod_struct Try.underlying29 h
    match xs, hxl with
    | [x0, x1, x2, x3, x4, x5], _ =>
      have h0 := hf 0 _ rfl
      have h1 := hf 1 _ rfl
      have h2 := hf 2 _ rfl
      have h3 := hf 3 _ rfl
      have h4 := hf 4 _ rfl
      have h5 := hf 5 _ rfl
      clear hf
      simp [hc0, hc1] at h0
      simp [hc0, hc1] at h1
      simp [hc0, hc1] at h2
      simp [hc0, hc1] at h3
      simp [hc0, hc1] at h4
      simp [hc0, hc1] at h5
      obtain ⟨a0, e0, _, g0⟩ := DataW.trod_int Try.underlying3 h0
      simp at e0
      subst e0
      obtain ⟨a1, e1, _, g1⟩ := DataW.trod_string Try.underlying9 h1
      simp at e1
      subst e1
      obtain ⟨a2, e2, _, g2⟩ := DataW.trod_int Try.underlying3 h2
      simp at e2
      subst e2
      obtain ⟨a3, e3, _, g3⟩ := DataW.trod_int Try.underlying3 h3
      simp at e3
      subst e3
      obtain ⟨a4, e4, _, g4⟩ := DataW.trod_int Try.underlying3 h4
      simp at e4
      subst e4
      obtain ⟨a5, e5, _, g5⟩ := DataW.trod_int Try.underlying3 h5
      simp at e5
      subst e5
      exact ⟨⟨a0, a1, a2, a3, a4, a5⟩, rfl, ⟨g0, g1, g2, g3, g4, g5⟩⟩

structure Ltr where
  kind : Int
  rq : Rq
  an : An
  cl : Cl
  rp : Rp
def Ltr.cells (x : Ltr) : List Value := [.int .i64 x.kind, .int .i64 x.rq.client, .int .i64 x.rq.serial, .int .i64 x.rq.tenant, .string x.rq.key, .string x.rq.method, .string x.rq.path, .string x.rq.body, .int .i64 x.an.client, .int .i64 x.an.serial, .int .i64 x.an.status, .string x.an.text, .int .i64 x.an.after, .int .i64 x.an.epoch, .int .i64 x.cl.tenant, .string x.cl.key, .int .i64 x.cl.epoch, .int .i64 x.cl.phase, .int .i64 x.cl.token, .string x.cl.name, .string x.cl.body, .int .i64 x.rp.tenant, .string x.rp.key, .int .i64 x.rp.epoch, .int .i64 x.rp.phase, .int .i64 x.rp.token, .int .i64 x.rp.code]
structure Ltr.Good (x : Ltr) : Prop where
  kind : (Lit.int .i64 x.kind).wf = true
  rq : x.rq.Good
  an : x.an.Good
  cl : x.cl.Good
  rp : x.rp.Good
theorem Ltr.cells_len (x : Ltr) : x.cells.length = 27 := rfl
theorem parse_Ltr : (∃ fs, Try.prog.underlying 31 = some (.struct fs)) ∧ Try.prog.cellsOf 31 = 27 ∧ ∀ {H : Type} {enc : TypeId × Value → H} {w : World} {base : Nat} {spare : Nat → Bool} {held : Bool} n cs x, cs.length = 27 → DataW.trod enc Try.prog w base spare held n 31 cs = some x →
    ∃ a : Ltr, cs = a.cells ∧ a.Good := by
  refine ⟨⟨_, Try.underlying31⟩, by kernel_rfl, fun n cs x hl h => ?_⟩
  have hc0 : Try.prog.cellsOf 3 = 1 := by kernel_rfl
  have hc1 : Try.prog.cellsOf 23 = 7 := by kernel_rfl
  have hc2 : Try.prog.cellsOf 25 = 6 := by kernel_rfl
  have hc3 : Try.prog.cellsOf 27 = 7 := by kernel_rfl
  have hc4 : Try.prog.cellsOf 29 = 6 := by kernel_rfl
  match cs, hl with
  | [c0, c1, c2, c3, c4, c5, c6, c7, c8, c9, c10, c11, c12, c13, c14, c15, c16, c17, c18, c19, c20, c21, c22, c23, c24, c25, c26], _ =>
    obtain ⟨xs, m, rfl, hx, _, hxl, hf⟩ := DataW.trod_struct Try.underlying31 h
    match xs, hxl with
    | [x0, x1, x2, x3, x4], _ =>
      have h0 := hf 0 _ rfl
      have h1 := hf 1 _ rfl
      have h2 := hf 2 _ rfl
      have h3 := hf 3 _ rfl
      have h4 := hf 4 _ rfl
      clear hf
      simp [hc0, hc1, hc2, hc3, hc4] at h0
      simp [hc0, hc1, hc2, hc3, hc4] at h1
      simp [hc0, hc1, hc2, hc3, hc4] at h2
      simp [hc0, hc1, hc2, hc3, hc4] at h3
      simp [hc0, hc1, hc2, hc3, hc4] at h4
      obtain ⟨a0, e0, _, g0⟩ := DataW.trod_int Try.underlying3 h0
      simp at e0
      subst e0
      obtain ⟨a1, e1, g1⟩ := parse_Rq.2.2 _ _ _ rfl h1
      simp [Rq.cells] at e1
      obtain ⟨rfl, rfl, rfl, rfl, rfl, rfl, rfl⟩ := e1
      obtain ⟨a2, e2, g2⟩ := parse_An.2.2 _ _ _ rfl h2
      simp [An.cells] at e2
      obtain ⟨rfl, rfl, rfl, rfl, rfl, rfl⟩ := e2
      obtain ⟨a3, e3, g3⟩ := parse_Cl.2.2 _ _ _ rfl h3
      simp [Cl.cells] at e3
      obtain ⟨rfl, rfl, rfl, rfl, rfl, rfl, rfl⟩ := e3
      obtain ⟨a4, e4, g4⟩ := parse_Rp.2.2 _ _ _ rfl h4
      simp [Rp.cells] at e4
      obtain ⟨rfl, rfl, rfl, rfl, rfl, rfl⟩ := e4
      exact ⟨⟨a0, a1, a2, a3, a4⟩, rfl, ⟨g0, g1, g2, g3, g4⟩⟩

end Lt
end Go.Proofs.Ythggbohoedfkpaa
