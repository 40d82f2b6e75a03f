/- The client: what requests, answers and deeds read as; its lines; blocks that belong to one. -/
import Derived.Test.YteokiiolchpndaaR
import Derived.Test.YteokiiolchpndaaM
namespace Go.Proofs.Yteokiiolchpndaa
open Go.RowKit Go.ChangeShapes Go.WideShapes
set_option linter.unusedVariables false
set_option linter.unusedSimpArgs false

structure Rq where
  client : Int
  serial : Int
  tenant : Int
  key : ByteArray
  method : ByteArray
  path : ByteArray
  body : ByteArray
def Rq.cells (x : Rq) : List Value := [.int .i64 x.client, .int .i64 x.serial, .int .i64 x.tenant, .string x.key, .string x.method, .string x.path, .string x.body]
structure Rq.Good (x : Rq) : Prop where
  client : (Lit.int .i64 x.client).wf = true
  serial : (Lit.int .i64 x.serial).wf = true
  tenant : (Lit.int .i64 x.tenant).wf = true
  key : x.key.size ≤ maxLen
  method : x.method.size ≤ maxLen
  path : x.path.size ≤ maxLen
  body : x.body.size ≤ maxLen
theorem Rq.cells_len (x : Rq) : x.cells.length = 7 := rfl
theorem parse_Rq : (∃ fs, Try.prog.underlying 84 = some (.struct fs)) ∧ Try.prog.cellsOf 84 = 7 ∧ ∀ {H : Type} {enc : TypeId × Value → H} {w : World} {base : Nat} {spare : Nat → Bool} {held : Bool} n cs x, cs.length = 7 → DataW.trod enc Try.prog w base spare held n 84 cs = some x →
    ∃ a : Rq, cs = a.cells ∧ a.Good := by
  refine ⟨⟨_, Try.underlying84⟩, by kernel_rfl, fun n cs x hl h => ?_⟩
  have hc0 : Try.prog.cellsOf 3 = 1 := by kernel_rfl
  have hc1 : Try.prog.cellsOf 9 = 1 := by kernel_rfl
  match cs, hl with
  | [c0, c1, c2, c3, c4, c5, c6], _ =>
    obtain ⟨xs, m, rfl, hx, _, hxl, hf⟩ := DataW.trod_struct Try.underlying84 h
    match xs, hxl with
    | [x0, x1, x2, x3, x4, x5, x6], _ =>
      have h0 := hf 0 _ rfl
      have h1 := hf 1 _ rfl
      have h2 := hf 2 _ rfl
      have h3 := hf 3 _ rfl
      have h4 := hf 4 _ rfl
      have h5 := hf 5 _ rfl
      have h6 := hf 6 _ rfl
      clear hf
      simp [hc0, hc1] at h0
      simp [hc0, hc1] at h1
      simp [hc0, hc1] at h2
      simp [hc0, hc1] at h3
      simp [hc0, hc1] at h4
      simp [hc0, hc1] at h5
      simp [hc0, hc1] at h6
      obtain ⟨a0, e0, _, g0⟩ := DataW.trod_int Try.underlying3 h0
      simp at e0
      subst e0
      obtain ⟨a1, e1, _, g1⟩ := DataW.trod_int Try.underlying3 h1
      simp at e1
      subst e1
      obtain ⟨a2, e2, _, g2⟩ := DataW.trod_int Try.underlying3 h2
      simp at e2
      subst e2
      obtain ⟨a3, e3, _, g3⟩ := DataW.trod_string Try.underlying9 h3
      simp at e3
      subst e3
      obtain ⟨a4, e4, _, g4⟩ := DataW.trod_string Try.underlying9 h4
      simp at e4
      subst e4
      obtain ⟨a5, e5, _, g5⟩ := DataW.trod_string Try.underlying9 h5
      simp at e5
      subst e5
      obtain ⟨a6, e6, _, g6⟩ := DataW.trod_string Try.underlying9 h6
      simp at e6
      subst e6
      exact ⟨⟨a0, a1, a2, a3, a4, a5, a6⟩, rfl, ⟨g0, g1, g2, g3, g4, g5, g6⟩⟩

structure An where
  client : Int
  serial : Int
  status : Int
  text : ByteArray
  after : Int
  epoch : Int
def An.cells (x : An) : List Value := [.int .i64 x.client, .int .i64 x.serial, .int .i64 x.status, .string x.text, .int .i64 x.after, .int .i64 x.epoch]
structure An.Good (x : An) : Prop where
  client : (Lit.int .i64 x.client).wf = true
  serial : (Lit.int .i64 x.serial).wf = true
  status : (Lit.int .i64 x.status).wf = true
  text : x.text.size ≤ maxLen
  after : (Lit.int .i64 x.after).wf = true
  epoch : (Lit.int .i64 x.epoch).wf = true
theorem An.cells_len (x : An) : x.cells.length = 6 := rfl
theorem parse_An : (∃ fs, Try.prog.underlying 86 = some (.struct fs)) ∧ Try.prog.cellsOf 86 = 6 ∧ ∀ {H : Type} {enc : TypeId × Value → H} {w : World} {base : Nat} {spare : Nat → Bool} {held : Bool} n cs x, cs.length = 6 → DataW.trod enc Try.prog w base spare held n 86 cs = some x →
    ∃ a : An, cs = a.cells ∧ a.Good := by
  refine ⟨⟨_, Try.underlying86⟩, by kernel_rfl, fun n cs x hl h => ?_⟩
  have hc0 : Try.prog.cellsOf 3 = 1 := by kernel_rfl
  have hc1 : Try.prog.cellsOf 9 = 1 := by kernel_rfl
  match cs, hl with
  | [c0, c1, c2, c3, c4, c5], _ =>
    obtain ⟨xs, m, rfl, hx, _, hxl, hf⟩ := DataW.trod_struct Try.underlying86 h
    match xs, hxl with
    | [x0, x1, x2, x3, x4, x5], _ =>
      have h0 := hf 0 _ rfl
      have h1 := hf 1 _ rfl
      have h2 := hf 2 _ rfl
      have h3 := hf 3 _ rfl
      have h4 := hf 4 _ rfl
      have h5 := hf 5 _ rfl
      clear hf
      simp [hc0, hc1] at h0
      simp [hc0, hc1] at h1
      simp [hc0, hc1] at h2
      simp [hc0, hc1] at h3
      simp [hc0, hc1] at h4
      simp [hc0, hc1] at h5
      obtain ⟨a0, e0, _, g0⟩ := DataW.trod_int Try.underlying3 h0
      simp at e0
      subst e0
      obtain ⟨a1, e1, _, g1⟩ := DataW.trod_int Try.underlying3 h1
      simp at e1
      subst e1
      obtain ⟨a2, e2, _, g2⟩ := DataW.trod_int Try.underlying3 h2
      simp at e2
      subst e2
      obtain ⟨a3, e3, _, g3⟩ := DataW.trod_string Try.underlying9 h3
      simp at e3
      subst e3
      obtain ⟨a4, e4, _, g4⟩ := DataW.trod_int Try.underlying3 h4
      simp at e4
      subst e4
      obtain ⟨a5, e5, _, g5⟩ := DataW.trod_int Try.underlying3 h5
      simp at e5
      subst e5
      exact ⟨⟨a0, a1, a2, a3, a4, a5⟩, rfl, ⟨g0, g1, g2, g3, g4, g5⟩⟩

structure CDeed where
  ask : Bool
  own : Bool
  request : Rq
  answer : An
def CDeed.cells (x : CDeed) : List Value := [.bool x.ask, .bool x.own, .int .i64 x.request.client, .int .i64 x.request.serial, .int .i64 x.request.tenant, .string x.request.key, .string x.request.method, .string x.request.path, .string x.request.body, .int .i64 x.answer.client, .int .i64 x.answer.serial, .int .i64 x.answer.status, .string x.answer.text, .int .i64 x.answer.after, .int .i64 x.answer.epoch]
structure CDeed.Good (x : CDeed) : Prop where
  ask : True
  own : True
  request : x.request.Good
  answer : x.answer.Good
theorem CDeed.cells_len (x : CDeed) : x.cells.length = 15 := rfl
theorem parse_CDeed : (∃ fs, Try.prog.underlying 88 = some (.struct fs)) ∧ Try.prog.cellsOf 88 = 15 ∧ ∀ {H : Type} {enc : TypeId × Value → H} {w : World} {base : Nat} {spare : Nat → Bool} {held : Bool} n cs x, cs.length = 15 → DataW.trod enc Try.prog w base spare held n 88 cs = some x →
    ∃ a : CDeed, cs = a.cells ∧ a.Good := by
  refine ⟨⟨_, Try.underlying88⟩, by kernel_rfl, fun n cs x hl h => ?_⟩
  have hc0 : Try.prog.cellsOf 4 = 1 := by kernel_rfl
  have hc1 : Try.prog.cellsOf 84 = 7 := by kernel_rfl
  have hc2 : Try.prog.cellsOf 86 = 6 := by kernel_rfl
  match cs, hl with
  | [c0, c1, c2, c3, c4, c5, c6, c7, c8, c9, c10, c11, c12, c13, c14], _ =>
    obtain ⟨xs, m, rfl, hx, _, hxl, hf⟩ := DataW.trod_struct Try.underlying88 h
    match xs, hxl with
    | [x0, x1, x2, x3], _ =>
      have h0 := hf 0 _ rfl
      have h1 := hf 1 _ rfl
      have h2 := hf 2 _ rfl
      have h3 := hf 3 _ rfl
      clear hf
      simp [hc0, hc1, hc2] at h0
      simp [hc0, hc1, hc2] at h1
      simp [hc0, hc1, hc2] at h2
      simp [hc0, hc1, hc2] at h3
      obtain ⟨a0, e0, _⟩ := DataW.trod_bool Try.underlying4 h0
      simp at e0
      subst e0
      obtain ⟨a1, e1, _⟩ := DataW.trod_bool Try.underlying4 h1
      simp at e1
      subst e1
      obtain ⟨a2, e2, g2⟩ := parse_Rq.2.2 _ _ _ rfl h2
      simp [Rq.cells] at e2
      obtain ⟨rfl, rfl, rfl, rfl, rfl, rfl, rfl⟩ := e2
      obtain ⟨a3, e3, g3⟩ := parse_An.2.2 _ _ _ rfl h3
      simp [An.cells] at e3
      obtain ⟨rfl, rfl, rfl, rfl, rfl, rfl⟩ := e3
      exact ⟨⟨a0, a1, a2, a3⟩, rfl, ⟨trivial, trivial, g2, g3⟩⟩




/-! Blocks that belong to one: what is done to one's own leaves the others' as they were. -/
/-- The blocks that one has now were its own, or are new. -/
def Grew (w : World) (F F' : Nat → Prop) : Prop := ∀ k, F' k → F k ∨ w.heap.size ≤ k
def Sep (F G : Nat → Prop) : Prop := ∀ k, F k → ¬ G k
def Under (w : World) (F : Nat → Prop) : Prop := ∀ k, F k → k < w.heap.size
def Over (n : Nat) (F : Nat → Prop) : Prop := ∀ k, F k → n ≤ k
theorem Grew.refl (w : World) (F : Nat → Prop) : Grew w F F := fun _ h => .inl h
theorem Grew.sep {w : World} {F F' G : Nat → Prop} (h : Grew w F F') (hs : Sep F G) (hu : Under w G) : Sep F' G := fun k hk hg => by
  rcases h k hk with h | h
  · exact hs k h hg
  · have := hu k hg; omega
theorem Grew.over {w : World} {F F' : Nat → Prop} {n : Nat} (h : Grew w F F') (ho : Over n F) (hn : n ≤ w.heap.size) : Over n F' := fun k hk => by
  rcases h k hk with h | h
  · exact ho k h
  · omega
theorem Sep.symm {F G : Nat → Prop} (h : Sep F G) : Sep G F := fun k hg hf => h k hf hg
theorem Under.frm {S F : Nat → Prop} {w w1 : World} (h : Under w F) (hf : Frm S w w1) : Under w1 F := fun k hk => Nat.lt_of_lt_of_le (h k hk) hf.size
theorem Frm.out {S : Nat → Prop} {w0 w w1 : World} (hF : Frm0 w0 w) (hf : Frm S w w1) (ho : Over w0.heap.size S) : Frm0 w0 w1 := hF.then_ hf (fun i hi e => by have := ho i e; omega)
end Go.Proofs.Yteokiiolchpndaa
