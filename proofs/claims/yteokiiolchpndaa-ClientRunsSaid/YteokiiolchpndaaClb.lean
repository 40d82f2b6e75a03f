/- The client: contracts of New, Ask, at, Last, Asked, Told, Hear, Open, Final, Again. -/
import Derived.Test.YteokiiolchpndaaCla
import Derived.Test.YteokiiolchpndaaNum
import Derived.Test.YteokiiolchpndaaS
namespace Go.Proofs.Yteokiiolchpndaa
open Go.RowKit
set_option linter.unusedVariables false
set_option linter.unusedSimpArgs false

/-- A request, the answer that was told (the block in which it lies, and what it is). -/
structure Ln where
  r : Rq
  a : Option (Nat × An)
def Ln.ptr (x : Ln) : Option Addr := x.a.map (fun p => ⟨p.1, 0, none⟩)
def Ln.cells (x : Ln) : List Value := [.int .i64 x.r.client, .int .i64 x.r.serial, .int .i64 x.r.tenant, .string x.r.key, .string x.r.method, .string x.r.path, .string x.r.body, .pointer x.ptr]
theorem Ln.cells_len (x : Ln) : x.cells.length = 8 := rfl
theorem Ln.one (l : List Ln) : ∀ c ∈ l.flatMap Ln.cells, c.oneCell' = true := by
  intro c hc
  obtain ⟨x, _, hx⟩ := List.mem_flatMap.1 hc
  simp only [Ln.cells, List.mem_cons, List.not_mem_nil, or_false] at hx
  rcases hx with rfl | rfl | rfl | rfl | rfl | rfl | rfl | rfl <;> rfl
def rq0 : Rq := ⟨0, 0, 0, ⟨#[]⟩, ⟨#[]⟩, ⟨#[]⟩, ⟨#[]⟩⟩
def an0 : An := ⟨0, 0, 0, ⟨#[]⟩, 0, 0⟩
theorem iRq : (Try.prog.info? 84).map (·.size) = some 7 := by kernel_rfl
theorem iAn : (Try.prog.info? 86).map (·.size) = some 6 := by kernel_rfl
theorem iLn : (Try.prog.info? 123).map (·.size) = some 8 := by kernel_rfl
theorem Eln : Elt Try.prog 116 123 (.agg #[.int .i64 0, .int .i64 0, .int .i64 0, .string ⟨#[]⟩, .string ⟨#[]⟩, .string ⟨#[]⟩, .string ⟨#[]⟩, .pointer none]) 8 96 := Elt.mk' Try.underlying116 (by kernel_rfl) rfl (by omega)

/-- The blocks of a client. -/
def Ln.own (ls : List Ln) (k : Nat) : Prop := ∃ x ∈ ls, ∃ a, x.a = some (k, a)
def cfp (cb : Nat) (v : Value) (ls : List Ln) (k : Nat) : Prop := k = cb ∨ v.ownBlock = some k ∨ Ln.own ls k
structure Cl (w : World) (cb : Nat) (id : Int) (v : Value) (ls : List Ln) : Prop where
  blk : w.heap[cb]? = some (.cells #[.int .i64 id, v] 118 (0, 0))
  row : w.ownsRow (cb + 1) 123 8 v ls.length (ls.flatMap Ln.cells)
  ans : ∀ x ∈ ls, ∀ b a, x.a = some (b, a) → cb < b ∧ v.ownBlock ≠ some b ∧ w.heap[b]? = some (.cells #[.int .i64 a.client, .int .i64 a.serial, .int .i64 a.status, .string a.text, .int .i64 a.after, .int .i64 a.epoch] 86 (0, 0))
section
variable {w w1 : World} {cb : Nat} {id : Int} {v : Value} {ls : List Ln} {S : Nat → Prop}
theorem Cl.c0 (h : Cl w cb id v ls) : w.cell? ⟨cb, 0, none⟩ = some (.int .i64 id) := by rw [Bk.cell h.blk]; rfl
theorem Cl.c1 (h : Cl w cb id v ls) : w.cell? ⟨cb, 1, none⟩ = some v := by rw [Bk.cell h.blk]; rfl
theorem Cl.fr (h : Cl w cb id v ls) (i : Nat) : w.frozen? ⟨cb, i, none⟩ = false := Bk.frozen h.blk i
theorem Cl.lt (h : Cl w cb id v ls) : cb < w.heap.size := Bk.lt h.blk
theorem Cl.own (h : Cl w cb id v ls) (k : Nat) (hk : v.ownBlock = some k) : cb < k ∧ k < w.heap.size := by have := h.row.lt k hk; omega
theorem Cl.under (h : Cl w cb id v ls) : Under w (cfp cb v ls) := by
  rintro k (rfl | hk | ⟨x, hx, a, ha⟩)
  · exact h.lt
  · exact (h.own k hk).2
  · exact Bk.lt (h.ans x hx k a ha).2.2
theorem Cl.over (h : Cl w cb id v ls) : Over cb (cfp cb v ls) := by
  rintro k (rfl | hk | ⟨x, hx, a, ha⟩)
  · exact Nat.le_refl _
  · have := (h.own k hk).1; omega
  · have := (h.ans x hx k a ha).1; omega
theorem Cl.frm (h : Cl w cb id v ls) (hf : Frm S w w1) (hs : Sep (cfp cb v ls) S) : Cl w1 cb id v ls :=
  ⟨hf.blk h.blk (hs _ (.inl rfl)), owns_frm h.row hf (fun k hk => hs _ (.inr (.inl hk))), fun x hx b a ha => by
    obtain ⟨h1, h2, h3⟩ := h.ans x hx b a ha
    exact ⟨h1, h2, hf.blk h3 (hs _ (.inr (.inr ⟨x, hx, a, ha⟩)))⟩⟩
theorem Cl.frm0 (h : Cl w cb id v ls) (hf : Frm0 w w1) : Cl w1 cb id v ls := h.frm hf (fun _ _ h => h)
theorem Cl.form (h : Cl w cb id v ls) : ∃ A c, v = .slice A ls.length c := by
  rcases h.row.2 with ⟨h, hn⟩ | ⟨g, cap, cur, he, _⟩
  · exact ⟨none, 0, by rw [h, hn]⟩
  · exact ⟨_, _, he⟩
/-- A line's cells. -/
theorem Cl.line (h : Cl w cb id v ls) (k : Nat) (hk : k < ls.length) : ∃ g cap, v = .slice (some ⟨g, 0, none⟩) ls.length cap ∧ w.cell? ⟨g, k * 8, none⟩ = some (.int .i64 (ls[k]).r.client) ∧ w.cell? ⟨g, k * 8 + 1, none⟩ = some (.int .i64 (ls[k]).r.serial) ∧ w.cell? ⟨g, k * 8 + 2, none⟩ = some (.int .i64 (ls[k]).r.tenant) ∧
    w.cell? ⟨g, k * 8 + 3, none⟩ = some (.string (ls[k]).r.key) ∧ w.cell? ⟨g, k * 8 + 4, none⟩ = some (.string (ls[k]).r.method) ∧ w.cell? ⟨g, k * 8 + 5, none⟩ = some (.string (ls[k]).r.path) ∧ w.cell? ⟨g, k * 8 + 6, none⟩ = some (.string (ls[k]).r.body) ∧ w.cell? ⟨g, k * 8 + 7, none⟩ = some (.pointer (ls[k]).ptr) ∧ w.frozen? ⟨g, k * 8 + 7, none⟩ = false := by
  rcases h.row.2 with ⟨_, h0⟩ | ⟨g, cap, cur, rfl, hb, hg, hr⟩
  · omega
  · have at_ : ∀ j, j < 8 → w.cell? ⟨g, k * 8 + j, none⟩ = ((ls[k]).cells)[j]? := fun j hj => by
      rw [h.row.cellAt (k * 8 + j) (by omega), ← flat_at Ln.cells 8 Ln.cells_len ls k j ls[k] (List.getElem?_eq_getElem hk) hj]
    exact ⟨g, cap, rfl, at_ 0 (by omega), at_ 1 (by omega), at_ 2 (by omega), at_ 3 (by omega), at_ 4 (by omega), at_ 5 (by omega), at_ 6 (by omega), at_ 7 (by omega), Bk.frozen hg _⟩
end

/-- What is told of a serial: its place. -/
def plc (ls : List Ln) (s : Int) : Bool := decide (1 ≤ s ∧ s ≤ ls.length)
theorem plc_t {ls : List Ln} {s : Int} (h : plc ls s = true) : ∃ k : Nat, s = (k : Int) + 1 ∧ k < ls.length := by
  have h := of_decide_eq_true h
  exact ⟨(s - 1).toNat, by omega, by omega⟩

theorem cnew_any (id : Int) (w : World) : Calls Try.prog 36 #[.int .i64 id] w fun e w' => e = .returned (.pointer (some ⟨w.heap.size, 0, none⟩)) ∧ Cl w' w.heap.size id (.slice none 0 0) [] ∧ Frm0 w w' := by
  go_enter Try.func36, Try.ntmps36
  go_wp2
  go_ret
  exact ⟨rfl, ⟨Bk.new _ _, World.ownsRow_nil _ _ _ _, fun x hx => by cases hx⟩, (Frm.refl _ _).alloc _⟩
theorem last_any {w : World} {cb : Nat} {id : Int} {v : Value} {ls : List Ln} (h : Cl w cb id v ls) :
    Calls Try.prog 43 #[.pointer (some ⟨cb, 0, none⟩)] w fun e w' => e = .returned (.int .i64 ls.length) ∧ w = w' := by
  have c1 := h.c1
  obtain ⟨A, c, rfl⟩ := h.form
  go_enter Try.func43, Try.ntmps43
  go_wp2
  go_ret
  exact ⟨rfl, rfl⟩
theorem last_nil (w : World) : Calls Try.prog 43 #[.pointer none] w fun e w' => e = .returned (.int .i64 0) ∧ w = w' := by
  go_enter Try.func43, Try.ntmps43
  go_wp2
  go_ret
  exact ⟨rfl, rfl⟩
/-- What at gives: a line, as one value. -/
def lnV (x : Ln) : Value := .agg #[.int .i64 x.r.client, .int .i64 x.r.serial, .int .i64 x.r.tenant, .string x.r.key, .string x.r.method, .string x.r.path, .string x.r.body, .pointer x.ptr]
def rqV (x : Rq) : Value := .agg #[.int .i64 x.client, .int .i64 x.serial, .int .i64 x.tenant, .string x.key, .string x.method, .string x.path, .string x.body]
def anV (x : An) : Value := .agg #[.int .i64 x.client, .int .i64 x.serial, .int .i64 x.status, .string x.text, .int .i64 x.after, .int .i64 x.epoch]
def lnA (ls : List Ln) (s : Int) : Ln := if plc ls s then ls.getD (s - 1).toNat ⟨rq0, none⟩ else ⟨rq0, none⟩
theorem at_yes {w : World} {cb : Nat} {id : Int} {v : Value} {ls : List Ln} (h : Cl w cb id v ls) (k : Nat) (hk : k < ls.length) (s : Int) (hs : s = (k : Int) + 1) (hl : ls.length ≤ 1000000) :
    Calls Try.prog 57 #[.pointer (some ⟨cb, 0, none⟩), .int .i64 s] w fun e w' => e = .returned (.tuple #[lnV ls[k], .bool true]) ∧ Frm0 w w' := by
  have HL := Lib.hid (fun w (h : Cl w cb id v ls) => last_any h)
  have hA := h.frm0 ((Frm.refl _ w).alloc (.cells #[.int .i64 0, .int .i64 0, .int .i64 0, .string ⟨#[]⟩, .string ⟨#[]⟩, .string ⟨#[]⟩, .string ⟨#[]⟩, .pointer none] 123))
  have c1 := hA.c1
  obtain ⟨g, cap, rfl, x0, x1, x2, x3, x4, x5, x6, x7, _⟩ := hA.line k hk
  unfold lnV
  generalize (ls[k]).r.client = y0 at *
  generalize (ls[k]).r.serial = y1 at *
  generalize (ls[k]).r.tenant = y2 at *
  generalize (ls[k]).r.key = y3 at *
  generalize (ls[k]).r.method = y4 at *
  generalize (ls[k]).r.path = y5 at *
  generalize (ls[k]).r.body = y6 at *
  generalize (ls[k]).ptr = y7 at *
  subst hs
  have d1 : decide ((k : Int) + 1 < 1) = false := decide_eq_false (by omega)
  have d2 : decide ((ls.length : Int) < (k : Int) + 1) = false := decide_eq_false (by omega)
  have d3 : (k : Int) < (ls.length : Int) := by omega
  clear h
  go_enter Try.func57, Try.ntmps57
  go_wp2_with fail
  refine (HL.out _ hA).mono ?_
  rintro e w1 ⟨rfl, rfl⟩
  go_wp2
  go_returns
  exact ⟨rfl, (Frm.refl _ _).alloc _⟩
set_option maxHeartbeats 1000000 in
theorem at_no {w : World} {cb : Nat} {id : Int} {v : Value} {ls : List Ln} (h : Cl w cb id v ls) (s : Int) (hs : ¬ (1 ≤ s ∧ s ≤ ls.length)) :
    Calls Try.prog 57 #[.pointer (some ⟨cb, 0, none⟩), .int .i64 s] w fun e w' => e = .returned (.tuple #[lnV ⟨rq0, none⟩, .bool false]) ∧ Frm0 w w' := by
  have HL := Lib.hid (fun w (h : Cl w cb id v ls) => last_any h)
  have hA := h.frm0 ((Frm.refl _ w).alloc (.cells #[.int .i64 0, .int .i64 0, .int .i64 0, .string ⟨#[]⟩, .string ⟨#[]⟩, .string ⟨#[]⟩, .string ⟨#[]⟩, .pointer none] 123))
  obtain ⟨A, c, rfl⟩ := h.form
  have hcs : decide (s < 1) = true ∨ (decide (s < 1) = false ∧ decide ((ls.length : Int) < s) = true) := by
    simp only [decide_eq_true_eq, decide_eq_false_iff_not]; omega
  clear hs h
  rcases hcs with d1 | ⟨d1, d2⟩
  · go_enter Try.func57, Try.ntmps57
    go_wp2
    go_returns
    exact ⟨rfl, (Frm.refl _ _).alloc _⟩
  · go_enter Try.func57, Try.ntmps57
    go_wp2_with fail
    refine (HL.out _ hA).mono ?_
    rintro e w1 ⟨rfl, rfl⟩
    go_wp2
    go_returns
    exact ⟨rfl, (Frm.refl _ _).alloc _⟩
theorem at_nil (s : Int) (w : World) :
    Calls Try.prog 57 #[.pointer none, .int .i64 s] w fun e w' => e = .returned (.tuple #[lnV ⟨rq0, none⟩, .bool false]) ∧ Frm0 w w' := by
  have hcs : decide (s < 1) = true ∨ (decide (s < 1) = false ∧ decide ((0 : Int) < s) = true) := by
    simp only [decide_eq_true_eq, decide_eq_false_iff_not]; omega
  rcases hcs with d1 | ⟨d1, d2⟩
  · go_enter Try.func57, Try.ntmps57
    go_wp2
    go_returns
    exact ⟨rfl, (Frm.refl _ _).alloc _⟩
  · go_enter Try.func57, Try.ntmps57
    go_wp2_with fail
    refine (last_nil _).mono ?_
    rintro e w1 ⟨rfl, rfl⟩
    go_wp2
    go_returns
    exact ⟨rfl, (Frm.refl _ _).alloc _⟩
end Go.Proofs.Yteokiiolchpndaa
