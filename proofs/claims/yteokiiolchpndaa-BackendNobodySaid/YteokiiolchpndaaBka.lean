/- Backend: calls and deeds, the plain answer, keys of lives and of deeds. -/
import Derived.Test.YteokiiolchpndaaMp
import Derived.Test.YteokiiolchpndaaS
import Derived.Test.YteokiiolchpndaaR
import Derived.DeepKeys4
namespace Go.Proofs.Yteokiiolchpndaa
open Go.RowKit Go.ChangeShapes Go.WideShapes Go.Maps
set_option linter.unusedVariables false
set_option linter.unusedSimpArgs false
set_option maxRecDepth 100000
structure Ca where
  tenant : Int
  key : ByteArray
  epoch : Int
  phase : Int
  token : Int
  name : ByteArray
  body : ByteArray
def Ca.cells (x : Ca) : List Value := [.int .i64 x.tenant, .string x.key, .int .i64 x.epoch, .int .i64 x.phase, .int .i64 x.token, .string x.name, .string x.body]
structure Ca.Good (x : Ca) : Prop where
  tenant : (Lit.int .i64 x.tenant).wf = true
  key : x.key.size ≤ maxLen
  epoch : (Lit.int .i64 x.epoch).wf = true
  phase : (Lit.int .i64 x.phase).wf = true
  token : (Lit.int .i64 x.token).wf = true
  name : x.name.size ≤ maxLen
  body : x.body.size ≤ maxLen
theorem Ca.cells_len (x : Ca) : x.cells.length = 7 := rfl
theorem parse_Ca : (∃ fs, Try.prog.underlying 28 = some (.struct fs)) ∧ Try.prog.cellsOf 28 = 7 ∧ ∀ {H : Type} {enc : TypeId × Value → H} {w : World} {base : Nat} {spare : Nat → Bool} {held : Bool} n cs x, cs.length = 7 → DataW.trod enc Try.prog w base spare held n 28 cs = some x →
    ∃ a : Ca, cs = a.cells ∧ a.Good := by
  refine ⟨⟨_, Try.underlying28⟩, by kernel_rfl, fun n cs x hl h => ?_⟩
  have hc0 : Try.prog.cellsOf 3 = 1 := by kernel_rfl
  have hc1 : Try.prog.cellsOf 9 = 1 := by kernel_rfl
  match cs, hl with
  | [c0, c1, c2, c3, c4, c5, c6], _ =>
    obtain ⟨xs, m, rfl, hx, _, hxl, hf⟩ := DataW.trod_struct Try.underlying28 h
    match xs, hxl with
    | [x0, x1, x2, x3, x4, x5, x6], _ =>
      have h0 := hf 0 _ rfl
      have h1 := hf 1 _ rfl
      have h2 := hf 2 _ rfl
      have h3 := hf 3 _ rfl
      have h4 := hf 4 _ rfl
      have h5 := hf 5 _ rfl
      have h6 := hf 6 _ rfl
      clear hf
      simp [hc0, hc1] at h0
      simp [hc0, hc1] at h1
      simp [hc0, hc1] at h2
      simp [hc0, hc1] at h3
      simp [hc0, hc1] at h4
      simp [hc0, hc1] at h5
      simp [hc0, hc1] at h6
      obtain ⟨a0, e0, _, g0⟩ := DataW.trod_int Try.underlying3 h0
      simp at e0
      subst e0
      obtain ⟨a1, e1, _, g1⟩ := DataW.trod_string Try.underlying9 h1
      simp at e1
      subst e1
      obtain ⟨a2, e2, _, g2⟩ := DataW.trod_int Try.underlying3 h2
      simp at e2
      subst e2
      obtain ⟨a3, e3, _, g3⟩ := DataW.trod_int Try.underlying3 h3
      simp at e3
      subst e3
      obtain ⟨a4, e4, _, g4⟩ := DataW.trod_int Try.underlying3 h4
      simp at e4
      subst e4
      obtain ⟨a5, e5, _, g5⟩ := DataW.trod_string Try.underlying9 h5
      simp at e5
      subst e5
      obtain ⟨a6, e6, _, g6⟩ := DataW.trod_string Try.underlying9 h6
      simp at e6
      subst e6
      exact ⟨⟨a0, a1, a2, a3, a4, a5, a6⟩, rfl, ⟨g0, g1, g2, g3, g4, g5, g6⟩⟩

structure KDeed where
  kind : Int
  call : Ca
  n : Int
def KDeed.cells (x : KDeed) : List Value := [.int .u8 x.kind, .int .i64 x.call.tenant, .string x.call.key, .int .i64 x.call.epoch, .int .i64 x.call.phase, .int .i64 x.call.token, .string x.call.name, .string x.call.body, .int .i64 x.n]
structure KDeed.Good (x : KDeed) : Prop where
  kind : (Lit.int .u8 x.kind).wf = true
  call : x.call.Good
  n : (Lit.int .i64 x.n).wf = true
theorem KDeed.cells_len (x : KDeed) : x.cells.length = 9 := rfl
theorem parse_KDeed : (∃ fs, Try.prog.underlying 30 = some (.struct fs)) ∧ Try.prog.cellsOf 30 = 9 ∧ ∀ {H : Type} {enc : TypeId × Value → H} {w : World} {base : Nat} {spare : Nat → Bool} {held : Bool} n cs x, cs.length = 9 → DataW.trod enc Try.prog w base spare held n 30 cs = some x →
    ∃ a : KDeed, cs = a.cells ∧ a.Good := by
  refine ⟨⟨_, Try.underlying30⟩, by kernel_rfl, fun n cs x hl h => ?_⟩
  have hc0 : Try.prog.cellsOf 5 = 1 := by kernel_rfl
  have hc1 : Try.prog.cellsOf 28 = 7 := by kernel_rfl
  have hc2 : Try.prog.cellsOf 3 = 1 := by kernel_rfl
  match cs, hl with
  | [c0, c1, c2, c3, c4, c5, c6, c7, c8], _ =>
    obtain ⟨xs, m, rfl, hx, _, hxl, hf⟩ := DataW.trod_struct Try.underlying30 h
    match xs, hxl with
    | [x0, x1, x2], _ =>
      have h0 := hf 0 _ rfl
      have h1 := hf 1 _ rfl
      have h2 := hf 2 _ rfl
      clear hf
      simp [hc0, hc1, hc2] at h0
      simp [hc0, hc1, hc2] at h1
      simp [hc0, hc1, hc2] at h2
      obtain ⟨a0, e0, _, g0⟩ := DataW.trod_int Try.underlying5 h0
      simp at e0
      subst e0
      obtain ⟨a1, e1, g1⟩ := parse_Ca.2.2 _ _ _ rfl h1
      simp [Ca.cells] at e1
      obtain ⟨rfl, rfl, rfl, rfl, rfl, rfl, rfl⟩ := e1
      obtain ⟨a2, e2, _, g2⟩ := DataW.trod_int Try.underlying3 h2
      simp at e2
      subst e2
      exact ⟨⟨a0, a1, a2⟩, rfl, ⟨g0, g1, g2⟩⟩


namespace Bk25
/-- A life: whose, its key, its epoch; the greatest token, and whether that is spent. -/
structure Lf where
  t : Int
  k : ByteArray
  e : Int
  tok : Int
  sp : Bool
def Lf.is (x : Lf) (t : Int) (k : ByteArray) (e : Int) : Prop := x.t = t ∧ x.k = k ∧ x.e = e
instance (x : Lf) (t : Int) (k : ByteArray) (e : Int) : Decidable (x.is t k e) := by unfold Lf.is; exact inferInstance
/-- A life's token and mark. -/
def find : List Lf → Int → ByteArray → Int → Option (Int × Bool)
  | [], _, _, _ => none
  | x :: r, t, k, e => if x.is t k e then some (x.tok, x.sp) else find r t k e
/-- The place of a life, or how many there are. -/
def idx : List Lf → Int → ByteArray → Int → Nat
  | [], _, _, _ => 0
  | x :: r, t, k, e => if x.is t k e then 0 else idx r t k e + 1
/-- A life's token and mark laid, in its place or behind all. -/
def putL : List Lf → Int → ByteArray → Int → Int → Bool → List Lf
  | [], t, k, e, tok, sp => [⟨t, k, e, tok, sp⟩]
  | x :: r, t, k, e, tok, sp => if x.is t k e then ⟨x.t, x.k, x.e, tok, sp⟩ :: r else x :: putL r t k e tok sp
theorem find_put (ls : List Lf) (t : Int) (k : ByteArray) (e tok : Int) (sp : Bool) (t' : Int) (k' : ByteArray) (e' : Int) :
    find (putL ls t k e tok sp) t' k' e' = if t = t' ∧ k = k' ∧ e = e' then some (tok, sp) else find ls t' k' e' := by
  induction ls with
  | nil => simp only [putL, find, Lf.is]
  | cons x r ih =>
    unfold putL
    by_cases h : x.is t k e
    · rw [if_pos h]
      obtain ⟨h1, h2, h3⟩ := h
      subst h1 h2 h3
      unfold find
      by_cases h' : x.t = t' ∧ x.k = k' ∧ x.e = e'
      · rw [if_pos (show Lf.is ⟨x.t, x.k, x.e, tok, sp⟩ t' k' e' from h'), if_pos h']
      · rw [if_neg (show ¬ Lf.is ⟨x.t, x.k, x.e, tok, sp⟩ t' k' e' from h'), if_neg (show ¬ x.is t' k' e' from h'), if_neg h']
    · rw [if_neg h]
      by_cases h' : x.is t' k' e'
      · have hn : ¬ (t = t' ∧ k = k' ∧ e = e') := fun ⟨a, b, c⟩ => h (by subst a b c; exact h')
        simp only [find, if_pos h', if_neg hn]
      · simp only [find, if_neg h', ih]
theorem idx_le (ls : List Lf) (t : Int) (k : ByteArray) (e : Int) : idx ls t k e ≤ ls.length := by
  induction ls with
  | nil => exact Nat.le_refl _
  | cons x r ih => unfold idx; split <;> simp <;> omega
theorem idx_find (ls : List Lf) (t : Int) (k : ByteArray) (e : Int) : (∀ (h : idx ls t k e < ls.length), find ls t k e = some (ls[idx ls t k e].tok, ls[idx ls t k e].sp) ∧ ls[idx ls t k e].is t k e) ∧ (idx ls t k e = ls.length → find ls t k e = none) := by
  induction ls with
  | nil => exact ⟨fun h => absurd h (Nat.lt_irrefl _), fun _ => rfl⟩
  | cons x r ih =>
    unfold idx find
    by_cases h : x.is t k e
    · simp only [if_pos h]
      exact ⟨fun _ => ⟨rfl, h⟩, fun h' => absurd h' (by simp)⟩
    · simp only [if_neg h]
      exact ⟨fun h' => by
        have := ih.1 (by simpa using h')
        simpa using this, fun h' => ih.2 (by simpa using h')⟩
theorem putL_set (ls : List Lf) (t : Int) (k : ByteArray) (e tok : Int) (sp : Bool) (h : idx ls t k e < ls.length) : putL ls t k e tok sp = ls.set (idx ls t k e) ⟨t, k, e, tok, sp⟩ := by
  induction ls with
  | nil => exact absurd h (Nat.lt_irrefl _)
  | cons x r ih =>
    unfold putL idx
    unfold idx at h
    by_cases hx : x.is t k e
    · simp only [if_pos hx]
      obtain ⟨h1, h2, h3⟩ := hx
      subst h1 h2 h3
      rfl
    · simp only [if_neg hx] at h ⊢
      rw [ih (by simpa using h)]
      rfl
theorem putL_app (ls : List Lf) (t : Int) (k : ByteArray) (e tok : Int) (sp : Bool) (h : idx ls t k e = ls.length) : putL ls t k e tok sp = ls ++ [⟨t, k, e, tok, sp⟩] := by
  induction ls with
  | nil => rfl
  | cons x r ih =>
    unfold putL
    unfold idx at h
    by_cases hx : x.is t k e
    · simp [if_pos hx] at h
    · simp only [if_neg hx, List.length_cons, Nat.add_right_cancel_iff] at h ⊢
      rw [ih h]
      rfl
theorem putL_len (ls : List Lf) (t : Int) (k : ByteArray) (e tok : Int) (sp : Bool) : (putL ls t k e tok sp).length ≤ ls.length + 1 := by
  induction ls with
  | nil => exact Nat.le_refl _
  | cons x r ih => unfold putL; split <;> simp <;> omega
theorem putL_hit {x : Lf} {r : List Lf} {t : Int} {k : ByteArray} {e tok : Int} {sp : Bool} (h : x.is t k e) : putL (x :: r) t k e tok sp = ⟨x.t, x.k, x.e, tok, sp⟩ :: r := by unfold putL; rw [if_pos h]
theorem putL_miss {x : Lf} {r : List Lf} {t : Int} {k : ByteArray} {e tok : Int} {sp : Bool} (h : ¬ x.is t k e) : putL (x :: r) t k e tok sp = x :: putL r t k e tok sp := by rw [putL, if_neg h]
theorem putL_put (ls : List Lf) (t : Int) (k : ByteArray) (e tok tok' : Int) (sp sp' : Bool) : putL (putL ls t k e tok sp) t k e tok' sp' = putL ls t k e tok' sp' := by
  induction ls with
  | nil => simp [putL, Lf.is]
  | cons x r ih =>
    by_cases hx : x.is t k e
    · rw [putL_hit hx, putL_hit hx, putL_hit (show Lf.is ⟨x.t, x.k, x.e, tok, sp⟩ t k e from hx)]
    · rw [putL_miss hx, putL_miss hx, putL_miss hx, ih]
/-- Is there such an effect? -/
def met (l : List Ca) (t : Int) (k : ByteArray) (e p : Int) : Bool := l.any (fun x => decide (x.tenant = t ∧ x.key = k ∧ x.epoch = e ∧ x.phase = p))
structure St where
  ls : List Lf
  ef : List Ca
  later : Int
/-- Is a call stale? -/
def stale (s : St) (c : Ca) : Prop := match find s.ls c.tenant c.key c.epoch with
  | none => False
  | some (tok, sp) => c.token < tok ∨ (tok = c.token ∧ sp = true)
instance (s : St) (c : Ca) : Decidable (stale s c) := by unfold stale; split <;> exact inferInstance
/-- A call, and its code. -/
def call (s : St) (c : Ca) : St × Int :=
  if stale s c then (s, 3)
  else if met s.ef c.tenant c.key c.epoch c.phase = true then (⟨putL s.ls c.tenant c.key c.epoch c.token false, s.ef, s.later⟩, 1)
  else if 0 < s.later then (⟨putL s.ls c.tenant c.key c.epoch c.token true, s.ef, s.later - 1⟩, 2)
  else (⟨putL s.ls c.tenant c.key c.epoch c.token false, s.ef ++ [c], s.later⟩, 1)
theorem laidOut : laidOutB Try.prog = true := by kernel_rfl
theorem lawL : WideMaps.KeyLaw Try.prog 111 := deep_law_laid laidOut (m := 2) (by omega) (of_decide_eq_true (by kernel_rfl)) (by kernel_rfl) (by rw [Try.underlying111])
theorem lawD : WideMaps.KeyLaw Try.prog 129 := deep_law_laid laidOut (m := 3) (by omega) (of_decide_eq_true (by kernel_rfl)) (by kernel_rfl) (by rw [Try.underlying129])
theorem keyL : Keyed Try.prog 111 := Keyed.of_law lawL
theorem keyD : Keyed Try.prog 129 := Keyed.of_law lawD
/-- What a key may be. -/
structure Kok (t : Int) (k : ByteArray) (e : Int) : Prop where
  t : (Lit.int .i64 t).wf = true
  k : k.size ≤ maxLen
  e : (Lit.int .i64 e).wf = true
def kl (t : Int) (k : ByteArray) (e : Int) : Lit := .string (keyBytes [.int .i64 t, .string k.data.toList, .int .i64 e])
def kd (t : Int) (k : ByteArray) (e p : Int) : Lit := .string (keyBytes [.int .i64 t, .string k.data.toList, .int .i64 e, .int .i64 p])
theorem sizes : ∃ n, Try.prog.types.size = n + 3 := ⟨Try.prog.types.size - 3, by have : 3 ≤ Try.prog.types.size := of_decide_eq_true (by kernel_rfl); omega⟩
theorem lits_int (n : Nat) {t : Int} (h : (Lit.int .i64 t).wf = true) : Try.prog.keyLits (n + 1) 3 [.int .i64 t] = some [.int .i64 t] := by
  simp [Program.keyLits, Try.underlying3, h]
theorem lits_str (n : Nat) {k : ByteArray} (h : k.size ≤ maxLen) : Try.prog.keyLits (n + 1) 9 [.string k] = some [.string k.data.toList] := by
  simp [Program.keyLits, Try.underlying9, h]
theorem ci : Try.prog.cellsOf 3 = 1 := by kernel_rfl
theorem cS : Try.prog.cellsOf 9 = 1 := by kernel_rfl
theorem lits_life (n : Nat) {t : Int} {k : ByteArray} {e : Int} (h : Kok t k e) : Try.prog.keyLits (n + 2) 111 [.int .i64 t, .string k, .int .i64 e] = some [.int .i64 t, .string k.data.toList, .int .i64 e] := by
  have cs : Try.prog.cellsOf 111 = 3 := by kernel_rfl
  unfold Program.keyLits
  simp only [Try.underlying111]
  simp [cs, ci, cS, lits_int n h.t, lits_str n h.k, lits_int n h.e]
theorem keyOf_life {t : Int} {k : ByteArray} {e : Int} (h : Kok t k e) : keyOf Try.prog 111 (.agg #[.int .i64 t, .string k, .int .i64 e]) = some (kl t k e) := by
  have kt : Try.prog.keyType 111 = true := by kernel_rfl
  have cs : Try.prog.cellsOf 111 = 3 := by kernel_rfl
  obtain ⟨n, hn⟩ := sizes
  have hl := lits_life (n + 2) h
  unfold keyOf
  simp only [Try.underlying111, kt, Value.formed, cs, hn, Value.cells]
  simp [hl, kl]
theorem keyOf_deed {t : Int} {k : ByteArray} {e p : Int} (h : Kok t k e) (hp : (Lit.int .i64 p).wf = true) : keyOf Try.prog 129 (.agg #[.int .i64 t, .string k, .int .i64 e, .int .i64 p]) = some (kd t k e p) := by
  have kt : Try.prog.keyType 129 = true := by kernel_rfl
  have cs : Try.prog.cellsOf 129 = 4 := by kernel_rfl
  have cl : Try.prog.cellsOf 111 = 3 := by kernel_rfl
  obtain ⟨n, hn⟩ := sizes
  have hl := lits_life (n + 1) h
  have hi := lits_int (n + 2) hp
  unfold keyOf
  simp only [Try.underlying129, kt, Value.formed, cs, hn, Value.cells]
  unfold Program.keyLits
  simp only [Try.underlying129]
  simp [cs, cl, ci, hl, hi, kd]
theorem kl_inj {t t' : Int} {k k' : ByteArray} {e e' : Int} (h : Kok t k e) (h' : Kok t' k' e') (hk : kl t k e = kl t' k' e') : t = t' ∧ k = k' ∧ e = e' := by
  have := keyL.inj (keyOf_life h) (hk ▸ keyOf_life h')
  simpa using this
theorem kd_inj {t t' : Int} {k k' : ByteArray} {e e' p p' : Int} (h : Kok t k e) (hp : (Lit.int .i64 p).wf = true) (h' : Kok t' k' e') (hp' : (Lit.int .i64 p').wf = true) (hk : kd t k e p = kd t' k' e' p') : t = t' ∧ k = k' ∧ e = e' ∧ p = p' := by
  have := keyD.inj (keyOf_deed h hp) (hk ▸ keyOf_deed h' hp')
  simpa using this
end Bk25
end Go.Proofs.Yteokiiolchpndaa
