/- awake of the law of bag, and the walk of BagKeeps. -/
import Derived.Test.YteokiiolchpndaaBgc
import Derived.Test.YteokiiolchpndaaR
namespace Go.Proofs.Yteokiiolchpndaa
open Go.RowKit Go.ChangeShapes Go.WideShapes
set_option linter.unusedVariables false
set_option linter.unusedSimpArgs false

structure BDeed where
  kind : Int
  s : ByteArray
  n : Int
def BDeed.cells (x : BDeed) : List Value := [.int .u8 x.kind, .string x.s, .int .i64 x.n]
structure BDeed.Good (x : BDeed) : Prop where
  kind : (Lit.int .u8 x.kind).wf = true
  s : x.s.size ≤ maxLen
  n : (Lit.int .i64 x.n).wf = true
theorem BDeed.cells_len (x : BDeed) : x.cells.length = 3 := rfl
theorem parse_BDeed : (∃ fs, Try.prog.underlying 59 = some (.struct fs)) ∧ Try.prog.cellsOf 59 = 3 ∧ ∀ {H : Type} {enc : TypeId × Value → H} {w : World} {base : Nat} {spare : Nat → Bool} {held : Bool} n cs x, cs.length = 3 → DataW.trod enc Try.prog w base spare held n 59 cs = some x →
    ∃ a : BDeed, cs = a.cells ∧ a.Good := by
  refine ⟨⟨_, Try.underlying59⟩, by kernel_rfl, fun n cs x hl h => ?_⟩
  have hc0 : Try.prog.cellsOf 5 = 1 := by kernel_rfl
  have hc1 : Try.prog.cellsOf 9 = 1 := by kernel_rfl
  have hc2 : Try.prog.cellsOf 3 = 1 := by kernel_rfl
  match cs, hl with
  | [c0, c1, c2], _ =>
    obtain ⟨xs, m, rfl, hx, _, hxl, hf⟩ := DataW.trod_struct Try.underlying59 h
    match xs, hxl with
    | [x0, x1, x2], _ =>
      have h0 := hf 0 _ rfl
      have h1 := hf 1 _ rfl
      have h2 := hf 2 _ rfl
      clear hf
      simp [hc0, hc1, hc2] at h0
      simp [hc0, hc1, hc2] at h1
      simp [hc0, hc1, hc2] at h2
      obtain ⟨a0, e0, _, g0⟩ := DataW.trod_int Try.underlying5 h0
      simp at e0
      subst e0
      obtain ⟨a1, e1, _, g1⟩ := DataW.trod_string Try.underlying9 h1
      simp at e1
      subst e1
      obtain ⟨a2, e2, _, g2⟩ := DataW.trod_int Try.underlying3 h2
      simp at e2
      subst e2
      exact ⟨⟨a0, a1, a2⟩, rfl, ⟨g0, g1, g2⟩⟩


namespace Bg
theorem len_nil (w : World) : Calls Try.prog 30 #[.pointer none] w fun e w' => e = .returned (.int .i64 0) ∧ w = w' := by
  go_enter Try.func30, Try.ntmps30
  go_wp2
  go_ret
  exact ⟨rfl, rfl⟩
theorem room_nil (w : World) : Calls Try.prog 31 #[.pointer none] w fun e w' => e = .returned (.bool false) ∧ w = w' := by
  go_enter Try.func31, Try.ntmps31
  go_wp2
  go_ret
  exact ⟨rfl, rfl⟩
theorem all_nil (w : World) : Calls Try.prog 32 #[.pointer none] w fun e w' => e = .returned (.slice none 0 0) ∧ w = w' := by
  go_enter Try.func32, Try.ntmps32
  go_wp2
  go_ret
  exact ⟨rfl, rfl⟩
theorem put_nil (s : ByteArray) (w : World) : Calls Try.prog 29 #[.pointer none, .string s] w fun e w' => e = .returned (.int .i64 1) ∧ w = w' := by
  go_enter Try.func29, Try.ntmps29
  go_wp2
  go_ret
  exact ⟨rfl, rfl⟩
theorem twice_nil (i : Int) (w : World) : Calls Try.prog 28 #[.pointer none, .int .i64 i] w fun e w' => e = .returned (.int .i64 1) ∧ w = w' := by
  go_enter Try.func28, Try.ntmps28
  go_wp2
  go_ret
  exact ⟨rfl, rfl⟩
theorem at_nil (w : World) : Calls Try.prog 33 #[.pointer none, .int .i64 0] w fun e w' => e = .returned (.tuple #[.string ⟨#[]⟩, .bool false]) ∧ w = w' := by
  go_enter Try.func33, Try.ntmps33
  go_wp2_with fail
  refine (len_nil _).mono ?_
  rintro e w1 ⟨rfl, rfl⟩
  go_wp2
  go_ret2
  exact ⟨rfl, rfl⟩
theorem take_nil (w : World) : Calls Try.prog 25 #[.pointer none, .int .i64 0] w fun e w' => e = .returned (.tuple #[.string ⟨#[]⟩, .bool false]) ∧ w = w' := by
  go_enter Try.func25, Try.ntmps25
  go_wp2_with fail
  refine (at_nil _).mono ?_
  rintro e w1 ⟨rfl, rfl⟩
  go_wp2
  go_ret2
  exact ⟨rfl, rfl⟩

theorem put_to {s : ByteArray} {bb : Nat} {v : Value} {xs ys : List ByteArray} {w : World} (h : At w bb v xs) (hlen : xs.length ≤ 900) (hy : xs ++ [s] = ys) :
    Calls Try.prog 29 #[.pointer (some ⟨bb, 0, none⟩), .string s] w fun e w' => ∃ v', e = .returned (.int .i64 0) ∧ At w' bb v' ys ∧ Moved w v v' ∧ Frm (fun k => k = bb ∨ v.ownBlock = some k) w w' := by
  subst hy; exact put_any s bb v xs w h hlen
theorem take_to {i : Int} {bb : Nat} {v : Value} {xs ys : List ByteArray} {x : ByteArray} {b : Bool} {w : World} (h : At w bb v xs) (hlen : xs.length ≤ 1000) (ha : at_ xs i = (x, b)) (hy : cut xs i = ys) :
    Calls Try.prog 25 #[.pointer (some ⟨bb, 0, none⟩), .int .i64 i] w fun e w' => ∃ v', e = .returned (.tuple #[.string x, .bool b]) ∧ At w' bb v' ys ∧ Moved w v v' ∧ Frm (fun k => k = bb ∨ v.ownBlock = some k) w w' := by
  have := take_any i bb v xs w h hlen
  rwa [ha, hy] at this
theorem twice_to {i : Int} {bb : Nat} {v : Value} {xs ys : List ByteArray} {e0 : Int} {w : World} (h : At w bb v xs) (hlen : xs.length ≤ 900) (hy : twice xs i = (ys, e0)) :
    Calls Try.prog 28 #[.pointer (some ⟨bb, 0, none⟩), .int .i64 i] w fun e w' => ∃ v', e = .returned (.int .i64 e0) ∧ At w' bb v' ys ∧ Moved w v v' ∧ Frm (fun k => k = bb ∨ v.ownBlock = some k) w w' := by
  have := twice_any i bb v xs w h hlen
  rwa [hy] at this

theorem bawake (w : World) : Calls Try.prog 23 #[] w fun e w' => e = .returned (.bool true) ∧ Frm0 w w' := by
  go_enter Try.func23, Try.ntmps23
  go_wp2_with fail
  refine (new_any _).mono ?_
  rintro e w1 ⟨rfl, h1, hf1⟩
  have hb : w.heap.size ≤ w.heap.size := Nat.le_refl _
  generalize hbb : w.heap.size = bb at h1 hb ⊢
  go_wp2_with fail
  refine (put_to (ys := [⟨#[97]⟩]) h1 (by simp) rfl).mono ?_
  rintro e w2 ⟨v2, rfl, h2, hm2, hf2⟩
  go_wp2_with fail
  refine (put_to (ys := [⟨#[97]⟩, ⟨#[98]⟩]) h2 (by simp) rfl).mono ?_
  rintro e w3 ⟨v3, rfl, h3, hm3, hf3⟩
  go_wp2_with fail
  refine (twice_to (ys := [⟨#[97]⟩, ⟨#[98]⟩, ⟨#[97]⟩]) (e0 := 0) h3 (by simp) rfl).mono ?_
  rintro e w4 ⟨v4, rfl, h4, hm4, hf4⟩
  go_wp2_with fail
  refine (take_to (ys := [⟨#[98]⟩, ⟨#[97]⟩]) (x := ⟨#[97]⟩) (b := true) h4 (by simp) rfl rfl).mono ?_
  rintro e w5 ⟨v5, rfl, h5, hm5, hf5⟩
  go_wp2_with fail
  refine (all_any bb v5 _ _ h5 (by simp)).mono ?_
  rintro e w6 ⟨u, rfl, hown, hf6⟩
  obtain ⟨g, cap, rfl⟩ := owns_form hown
  have c0 : w6.cell? ⟨g, 0, none⟩ = some (.string ⟨#[98]⟩) := hown.cellAt 0 (by simp)
  have c1 : w6.cell? ⟨g, 1, none⟩ = some (.string ⟨#[97]⟩) := hown.cellAt 1 (by simp)
  go_wp2
  go_ret
  have e1 := hf1.size
  have e2 := hf2.size
  have e3 := hf3.size
  have e4 := hf4.size
  have o2 := h2.own
  have o3 := h3.own
  have o4 := h4.own
  have o5 := h5.own
  have k1 := hf1
  have k2 := k1.then_ hf2 (fun i hi h => by rcases h with h | h; omega; simp [Value.ownBlock] at h)
  have k3 := k2.then_ hf3 (fun i hi h => by rcases h with h | h; omega; have := o2 i h; omega)
  have k4 := k3.then_ hf4 (fun i hi h => by rcases h with h | h; omega; have := o3 i h; omega)
  have k5 := k4.then_ hf5 (fun i hi h => by rcases h with h | h; omega; have := o4 i h; omega)
  exact ⟨rfl, k5.trans hf6⟩
end Bg
end Go.Proofs.Yteokiiolchpndaa
