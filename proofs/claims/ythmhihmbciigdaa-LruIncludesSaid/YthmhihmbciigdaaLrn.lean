/- The laws of the cache: awake, small, deeds. -/
import Derived.Test.YthmhihmbciigdaaLrm
import Derived.Test.YthmhihmbciigdaaR
namespace Go.Proofs.Ythmhihmbciigdaa
open Go.RowKit Go.Maps Go.ChangeShapes Go.WideShapes
set_option linter.unusedVariables false
set_option linter.unusedSimpArgs false
set_option maxRecDepth 100000

structure LDeed where
  kind : Int
  key : ByteArray
  val : ByteArray
def LDeed.cells (x : LDeed) : List Value := [.int .u8 x.kind, .string x.key, .string x.val]
structure LDeed.Good (x : LDeed) : Prop where
  kind : (Lit.int .u8 x.kind).wf = true
  key : x.key.size ≤ maxLen
  val : x.val.size ≤ maxLen
theorem LDeed.cells_len (x : LDeed) : x.cells.length = 3 := rfl
theorem parse_LDeed : (∃ fs, Try.prog.underlying 53 = some (.struct fs)) ∧ Try.prog.cellsOf 53 = 3 ∧ ∀ {H : Type} {enc : TypeId × Value → H} {w : World} {base : Nat} {spare : Nat → Bool} {held : Bool} n cs x, cs.length = 3 → DataW.trod enc Try.prog w base spare held n 53 cs = some x →
    ∃ a : LDeed, cs = a.cells ∧ a.Good := by
  refine ⟨⟨_, Try.underlying53⟩, by kernel_rfl, fun n cs x hl h => ?_⟩
  have hc0 : Try.prog.cellsOf 5 = 1 := by kernel_rfl
  have hc2 : Try.prog.cellsOf 9 = 1 := by kernel_rfl
  match cs, hl with
  | [c0, c1, c2], _ =>
    obtain ⟨xs, m, rfl, hx, _, hxl, hf⟩ := DataW.trod_struct Try.underlying53 h
    match xs, hxl with
    | [x0, x1, x2], _ =>
      have h0 := hf 0 _ rfl
      have h1 := hf 1 _ rfl
      have h2 := hf 2 _ rfl
      clear hf
      simp [hc0, hc2] at h0
      simp [hc0, hc2] at h1
      simp [hc0, hc2] at h2
      obtain ⟨a0, e0, _, g0⟩ := DataW.trod_int Try.underlying5 h0
      simp at e0
      subst e0
      obtain ⟨a1, e1, _, g1⟩ := DataW.trod_string Try.underlying9 h1
      simp at e1
      subst e1
      obtain ⟨a2, e2, _, g2⟩ := DataW.trod_string Try.underlying9 h2
      simp at e2
      subst e2
      exact ⟨⟨a0, a1, a2⟩, rfl, ⟨g0, g1, g2⟩⟩
theorem ldeed_at {w : World} {b o : Nat} {l : List LDeed} (h : ∀ j u, (l.flatMap LDeed.cells)[j]? = some u → w.cell? ⟨b, o + j, none⟩ = some u) (k : Nat) (hk : k < l.length) :
    w.cell? ⟨b, o + k * 3, none⟩ = some (.int .u8 (l[k]).kind) ∧ w.cell? ⟨b, o + k * 3 + 1, none⟩ = some (.string (l[k]).key) ∧ w.cell? ⟨b, o + k * 3 + 2, none⟩ = some (.string (l[k]).val) := by
  have h0 := flat_at LDeed.cells 3 LDeed.cells_len l k 0 l[k] (List.getElem?_eq_getElem hk) (by omega)
  have h1 := flat_at LDeed.cells 3 LDeed.cells_len l k 1 l[k] (List.getElem?_eq_getElem hk) (by omega)
  have h2 := flat_at LDeed.cells 3 LDeed.cells_len l k 2 l[k] (List.getElem?_eq_getElem hk) (by omega)
  exact ⟨h _ _ h0, h _ _ h1, h _ _ h2⟩
namespace Lr
def Small (l : List LDeed) : Prop := l.length ≤ 80 ∧ ∀ x ∈ l, x.key.size ≤ 30 ∧ x.val.size ≤ 30
def SmP (w : World) (l : List LDeed) (e : Ending) (w' : World) : Prop := ∃ b : Bool, e = .returned (.bool b) ∧ (b = true → Small l) ∧ Frm0 w w'
set_option maxHeartbeats 2000000 in
theorem small_any (v : Value) (l : List LDeed) (w : World) (hs : Sl w v l.length (l.flatMap LDeed.cells)) :
    Calls Try.prog 24 #[v] w (SmP w l) := by
  have hlen := hs.len
  obtain ⟨A, c, rfl⟩ := hs.form
  by_cases h80 : 80 < l.length
  · go_enter Try.func24, Try.ntmps24
    go_wp2
    go_ret
    exact ⟨false, rfl, (fun h => by cases h), Frm.refl _ _⟩
  have hcell : ∀ k (hk : k < l.length), ∃ b o, A = some ⟨b, o, none⟩ ∧ w.cell? ⟨b, o + k * 3, none⟩ = some (.int .u8 (l[k]).kind) ∧ w.cell? ⟨b, o + k * 3 + 1, none⟩ = some (.string (l[k]).key) ∧ w.cell? ⟨b, o + k * 3 + 2, none⟩ = some (.string (l[k]).val) := by
    intro k hk
    rcases hs with ⟨A', c', _, hn, _⟩ | ⟨b, o, c', he, h0, h1, h2, h3, h4⟩
    · omega
    · cases he
      obtain ⟨x0, x1, x2⟩ := ldeed_at h4 k hk
      exact ⟨b, o, rfl, x0, x1, x2⟩
  have HC := Lib.hid hcell
  clear hcell hs
  go_enter Try.func24, Try.ntmps24
  go_wp2
  go_loopw [10] (fun i wr => ∃ (k : Nat), k ≤ l.length ∧ i = .int .i64 k ∧ Hid (∀ x ∈ l.take k, x.key.size ≤ 30 ∧ x.val.size ≤ 30) ∧ Frm0 w wr) (fun i _ => l.length - (intOf i).toNat)
  case atStart => exact ⟨0, by omega, rfl, by simp [Hid], Frm.refl _ _⟩
  case round =>
    obtain ⟨k, hk, rfl, hsm, hF⟩ := hrel
    by_cases hlt : k < l.length
    · have hsm2 : (l[k]).key.size ≤ 30 → (l[k]).val.size ≤ 30 → Hid (∀ x ∈ l.take (k + 1), x.key.size ≤ 30 ∧ x.val.size ≤ 30) := by
        intro h h' x hx
        rw [List.take_add_one, List.getElem?_eq_getElem hlt] at hx
        rcases List.mem_append.1 hx with hx | hx
        · exact hsm.out x hx
        · simp at hx
          subst hx
          exact ⟨h, h'⟩
      obtain ⟨b, o, rfl, c0, c1, c2⟩ := HC.out k hlt
      have c0 := hF.cell c0 (fun h => h)
      have c1 := hF.cell c1 (fun h => h)
      have c2 := hF.cell c2 (fun h => h)
      generalize (l[k]).kind = kd at *
      generalize (l[k]).key = ky at *
      generalize (l[k]).val = vl at *
      have hF3 := hF.alloc (.cells #[.int .u8 kd, .string ky, .string vl] 53)
      by_cases h1 : 30 < ky.size
      · go_wp2
        go_ret
        exact ⟨false, rfl, (fun h => by cases h), hF3⟩
      by_cases h2 : 30 < vl.size
      · go_wp2
        go_ret
        exact ⟨false, rfl, (fun h => by cases h), hF3⟩
      have hsm3 := hsm2 (by omega) (by omega)
      clear hsm hsm2
      go_wp2
      go_roundw
      case rel => exact ⟨k + 1, by omega, by go_num, hsm3, hF3⟩
      case measure => simp [intOf]; omega
    · obtain rfl : k = l.length := by omega
      go_wp2
      go_ret
      refine ⟨true, rfl, fun _ => ⟨by omega, fun x hx => hsm.out x (by rw [List.take_length]; exact hx)⟩, hF⟩
end Lr
end Go.Proofs.Ythmhihmbciigdaa
