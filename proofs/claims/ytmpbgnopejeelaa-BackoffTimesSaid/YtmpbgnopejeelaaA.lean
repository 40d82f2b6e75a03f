/- Arrays by value as a row's arguments. -/
import Derived.Test.YtmpbgnopejeelaaR
import Derived.Test.YtmpbgnopejeelaaProg
namespace Go.Proofs.Ytmpbgnopejeelaa
open Go.RowKit Go.ChangeShapes Go.WideShapes
set_option linter.unusedVariables false
set_option linter.unusedSimpArgs false
set_option maxRecDepth 100000
/-! An array by value. -/
theorem open_arr {H : Type} {enc : TypeId × Value → H} {P : Program} {w : World} {base b0 : Nat} {r : Reach} {spare : Nat → Bool} {held : Bool} {n : Nat} {t e : TypeId} {v : Value} {d : DataW H} {p : List MemPlace}
    (ht : P.underlying t = some (.array n e)) (hv : Value.okWide P w r b0 t v) (h : DataW.Trod enc P w base spare held t v d p) :
    ∃ (cs : Array Value) (m : Nat) (xs : List (DataW H × List MemPlace)), v = .agg cs ∧ cs.size = P.cellsOf t ∧ (∀ i, i < n → DataW.trod enc P w base spare held m e ((cs.toList.drop (i * P.cellsOf e)).take (P.cellsOf e)) = xs[i]?) ∧ xs.length = n := by
  simp only [Value.okWide, ht] at hv
  obtain ⟨cs, rfl, h2, _⟩ := hv
  obtain ⟨fuel, hf⟩ := h
  obtain ⟨xs, m, _, _, _, hl, hx⟩ := DataW.trod_array ht hf
  exact ⟨cs, m, xs, rfl, h2, by simpa [Value.cells] using hx, hl⟩
theorem hcn3 : Try.prog.cellsOf 3 = 1 := by kernel_rfl
def arr2 (p : Int × Int) : Value := .agg #[.int .i64 p.1, .int .i64 p.2]
theorem open_arr2 {H : Type} {enc : TypeId × Value → H} {w : World} {base b0 : Nat} {r : Reach} {spare : Nat → Bool} {held : Bool} {v : Value} {d : DataW H} {p : List MemPlace}
    (hv : Value.okWide Try.prog w r b0 26 v) (h : DataW.Trod enc Try.prog w base spare held 26 v d p) : ∃ a : Int × Int, v = arr2 a ∧ ((Lit.int .i64 a.1).wf = true ∧ (Lit.int .i64 a.2).wf = true) := by
  obtain ⟨cs, m, xs, rfl, hs, hx, hl⟩ := open_arr Try.underlying26 hv h
  have hs2 : cs.toList.length = 2 := by rw [Array.length_toList, hs]; kernel_rfl
  obtain ⟨cs⟩ := cs
  simp only at hs2 hx
  match cs, hs2, xs, hl with
  | [c0, c1], _, [x0, x1], _ =>
    have h0 := hx 0 (by omega)
    have h1 := hx 1 (by omega)
    simp [hcn3] at h0 h1
    obtain ⟨a, e0, _, wa⟩ := DataW.trod_int Try.underlying3 h0
    obtain ⟨b, e1, _, wb⟩ := DataW.trod_int Try.underlying3 h1
    simp at e0 e1
    subst e0 e1
    exact ⟨(a, b), rfl, wa, wb⟩
def arr3 (p : Int × Int × Int) : Value := .agg #[.int .i64 p.1, .int .i64 p.2.1, .int .i64 p.2.2]
theorem open_arr3 {H : Type} {enc : TypeId × Value → H} {w : World} {base b0 : Nat} {r : Reach} {spare : Nat → Bool} {held : Bool} {v : Value} {d : DataW H} {p : List MemPlace}
    (hv : Value.okWide Try.prog w r b0 60 v) (h : DataW.Trod enc Try.prog w base spare held 60 v d p) : ∃ a : Int × Int × Int, v = arr3 a ∧ ((Lit.int .i64 a.1).wf = true ∧ (Lit.int .i64 a.2.1).wf = true ∧ (Lit.int .i64 a.2.2).wf = true) := by
  obtain ⟨cs, m, xs, rfl, hs, hx, hl⟩ := open_arr Try.underlying60 hv h
  have hs2 : cs.toList.length = 3 := by rw [Array.length_toList, hs]; kernel_rfl
  obtain ⟨cs⟩ := cs
  simp only at hs2 hx
  match cs, hs2, xs, hl with
  | [c0, c1, c2], _, [x0, x1, x2], _ =>
    have h0 := hx 0 (by omega)
    have h1 := hx 1 (by omega)
    have h2 := hx 2 (by omega)
    simp [hcn3] at h0 h1 h2
    obtain ⟨a, e0, _, wa⟩ := DataW.trod_int Try.underlying3 h0
    obtain ⟨b, e1, _, wb⟩ := DataW.trod_int Try.underlying3 h1
    obtain ⟨c, e2, _, wc⟩ := DataW.trod_int Try.underlying3 h2
    simp at e0 e1 e2
    subst e0 e1 e2
    exact ⟨(a, b, c), rfl, wa, wb, wc⟩
end Go.Proofs.Ytmpbgnopejeelaa
