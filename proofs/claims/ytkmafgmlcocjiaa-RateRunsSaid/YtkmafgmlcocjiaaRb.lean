/- Rate's laws: nil rates, awake, how an array and a deed parse; and the plain law of After. -/
import Derived.Test.YtkmafgmlcocjiaaRa
import Derived.Test.YtkmafgmlcocjiaaR
namespace Go.Proofs.Ytkmafgmlcocjiaa
open Go.RowKit Go.ChangeShapes Go.WideShapes Rt
set_option linter.unusedVariables false
set_option linter.unusedSimpArgs false

theorem rleft_nil (t now : Int) (w : World) : Calls Try.prog 50 #[.pointer none, .int .i64 t, .int .i64 now] w fun e w' => e = .returned (.int .i64 0) ∧ w = w' := by
  go_enter Try.func50, Try.ntmps50
  go_wp2_with (go_at_call 57; refine (rhas_nil _ _).mono ?_; rintro e w' ⟨rfl, rfl⟩)
  go_ret
  exact ⟨rfl, rfl⟩
theorem rtake_nil (t now n : Int) (w : World) : Calls Try.prog 48 #[.pointer none, .int .i64 t, .int .i64 now, .int .i64 n] w fun e w' => e = .returned (.int .i64 1) ∧ w = w' := by
  go_enter Try.func48, Try.ntmps48
  go_wp2_with (go_at_call 57; refine (rhas_nil _ _).mono ?_; rintro e w' ⟨rfl, rfl⟩)
  go_ret
  exact ⟨rfl, rfl⟩
theorem rafter_nil (t now n : Int) (w : World) : Calls Try.prog 46 #[.pointer none, .int .i64 t, .int .i64 now, .int .i64 n] w fun e w' => e = .returned (.int .i64 (-1)) ∧ w = w' := by
  go_enter Try.func46, Try.ntmps46
  go_wp2_with (go_at_call 57; refine (rhas_nil _ _).mono ?_; rintro e w' ⟨rfl, rfl⟩)
  go_ret
  exact ⟨rfl, rfl⟩

theorem rtake_to {t now n : Int} {b : Nat} {each burst : Int} {ms ms' : List Mk} {r : Int} {w : World} (hq : Rt.At w b each burst ms) (h : Rt.take each burst ms t now n = (ms', r)) :
    Calls Try.prog 48 #[.pointer (some ⟨b, 0, none⟩), .int .i64 t, .int .i64 now, .int .i64 n] w fun e w' => e = .returned (.int .i64 r) ∧ Rt.At w' b each burst ms' ∧ Frm (fun k => k = b) w w' := by
  have := rtake_any t now n b each burst ms w hq
  rw [h] at this
  exact this
theorem rleft_to {t now : Int} {b : Nat} {each burst : Int} {ms : List Mk} {r : Int} {w : World} (hq : Rt.At w b each burst ms) (h : Rt.left each burst ms t now = r) :
    Calls Try.prog 50 #[.pointer (some ⟨b, 0, none⟩), .int .i64 t, .int .i64 now] w fun e w' => e = .returned (.int .i64 r) ∧ Frm0 w w' := by
  have := rleft_any t now b each burst ms w hq
  rw [h] at this
  exact this
theorem rafter_to {t now n : Int} {b : Nat} {each burst : Int} {ms : List Mk} {r : Int} {w : World} (hq : Rt.At w b each burst ms) (hwf : (Lit.int .i64 n).wf = true) (h : Rt.after each burst ms t now n = r) :
    Calls Try.prog 46 #[.pointer (some ⟨b, 0, none⟩), .int .i64 t, .int .i64 now, .int .i64 n] w fun e w' => e = .returned (.int .i64 r) ∧ Frm0 w w' := by
  have := rafter_any t now n b each burst ms w hq hwf
  rw [h] at this
  exact this

theorem rawake (w : World) : Calls Try.prog 43 #[] w fun e w' => e = .returned (.bool true) ∧ Frm0 w w' := by
  go_enter Try.func43, Try.ntmps43
  go_wp2_with fail
  refine (rnew_any 1 2 _).mono ?_
  rintro e w1 ⟨rfl, hq1, hf1⟩
  rw [show bring 1 0 1000 = 1 by decide, show bring 2 1 1000 = 2 by decide] at hq1
  have hz : w.heap.size ≤ w.heap.size := Nat.le_refl _
  generalize hb : w.heap.size = b at hq1 hz ⊢
  go_wp2_with fail
  refine (rtake_to hq1 (ms' := [(0, 0), (0, 2), (0, 2), (0, 2)]) (r := 0) (by decide)).mono ?_
  rintro e w2 ⟨rfl, hq2, hf2⟩
  go_wp2_with fail
  refine (rtake_to hq2 (ms' := [(0, 0), (0, 2), (0, 2), (0, 2)]) (r := 2) (by decide)).mono ?_
  rintro e w3 ⟨rfl, hq3, hf3⟩
  go_wp2_with fail
  refine (rafter_to hq3 (r := 1) (by decide) (by decide)).mono ?_
  rintro e w4 ⟨rfl, hf4⟩
  have hq4 := hq3.frm hf4 (fun h => h)
  go_wp2_with fail
  refine (rtake_to hq4 (ms' := [(1, 0), (0, 2), (0, 2), (0, 2)]) (r := 0) (by decide)).mono ?_
  rintro e w5 ⟨rfl, hq5, hf5⟩
  go_wp2_with fail
  refine (rleft_to hq5 (r := 2) (by decide)).mono ?_
  rintro e w6 ⟨rfl, hf6⟩
  go_wp2
  go_ret
  have hlt : ∀ i, i < w.heap.size → i = b → False := fun i hi h => by omega
  exact ⟨rfl, ((((hf1.then_ hf2 hlt).then_ hf3 hlt).trans hf4).then_ hf5 hlt).trans hf6⟩

/-! An array by value. -/
theorem open_arr {H : Type} {enc : TypeId × Value → H} {P : Program} {w : World} {base b0 : Nat} {r : Reach} {spare : Nat → Bool} {held : Bool} {n : Nat} {t e : TypeId} {v : Value} {d : DataW H} {p : List MemPlace}
    (ht : P.underlying t = some (.array n e)) (hv : Value.okWide P w r b0 t v) (h : DataW.Trod enc P w base spare held t v d p) :
    ∃ (cs : Array Value) (m : Nat) (xs : List (DataW H × List MemPlace)), v = .agg cs ∧ cs.size = P.cellsOf t ∧ (∀ i, i < n → DataW.trod enc P w base spare held m e ((cs.toList.drop (i * P.cellsOf e)).take (P.cellsOf e)) = xs[i]?) ∧ xs.length = n := by
  simp only [Value.okWide, ht] at hv
  obtain ⟨cs, rfl, h2, _⟩ := hv
  obtain ⟨fuel, hf⟩ := h
  obtain ⟨xs, m, _, _, _, hl, hx⟩ := DataW.trod_array ht hf
  exact ⟨cs, m, xs, rfl, h2, by simpa [Value.cells] using hx, hl⟩
theorem hcn3 : Try.prog.cellsOf 3 = 1 := by kernel_rfl
def arr2 (p : Int × Int) : Value := .agg #[.int .i64 p.1, .int .i64 p.2]
def arr3 (p : Int × Int × Int) : Value := .agg #[.int .i64 p.1, .int .i64 p.2.1, .int .i64 p.2.2]
theorem open_arr2 {H : Type} {enc : TypeId × Value → H} {w : World} {base b0 : Nat} {r : Reach} {spare : Nat → Bool} {held : Bool} {v : Value} {d : DataW H} {p : List MemPlace}
    (hv : Value.okWide Try.prog w r b0 62 v) (h : DataW.Trod enc Try.prog w base spare held 62 v d p) : ∃ a : Int × Int, v = arr2 a ∧ ((Lit.int .i64 a.1).wf = true ∧ (Lit.int .i64 a.2).wf = true) := by
  obtain ⟨cs, m, xs, rfl, hs, hx, hl⟩ := open_arr Try.underlying62 hv h
  have hs2 : cs.toList.length = 2 := by rw [Array.length_toList, hs]; kernel_rfl
  obtain ⟨cs⟩ := cs
  simp only at hs2 hx
  match cs, hs2, xs, hl with
  | [c0, c1], _, [x0, x1], _ =>
    have h0 := hx 0 (by omega)
    have h1 := hx 1 (by omega)
    simp [hcn3] at h0 h1
    obtain ⟨a, e0, _, wa⟩ := DataW.trod_int Try.underlying3 h0
    obtain ⟨b, e1, _, wb⟩ := DataW.trod_int Try.underlying3 h1
    simp at e0 e1
    subst e0 e1
    exact ⟨(a, b), rfl, wa, wb⟩
theorem open_arr3 {H : Type} {enc : TypeId × Value → H} {w : World} {base b0 : Nat} {r : Reach} {spare : Nat → Bool} {held : Bool} {v : Value} {d : DataW H} {p : List MemPlace}
    (hv : Value.okWide Try.prog w r b0 64 v) (h : DataW.Trod enc Try.prog w base spare held 64 v d p) : ∃ a : Int × Int × Int, v = arr3 a ∧ ((Lit.int .i64 a.1).wf = true ∧ (Lit.int .i64 a.2.1).wf = true ∧ (Lit.int .i64 a.2.2).wf = true) := by
  obtain ⟨cs, m, xs, rfl, hs, hx, hl⟩ := open_arr Try.underlying64 hv h
  have hs2 : cs.toList.length = 3 := by rw [Array.length_toList, hs]; kernel_rfl
  obtain ⟨cs⟩ := cs
  simp only at hs2 hx
  match cs, hs2, xs, hl with
  | [c0, c1, c2], _, [x0, x1, x2], _ =>
    have h0 := hx 0 (by omega)
    have h1 := hx 1 (by omega)
    have h2 := hx 2 (by omega)
    simp [hcn3] at h0 h1 h2
    obtain ⟨a, e0, _, wa⟩ := DataW.trod_int Try.underlying3 h0
    obtain ⟨b, e1, _, wb⟩ := DataW.trod_int Try.underlying3 h1
    obtain ⟨c, e2, _, wc⟩ := DataW.trod_int Try.underlying3 h2
    simp at e0 e1 e2
    subst e0 e1 e2
    exact ⟨(a, b, c), rfl, wa, wb, wc⟩
def rdeed (p : Int × Int × Int) : List Value := [.int .i64 p.1, .int .i64 p.2.1, .int .i64 p.2.2]
theorem rdeed_len (a : Int × Int × Int) : (rdeed a).length = 3 := rfl
abbrev RdGood (a : Int × Int × Int) : Prop := (Lit.int .i64 a.1).wf = true ∧ (Lit.int .i64 a.2.1).wf = true ∧ (Lit.int .i64 a.2.2).wf = true
theorem parse_rdeed : Try.prog.cellsOf 70 = 3 ∧ ∀ {H : Type} {enc : TypeId × Value → H} {w : World} {base : Nat} {spare : Nat → Bool} {held : Bool} n cs x, cs.length = 3 → DataW.trod enc Try.prog w base spare held n 70 cs = some x →
    ∃ a : Int × Int × Int, cs = rdeed a ∧ RdGood a := by
  refine ⟨by kernel_rfl, fun n cs x hl h => ?_⟩
  match cs, hl with
  | [c0, c1, c2], _ =>
    obtain ⟨xs, m, rfl, hx, _, hxl, hf⟩ := DataW.trod_struct Try.underlying70 h
    match xs, hxl with
    | [x0, x1, x2], _ =>
      have h0 := hf 0 _ rfl
      have h1 := hf 1 _ rfl
      have h2 := hf 2 _ rfl
      simp [hcn3] at h0 h1 h2
      obtain ⟨a, e0, _, wa⟩ := DataW.trod_int Try.underlying3 h0
      obtain ⟨b, e1, _, wb⟩ := DataW.trod_int Try.underlying3 h1
      obtain ⟨c, e2, _, wc⟩ := DataW.trod_int Try.underlying3 h2
      simp at e0 e1 e2
      subst e0 e1 e2
      exact ⟨(a, b, c), rfl, wa, wb, wc⟩
theorem rdeed_at {w : World} {b o : Nat} {l : List (Int × Int × Int)} (h : ∀ j u, (l.flatMap rdeed)[j]? = some u → w.cell? ⟨b, o + j, none⟩ = some u) (k : Nat) (hk : k < l.length) :
    w.cell? ⟨b, o + k * 3, none⟩ = some (.int .i64 (l[k]).1) ∧ w.cell? ⟨b, o + k * 3 + 1, none⟩ = some (.int .i64 (l[k]).2.1) ∧ w.cell? ⟨b, o + k * 3 + 2, none⟩ = some (.int .i64 (l[k]).2.2) := by
  have h0 := flat_at rdeed 3 rdeed_len l k 0 l[k] (List.getElem?_eq_getElem hk) (by omega)
  have h1 := flat_at rdeed 3 rdeed_len l k 1 l[k] (List.getElem?_eq_getElem hk) (by omega)
  have h2 := flat_at rdeed 3 rdeed_len l k 2 l[k] (List.getElem?_eq_getElem hk) (by omega)
  exact ⟨h _ _ h0, h _ _ h1, h _ _ h2⟩
end Go.Proofs.Ytkmafgmlcocjiaa
