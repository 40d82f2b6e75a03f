/- The cache's reference: Most, Find, Drop. -/
import Derived.Test.YthmhihmbciigdaaLrh
import Derived.Test.YthmhihmbciigdaaS
namespace Go.Proofs.Ythmhihmbciigdaa
open Go.RowKit Go.Maps
set_option linter.unusedVariables false
set_option linter.unusedSimpArgs false
set_option maxRecDepth 100000
namespace Lr
def pc (x : ByteArray × ByteArray) : List Value := [.string x.1, .string x.2]
theorem pc_len (x : ByteArray × ByteArray) : (pc x).length = 2 := rfl
def Pr (w : World) (base : Nat) (v : Value) (l : PP) : Prop := w.ownsRow base 56 2 v l.length (l.flatMap pc)
theorem Epr : Elt Try.prog 51 56 (.agg #[.string ⟨#[]⟩, .string ⟨#[]⟩]) 2 32 := Elt.mk' Try.underlying51 (by kernel_rfl) rfl (by omega)
theorem iPr : (Try.prog.info? 56).map (·.size) = some 2 := by kernel_rfl
theorem pc_one (x : ByteArray × ByteArray) : ∀ u ∈ pc x, u.oneCell' = true := by
  intro u hu
  unfold pc at hu
  simp at hu
  rcases hu with rfl | rfl <;> rfl
theorem pcs_one (l : PP) : ∀ u ∈ l.flatMap pc, u.oneCell' = true := by
  intro u hu
  obtain ⟨x, _, hx⟩ := List.mem_flatMap.1 hu
  exact pc_one x u hx
section
variable {w w1 : World} {v : Value} {b : Nat} {l p q : PP} {k : ByteArray} {x : ByteArray × ByteArray} {S : Nat → Prop}
theorem Pr.form (h : Pr w b v l) : ∃ A c, v = .slice A l.length c := (Sl.of_own h).form
theorem Pr.at_ (h : Pr w b v (p ++ x :: q)) : ∃ g c, v = .slice (some ⟨g, 0, none⟩) (p ++ x :: q).length c ∧ w.cell? ⟨g, p.length * 2, none⟩ = some (.string x.1) ∧ w.cell? ⟨g, p.length * 2 + 1, none⟩ = some (.string x.2) := by
  have hx : (p ++ x :: q)[p.length]? = some x := by simp
  have hl : (p ++ x :: q).length = (p ++ q).length + 1 := by simp; omega
  unfold Pr at h
  have h0 := flat_at' pc 2 pc_len (p ++ x :: q) p.length 0 x hx (by omega)
  have h1 := flat_at' pc 2 pc_len (p ++ x :: q) p.length 1 x hx (by omega)
  rw [hl] at h ⊢
  obtain ⟨g, c, rfl⟩ := owns_form h
  have hp : p.length * 2 + 1 < ((p ++ q).length + 1) * 2 := by simp; omega
  refine ⟨g, c, rfl, ?_, ?_⟩
  · rw [h.cellAt (p.length * 2) (by omega)]; exact h0
  · rw [h.cellAt (p.length * 2 + 1) hp]; exact h1
theorem Pr.frm0 (h : Pr w b v l) (hf : Frm0 w w1) : Pr w1 b v l := owns_frm0 h hf
theorem most_any (n : Int) (w : World) : Calls Try.prog 36 #[.int .i64 n] w fun e w' => e = .returned (.int .i64 (mostI n)) ∧ w = w' := by
  unfold mostI bring
  by_cases h1 : n < 1
  · go_enter Try.func36, Try.ntmps36
    go_wp2
    go_ret
    exact ⟨ret_int (by omega), rfl⟩
  · by_cases h2 : 100 < n
    · go_enter Try.func36, Try.ntmps36
      go_wp2
      go_ret
      exact ⟨ret_int (by omega), rfl⟩
    · go_enter Try.func36, Try.ntmps36
      go_wp2
      go_ret
      exact ⟨ret_int (by omega), rfl⟩
theorem rfind_any (h : Pr w b v l) (hl : l.length ≤ 1000) : Calls Try.prog 26 #[v, .string k] w fun e w' => w = w' ∧
    ((∃ p x q, l = p ++ x :: q ∧ x.1 = k ∧ e = .returned (.int .i64 p.length)) ∨ ((∀ y ∈ l, y.1 ≠ k) ∧ e = .returned (.int .i64 (-1)))) := by
  have HH := Lib.hid h
  obtain ⟨A, c, rfl⟩ := h.form
  clear h
  go_enter Try.func26, Try.ntmps26
  go_wp2
  go_loopw [5] (fun i wr => ∃ (p q : PP), l = p ++ q ∧ i = .int .i64 p.length ∧ (∀ y ∈ p, y.1 ≠ k) ∧ w = wr) (fun i _ => l.length - (intOf i).toNat)
  case atStart => exact ⟨[], l, rfl, rfl, fun _ h => by simp at h, rfl⟩
  case round =>
    obtain ⟨p, q, hl2, rfl, hp, rfl⟩ := hrel
    have HP := Lib.hid hp
    clear hp
    have hlen : l.length = p.length + q.length := by rw [hl2, List.length_append]
    cases q with
    | nil =>
      have hlen : l.length = p.length := hlen
      go_wp2
      go_ret
      exact ⟨rfl, .inr ⟨by rw [hl2, List.append_nil]; exact HP.out, rfl⟩⟩
    | cons x q =>
      rw [List.length_cons] at hlen
      have hat := HH.out
      rw [hl2] at hat
      obtain ⟨g, c', e, c0, c1⟩ := hat.at_
      rw [← hl2] at e
      cases e
      clear hat
      by_cases hx : x.1 = k
      · have d1 := str_eq hx
        go_wp2
        go_ret
        exact ⟨rfl, .inl ⟨p, x, q, hl2, hx, rfl⟩⟩
      · have d1 := str_ne hx
        go_wp2
        go_roundw
        case rel =>
          refine ⟨p ++ [x], q, ?_, ?_, ?_, ?_⟩
          · simp [hl2]
          · apply congrArg (Value.int .i64)
            rw [List.length_append]
            simp
          · intro y hy
            rcases List.mem_append.1 hy with hy | hy
            · exact HP.out y hy
            · rw [List.mem_singleton.1 hy]; exact hx
          · trivial
        case measure => simp [intOf]; omega
end
end Lr
end Go.Proofs.Ythmhihmbciigdaa
