/- The law's own words of frame: same, whole, awake. -/
import Derived.Test.YthmhihmbciigdaaFre
namespace Go.Proofs.Ythmhihmbciigdaa
open Go.RowKit
set_option linter.unusedVariables false
set_option linter.unusedSimpArgs false

theorem same_any (xs ys : List ByteArray) (v u : Value) (w : World) (hx : Sl w v xs.length (strs xs)) (hy : Sl w u ys.length (strs ys)) :
    Calls Try.prog 18 #[v, u] w fun e w' => e = .returned (.bool (decide (xs = ys))) ∧ Frm0 w w' := by
  have hlx := hx.len
  have hly := hy.len
  by_cases hl : xs.length = ys.length
  · rcases hx with ⟨A, c, rfl, hn, _⟩ | ⟨b, o, c, rfl, h0, h1, h2, _, hc⟩
    · obtain ⟨B, d, rfl⟩ := hy.form
      have e1 : xs = [] := List.eq_nil_of_length_eq_zero hn
      have e2 : ys = [] := List.eq_nil_of_length_eq_zero (hl ▸ hn)
      subst e1 e2
      go_enter Try.func18, Try.ntmps18
      go_wp2
      go_rounds 1
      go_ret
      exact ⟨rfl, Frm.refl _ _⟩
    · rcases hy with ⟨B, d, rfl, hn, _⟩ | ⟨b', o', d, rfl, h0', h1', h2', _, hd⟩
      · omega
      · have hcx : ∀ k (hk : k < xs.length), w.cell? ⟨b, o + k, none⟩ = some (.string xs[k]) := fun k hk => hc k _ (strs_at xs k hk)
        have hcy : ∀ k (hk : k < xs.length), w.cell? ⟨b', o' + k, none⟩ = some (.string (ys[k]'(hl ▸ hk))) := fun k hk => hd k _ (strs_at ys k (hl ▸ hk))
        have HX := Lib.hid hcx
        have HY := Lib.hid hcy
        clear hcx hcy hc hd h1 h2 h1' h2'
        have hle : (xs.length : Int) = (ys.length : Int) := by omega
        go_enter Try.func18, Try.ntmps18
        go_wp2
        go_loopw [13] (fun i wr => ∃ (k : Nat), k ≤ xs.length ∧ i = .int .i64 k ∧ Hid (xs.take k = ys.take k) ∧ Frm0 w wr) (fun i _ => xs.length - (intOf i).toNat)
        case atStart => exact ⟨0, Nat.zero_le _, rfl, by simp [Hid], Frm.refl _ _⟩
        case round =>
          obtain ⟨k, hk, rfl, hh, hF⟩ := hrel
          by_cases hlt : k < xs.length
          · have hlt' : k < ys.length := by omega
            have hi1 : (k : Int) < (xs.length : Int) := by omega
            have hi2 : (k : Int) < (ys.length : Int) := by omega
            have c1 := hF.cell (HX.out k hlt) (fun h => h)
            have c2 := hF.cell (HY.out k hlt) (fun h => h)
            have htk := Lib.hid (List.take_append_getElem hlt)
            have htk' := Lib.hid (List.take_append_getElem hlt')
            have hne : xs[k] ≠ ys[k] → xs ≠ ys := fun h e => h (by subst e; rfl)
            have HNE := Lib.hid hne
            clear hne
            generalize xs[k] = x at *
            generalize ys[k] = y at *
            by_cases hxy : x = y
            · subst hxy
              go_wp2_with fail
              go_quiet (fail)
              go_wp2
              go_roundw
              case rel =>
                refine ⟨k + 1, by omega, by go_num, ?_, hF.drewN _⟩
                unfold Hid at hh ⊢
                rw [← htk.out, ← htk'.out, hh]
              case measure => simp [intOf]; omega
            · have hb := str_ne hxy
              go_wp2_with fail
              go_quiet (fail)
              go_wp2
              go_ret
              exact ⟨ret_bool (by rw [decide_eq_false (HNE.out hxy)]), hF.drewN _⟩
          · obtain rfl : k = xs.length := by omega
            have heq : xs = ys := by
              unfold Hid at hh
              rwa [List.take_of_length_le (Nat.le_refl _), List.take_of_length_le (by omega)] at hh
            have HE := Lib.hid heq
            clear heq
            go_wp2
            go_ret
            exact ⟨ret_bool (by rw [decide_eq_true HE.out]), hF⟩
  · obtain ⟨A, c, rfl⟩ := hx.form
    obtain ⟨B, d, rfl⟩ := hy.form
    have hne : xs ≠ ys := fun e => hl (by rw [e])
    have HNE := Lib.hid hne
    clear hne
    have hli : ¬ (xs.length : Int) = (ys.length : Int) := by omega
    go_enter Try.func18, Try.ntmps18
    go_wp2
    go_ret
    exact ⟨ret_bool (by rw [decide_eq_false HNE.out]), Frm.refl _ _⟩
theorem same_to {xs ys : List ByteArray} {v u : Value} {n m : Nat} {w : World} {r : Bool} (hx : Sl w v n (strs xs)) (hn : n = xs.length) (hy : Sl w u m (strs ys)) (hm : m = ys.length) (hr : decide (xs = ys) = r) :
    Calls Try.prog 18 #[v, u] w fun e w' => e = .returned (.bool r) ∧ Frm0 w w' := by
  subst hn hm hr
  exact same_any xs ys v u w hx hy
end Go.Proofs.Ythmhihmbciigdaa
