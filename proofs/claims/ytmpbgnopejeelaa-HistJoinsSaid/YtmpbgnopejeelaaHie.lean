/- A histogram: contract of At; awake; the walks of HistCells and HistOrder. -/
import Derived.Test.YtmpbgnopejeelaaHid
import Derived.Test.YtmpbgnopejeelaaM
namespace Go.Proofs.Ytmpbgnopejeelaa
open Go.RowKit
set_option linter.unusedVariables false
set_option linter.unusedSimpArgs false

namespace Hs
/-- How many are in so many cells, from one on. -/
def sumN (q : Nat → Nat) : Nat → Nat → Nat
  | 0, _ => 0
  | f + 1, c => q c + sumN q f (c + 1)
/-- In which cell the one at a place is. -/
def plc (q : Nat → Nat) : Nat → Nat → Nat → Nat
  | 0, c, _ => c
  | f + 1, c, left => if q c ≤ left then plc q f (c + 1) (left - q c) else c
/-- The place of a part of so many. -/
def leftN (n : Nat) (part of_ : Int) : Nat := min (n * (bring part 0 (bring of_ 1 10000)).toNat / (bring of_ 1 10000).toNat) (n - 1)
theorem sum_le (q : Nat → Nat) : ∀ f c k, c ≤ k → k < c + f → q k ≤ sumN q f c
  | 0, c, k, h1, h2 => by omega
  | f + 1, c, k, h1, h2 => by
    show q k ≤ q c + sumN q f (c + 1)
    by_cases e : k = c
    · subst e; omega
    · have := sum_le q f (c + 1) k (by omega) (by omega)
      omega
theorem plc_lt (q : Nat → Nat) : ∀ f c left, left < sumN q f c → plc q f c left < c + f
  | 0, c, left, h => absurd h (Nat.not_lt_zero _)
  | f + 1, c, left, h => by
    unfold plc
    split
    · have : left < q c + sumN q f (c + 1) := h
      have := plc_lt q f (c + 1) (left - q c) (by omega)
      omega
    · omega

set_option maxHeartbeats 2000000 in
theorem at_none (part of_ : Int) (hb : Nat) (q : Nat → Nat) (w : World) (h : At w hb q 0) :
    Calls Try.prog 25 #[.pointer (some ⟨hb, 0, none⟩), .int .i64 part, .int .i64 of_] w fun e w' => e = .returned (.tuple #[.int .i64 0, .int .i64 0, .bool false]) ∧ Frm0 w w' := by
  go_enter Try.func25, Try.ntmps25
  go_wp2_with fail
  refine (count_any hb q 0 _ h).mono ?_
  rintro e w' ⟨rfl, rfl⟩
  go_wp2
  go_ret3
  exact ⟨rfl, Frm.refl _ _⟩
set_option maxHeartbeats 2000000 in
set_option maxRecDepth 10000 in
theorem at_some (part of_ : Int) (hb : Nat) (q : Nat → Nat) (n : Nat) (w : World) (h : At w hb q n) (hn0 : 0 < n) (hn : n ≤ 10000) (hs : sumN q 305 0 = n) :
    Calls Try.prog 25 #[.pointer (some ⟨hb, 0, none⟩), .int .i64 part, .int .i64 of_] w fun e w' => e = .returned (.tuple #[.int .i64 (leastN (plc q 305 0 (leftN n part of_))), .int .i64 (mostN (plc q 305 0 (leftN n part of_))), .bool true]) ∧ Frm0 w w' := by
  have hpl := plc_lt q 305 0 (leftN n part of_) (by rw [hs]; unfold leftN; omega)
  have hlt0 : leftN n part of_ < n := by unfold leftN; omega
  have hbo := bring_bd of_ (show (1 : Int) ≤ 10000 by omega)
  obtain ⟨X, hX⟩ : ∃ X, (if of_ < 1 then (1 : Int) else of_) = X := ⟨_, rfl⟩
  have hc := clamp_is of_ 1 10000 (by omega)
  rw [hX] at hc
  have m1 := max_is of_ 1 X hX
  have m2 := min_is X 10000 _ hc
  unfold leftN at *
  generalize bring of_ 1 10000 = o at *
  have hbp := bring_bd part (show (0 : Int) ≤ o by omega)
  obtain ⟨Y, hY⟩ : ∃ Y, (if part < 0 then (0 : Int) else part) = Y := ⟨_, rfl⟩
  have hd := clamp_is part 0 o (by omega)
  rw [hY] at hd
  have m3 := max_is part 0 Y hY
  have m4 := min_is Y o _ hd
  generalize bring part 0 o = p at *
  obtain ⟨O, rfl⟩ := Int.eq_ofNat_of_zero_le (show 0 ≤ o by omega)
  obtain ⟨P, rfl⟩ := Int.eq_ofNat_of_zero_le hbp.1
  simp only [Int.toNat_natCast] at *
  clear hX hY hc hd
  have hP : P ≤ 10000 := by omega
  have hnp : n * P ≤ 100000000 := Nat.mul_le_mul hn hP
  obtain ⟨Z, hZ⟩ : ∃ Z, n * P = Z := ⟨_, rfl⟩
  have hZi : IntKind.i64.wrap ((n : Int) * (P : Int)) = (Z : Int) := by
    rw [show (n : Int) * (P : Int) = (Z : Int) by rw [← hZ]; simp]
    exact IntWalk.i64_in _ (by omega)
  rw [hZ] at hnp hpl hlt0 ⊢
  obtain ⟨L, hL⟩ : ∃ L, min (Z / O) (n - 1) = L := ⟨_, rfl⟩
  have hOz : ((O : Int) == 0) = false := by rw [beq_eq_false_iff_ne]; omega
  obtain ⟨D, hD⟩ : ∃ D, Z / O = D := ⟨_, rfl⟩
  have hDi : (Z : Int) / (O : Int) = (D : Int) := by rw [← hD]; simp
  have m5 := min_is (D : Int) ((n : Int) - 1) (L : Int) (by rw [← hL, hD]; split <;> omega)
  rw [hL] at hpl hlt0 ⊢
  have hDle : D ≤ Z := by rw [← hD]; exact Nat.div_le_self _ _
  have HS := Lib.hid (show L < sumN q 305 0 by rw [hs]; exact hlt0)
  obtain ⟨R, hR⟩ : ∃ R, plc q 305 0 L = R := ⟨_, rfl⟩
  have HR := Lib.hid hR
  rw [hR] at hpl ⊢
  have hql : ∀ c, c < 305 → q c ≤ n := fun c hc => by
    rw [← hs]
    exact sum_le q 305 0 c (by omega) (by omega)
  have HQ := Lib.hid hql
  have HH := Lib.hid h
  have ca := h.all
  have nz : ((n : Int) == 0) = false := by rw [beq_eq_false_iff_ne]; omega
  have HLe := Lib.hid (hleast_any (R : Int))
  have HMo := Lib.hid (hmost_any (R : Int))
  rw [show leastI (R : Int) = leastN R by unfold leastI; rw [bring_id (by omega) (by omega)]; simp] at HLe
  rw [show mostI (R : Int) = mostN R by unfold mostI; rw [bring_id (by omega) (by omega)]; simp] at HMo
  clear hZ hL hD hs hR hql
  go_enter Try.func25, Try.ntmps25
  go_wp2_with fail
  refine (count_any hb q n _ h).mono ?_
  rintro e w' ⟨rfl, rfl⟩
  clear h
  go_wp2_with fail
  go_quiet (fail)
  go_wp2_with fail
  go_loopw [9, 10] (fun l c wr => ∃ (k x : Nat), k ≤ 305 ∧ c = .int .i64 k ∧ l = .int .i64 x ∧ Hid (x < sumN q (305 - k) k) ∧ Hid (plc q (305 - k) k x = R) ∧ x ≤ n ∧ Frm0 w wr) (fun _ c _ => 305 - (intOf c).toNat)
  case atStart => exact ⟨0, L, by omega, rfl, rfl, HS.out, HR.out, by omega, (Frm.refl _ _).drewN _⟩
  case round =>
    obtain ⟨k, x, hk, rfl, rfl, hx, hpq, hxn, hF⟩ := hrel
    have hk5 : k < 305 := by
      rcases Nat.lt_or_ge k 305 with h | h
      · exact h
      · obtain rfl : k = 305 := by omega
        exact absurd hx.out (Nat.not_lt_zero _)
    obtain ⟨f, hf⟩ : ∃ f, 305 - k = f + 1 := ⟨304 - k, by omega⟩
    rw [hf] at hx hpq
    have c0 := hF.cell (HH.out.cell k hk5) (fun h => h)
    have hqk := HQ.out k hk5
    have e305 : 305 - (k + 1) = f := by omega
    have hki : (k : Int) < 305 := by omega
    by_cases hge : q k ≤ x
    · have hx' : x < q k + sumN q f (k + 1) := hx.out
      have hp' : plc q f (k + 1) (x - q k) = R := by
        have := hpq.out
        unfold plc at this
        rwa [if_pos hge] at this
      have HX := Lib.hid (show x - q k < sumN q f (k + 1) by omega)
      have HP := Lib.hid hp'
      clear hx' hp' hx hpq hf
      generalize q k = m at *
      have hd : decide ((m : Int) ≤ (x : Int)) = true := decide_eq_true (by omega)
      go_wp2
      go_roundw
      case rel => exact ⟨k + 1, x - m, by omega, by go_num, by go_num, by rw [e305]; exact HX.out, by rw [e305]; exact HP.out, by omega, hF⟩
      case measure => simp [intOf]; omega
    · have hRk : k = R := by
        have := hpq.out
        unfold plc at this
        rwa [if_neg hge] at this
      subst hRk
      clear hx hpq hf
      generalize q k = m at *
      have hd : decide ((m : Int) ≤ (x : Int)) = false := decide_eq_false (by omega)
      go_wp2_with fail
      refine (HLe.out _).mono ?_
      rintro e w' ⟨rfl, rfl⟩
      go_wp2_with fail
      refine (HMo.out _).mono ?_
      rintro e w' ⟨rfl, rfl⟩
      go_wp2
      go_ret3
      exact ⟨rfl, hF⟩
end Hs
end Go.Proofs.Ytmpbgnopejeelaa
