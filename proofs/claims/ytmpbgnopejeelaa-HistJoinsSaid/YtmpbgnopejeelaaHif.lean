/- Histograms: awake, and the walks of HistCells and HistOrder. -/
import Derived.Test.YtmpbgnopejeelaaHie
namespace Go.Proofs.Ytmpbgnopejeelaa
open Go.RowKit
set_option linter.unusedVariables false
set_option linter.unusedSimpArgs false

namespace Hs
/-- What is counted of numbers. -/
def qOf (l : List Int) : Nat → Nat := l.foldl (fun q a => bump q (cellN (tm a).toNat)) (fun _ => 0)
theorem qOf_snoc (l : List Int) (a : Int) : qOf (l ++ [a]) = bump (qOf l) (cellN (tm a).toNat) := by simp [qOf]
theorem qOf_take (l : List Int) (k : Nat) (h : k < l.length) : qOf (l.take (k + 1)) = bump (qOf (l.take k)) (cellN (tm l[k]).toNat) := by rw [← List.take_append_getElem h, qOf_snoc]
theorem cellI_le (a : Int) : cellN (tm a).toNat ≤ 304 := by
  have := tm_bd a
  exact (cell_in (n := (tm a).toNat) (by omega)).1
theorem sum_zero : ∀ f c, sumN (fun _ => 0) f c = 0
  | 0, _ => rfl
  | f + 1, c => by
    show 0 + sumN (fun _ => 0) f (c + 1) = 0
    rw [sum_zero f (c + 1)]
theorem sum_bump (q : Nat → Nat) (c : Nat) : ∀ f k, sumN (bump q c) f k = sumN q f k + if k ≤ c ∧ c < k + f then 1 else 0
  | 0, k => by simp [sumN]
  | f + 1, k => by
    show bump q c k + sumN (bump q c) f (k + 1) = q k + sumN q f (k + 1) + _
    rw [sum_bump q c f (k + 1)]
    unfold bump
    by_cases e : k = c
    · subst e
      rw [if_pos rfl, if_neg (by omega), if_pos (by omega)]
      omega
    · rw [if_neg e]
      by_cases h : k ≤ c ∧ c < k + (f + 1)
      · rw [if_pos (by omega), if_pos h]; omega
      · rw [if_neg (by omega), if_neg h]; omega
theorem sum_qOf (l : List Int) : sumN (qOf l) 305 0 = l.length := by
  suffices ∀ (l : List Int) (q : Nat → Nat), sumN (l.foldl (fun q a => bump q (cellN (tm a).toNat)) q) 305 0 = sumN q 305 0 + l.length by
    rw [qOf, this]
    have := sum_zero 305 0
    omega
  intro l
  induction l with
  | nil => intro q; exact (Nat.add_zero _).symm
  | cons a l ih =>
    intro q
    have := cellI_le a
    rw [List.foldl_cons, ih, sum_bump, if_pos (by omega), List.length_cons]
    omega
theorem qOf_le (l : List Int) (c : Nat) : qOf l c ≤ l.length := by
  suffices ∀ (l : List Int) (q : Nat → Nat), l.foldl (fun q a => bump q (cellN (tm a).toNat)) q c ≤ q c + l.length by
    have := this l (fun _ => 0)
    unfold qOf
    omega
  intro l
  induction l with
  | nil => intro q; exact Nat.le_refl _
  | cons a l ih =>
    intro q
    have := ih (bump q (cellN (tm a).toNat))
    rw [List.foldl_cons, List.length_cons]
    have : bump q (cellN (tm a).toNat) c ≤ q c + 1 := by unfold bump; split <;> (try subst_vars) <;> omega
    omega
theorem add_to {a : Int} {hb : Nat} {q q' : Nat → Nat} {n : Nat} {w : World} (h : At w hb q n) (hn : n < 1000000) (hq : ∀ c, q c < 1000000) (hq' : bump q (cellN (tm a).toNat) = q') :
    Calls Try.prog 22 #[.pointer (some ⟨hb, 0, none⟩), .int .i64 a] w fun e w' => e = .returned (.tuple #[]) ∧ At w' hb q' (n + 1) ∧ Frm (fun k => k = hb) w w' := by
  subst hq'
  exact add_any a hb q n w h hn hq
theorem at_to {part of_ : Int} {hb : Nat} {q : Nat → Nat} {n lo hi : Nat} {w : World} (h : At w hb q n) (hn0 : 0 < n) (hn : n ≤ 10000) (hs : sumN q 305 0 = n) (hlo : leastN (plc q 305 0 (leftN n part of_)) = lo) (hhi : mostN (plc q 305 0 (leftN n part of_)) = hi) :
    Calls Try.prog 25 #[.pointer (some ⟨hb, 0, none⟩), .int .i64 part, .int .i64 of_] w fun e w' => e = .returned (.tuple #[.int .i64 lo, .int .i64 hi, .bool true]) ∧ Frm0 w w' := by
  subst hlo hhi
  exact at_some part of_ hb q n w h hn0 hn hs

def tri : List Int := [40, 3, 17]
set_option maxHeartbeats 1000000 in
theorem hawake (w : World) : Calls Try.prog 13 #[] w fun e w' => e = .returned (.bool true) ∧ Frm0 w w' := by
  have h1 : leastN (plc (qOf tri) 305 0 (leftN 3 1 2)) = 16 := by decide +kernel
  have h2 : mostN (plc (qOf tri) 305 0 (leftN 3 1 2)) = 17 := by decide +kernel
  have h3 : inI (qOf tri) 3 = 1 := by decide +kernel
  have h4 : cellN (tm 18).toNat = 17 := by decide +kernel
  have H1 := Lib.hid h1
  have H2 := Lib.hid h2
  have H3 := Lib.hid h3
  have H4 := Lib.hid h4
  clear h1 h2 h3 h4
  go_enter Try.func13, Try.ntmps13
  go_wp2_with fail
  refine (new_any _).mono ?_
  rintro e w1 ⟨rfl, hA, hf1⟩
  have hlt := hA.lt
  have hA2 := hA.frm0 ((Frm.refl (fun _ => False) w1).alloc (.cells #[.int .i64 40, .int .i64 3, .int .i64 17] 3))
  have hF2 := hf1.alloc (.cells #[.int .i64 40, .int .i64 3, .int .i64 17] 3)
  have hb2 := Bk.new w1 (.cells #[.int .i64 40, .int .i64 3, .int .i64 17] 3)
  go_wp2_with fail
  generalize w1.alloc (.cells #[.int .i64 40, .int .i64 3, .int .i64 17] 3) = w2 at *
  generalize w1.heap.size = g at *
  clear hA hf1
  have hcell : ∀ k (hk : k < tri.length), w2.cell? ⟨g, k, none⟩ = some (.int .i64 tri[k]) := by
    intro k hk
    rw [Bk.cell hb2]
    have : k = 0 ∨ k = 1 ∨ k = 2 := by simp [tri] at hk; omega
    rcases this with rfl | rfl | rfl <;> rfl
  have HC := Lib.hid hcell
  have hl3 : tri.length = 3 := rfl
  clear hcell hb2
  have hbw : w.heap.size ≤ w.heap.size := Nat.le_refl _
  generalize hhb : w.heap.size = hb at hA2 hlt ⊢
  have hgb : hb ≠ g := by omega
  go_loopw [10] (fun i wr => ∃ (k : Nat), k ≤ 3 ∧ i = .int .i64 k ∧ At wr hb (qOf (tri.take k)) k ∧ Frm (fun j => j = hb) w2 wr) (fun i _ => 3 - (intOf i).toNat)
  case atStart => exact ⟨0, by omega, rfl, hA2, Frm.refl _ _⟩
  case round =>
    clear hA2
    obtain ⟨k, hk, rfl, hA, hF⟩ := hrel
    by_cases hlt3 : k < 3
    · have c0 := hF.cell (HC.out k (by omega)) (fun e => hgb e.symm)
      have hq := Lib.hid (qOf_take tri k (by omega))
      have hql := fun c => qOf_le (tri.take k) c
      rw [List.length_take] at hql
      have hki : (k : Int) < 3 := by omega
      have hQL : Hid (∀ c, qOf (tri.take k) c < 1000000) := fun c => by have := hql c; omega
      clear hql
      have HA := Lib.hid (fun w (h : At w hb (qOf (tri.take k)) k) => add_to (w := w) h (by omega) hQL.out hq.out.symm)
      generalize tri[k] = a at *
      go_wp2_with fail
      refine (HA.out _ hA).mono ?_
      rintro e w3 ⟨rfl, h3, hf3⟩
      go_wp2_with fail
      go_roundw
      case rel => exact ⟨k + 1, by omega, by go_num, h3, hF.trans hf3⟩
      case measure => simp [intOf]; omega
    · obtain rfl : k = 3 := by omega
      have hA3 : At wr hb (qOf tri) 3 := hA
      go_wp2_with fail
      refine (at_to hA3 (by omega) (by omega) (sum_qOf tri) H1.out H2.out).mono ?_
      rintro e w3 ⟨rfl, hf3⟩
      have hA4 := hA3.frm0 hf3
      go_wp2_with fail
      refine (count_any hb _ 3 _ hA4).mono ?_
      rintro e w4 ⟨rfl, rfl⟩
      have HI := Lib.hid (in_any 3 hb _ 3 w3 hA4)
      rw [H3.out] at HI
      go_wp2_with fail
      refine HI.out.mono ?_
      rintro e w4 ⟨rfl, rfl⟩
      have HI2 := Lib.hid (hcell_any 18 w3)
      rw [H4.out] at HI2
      go_wp2_with fail
      refine HI2.out.mono ?_
      rintro e w4 ⟨rfl, rfl⟩
      go_wp2
      go_ret
      exact ⟨rfl, (hF2.then_ hF (fun i hi e => by omega)).trans hf3⟩

set_option maxHeartbeats 1000000 in
theorem cells_walk (n cell : Int) (w : World) : Calls Try.prog 3 #[.int .i64 n, .int .i64 cell] w fun e w' => e = .returned (.bool true) ∧ Below w.heap.size w w' := by
  have hb := tm_bd n
  have HC := Lib.hid (hcell_any n)
  have HT := Lib.hid (rtime_any n)
  have HR := Lib.hid (rcell_any n)
  obtain ⟨m, hm⟩ := Int.eq_ofNat_of_zero_le hb.1
  rw [hm] at HC HT HR hb
  simp only [Int.toNat_natCast] at HC HR
  obtain ⟨k1, k2, k3⟩ := cell_in (n := m) (by omega)
  have k4 := most_fine (cellN m) k1
  have HL1 := Lib.hid (hleast_any cell)
  have HL2 := Lib.hid (rleast_any cell)
  have HM1 := Lib.hid (hmost_any cell)
  have HM2 := Lib.hid (rmost_any cell)
  have HL3 := Lib.hid (hleast_any (cellN m : Nat))
  have HM3 := Lib.hid (hmost_any (cellN m : Nat))
  rw [show leastI (cellN m : Nat) = leastN (cellN m) by unfold leastI; rw [bring_id (by omega) (by omega)]; simp] at HL3
  rw [show mostI (cellN m : Nat) = mostN (cellN m) by unfold mostI; rw [bring_id (by omega) (by omega)]; simp] at HM3
  generalize leastN (cellN m) = LC at *
  generalize mostN (cellN m) = MC at *
  generalize cellN m = c at *
  generalize leastI cell = A at *
  generalize mostI cell = B at *
  have d1 : decide ((LC : Int) ≤ (m : Int)) = true := decide_eq_true (by omega)
  have d2 : decide ((m : Int) ≤ (MC : Int)) = true := decide_eq_true (by omega)
  have d3 : decide (((MC : Int) - (LC : Int)) * 8 ≤ (LC : Int)) = true := decide_eq_true (by omega)
  go_enter Try.func3, Try.ntmps3
  go_wp2_with fail
  refine (hawake _).mono ?_
  rintro e w1 ⟨rfl, hf1⟩
  go_wp2_with fail
  refine (HC.out _).mono ?_
  rintro e w' ⟨rfl, rfl⟩
  go_wp2_with fail
  refine (HT.out _).mono ?_
  rintro e w' ⟨rfl, rfl⟩
  go_wp2_with fail
  refine (HR.out _).mono ?_
  rintro e w' ⟨rfl, rfl⟩
  go_wp2_with fail
  with_reducible refine (HL1.out _).mono ?_
  rintro e w' ⟨rfl, rfl⟩
  go_wp2_with fail
  refine (HL2.out _).mono ?_
  rintro e w' ⟨rfl, rfl⟩
  go_wp2_with fail
  with_reducible refine (HM1.out _).mono ?_
  rintro e w' ⟨rfl, rfl⟩
  go_wp2_with fail
  refine (HM2.out _).mono ?_
  rintro e w' ⟨rfl, rfl⟩
  go_wp2_with fail
  with_reducible refine (HL3.out _).mono ?_
  rintro e w' ⟨rfl, rfl⟩
  go_wp2_with fail
  with_reducible refine (HM3.out _).mono ?_
  rintro e w' ⟨rfl, rfl⟩
  go_wp2_with fail
  with_reducible refine (HM3.out _).mono ?_
  rintro e w' ⟨rfl, rfl⟩
  go_wp2_with fail
  with_reducible refine (HL3.out _).mono ?_
  rintro e w' ⟨rfl, rfl⟩
  go_wp2_with fail
  with_reducible refine (HL3.out _).mono ?_
  rintro e w' ⟨rfl, rfl⟩
  go_wp2
  go_ret
  exact ⟨rfl, hf1.below (fun _ _ h => h)⟩

set_option maxHeartbeats 1000000 in
theorem order_walk (a b : Int) (w : World) : Calls Try.prog 4 #[.int .i64 a, .int .i64 b] w fun e w' => e = .returned (.bool true) ∧ Below w.heap.size w w' := by
  have ha := tm_bd a
  have hb := tm_bd b
  have HC := Lib.hid (hcell_any a)
  have HD := Lib.hid (hcell_any b)
  have HT := Lib.hid (rtime_any a)
  have HU := Lib.hid (rtime_any b)
  obtain ⟨x, hx⟩ := Int.eq_ofNat_of_zero_le ha.1
  obtain ⟨y, hy⟩ := Int.eq_ofNat_of_zero_le hb.1
  rw [hx] at HC HT ha
  rw [hy] at HD HU hb
  simp only [Int.toNat_natCast] at HC HD
  clear hx hy
  by_cases hxy : y < x
  · have d1 : decide ((y : Int) < (x : Int)) = true := decide_eq_true (by omega)
    go_enter Try.func4, Try.ntmps4
    go_wp2_with fail
    refine (hawake _).mono ?_
    rintro e w1 ⟨rfl, hf1⟩
    go_wp2_with fail
    with_reducible refine (HT.out _).mono ?_
    rintro e w' ⟨rfl, rfl⟩
    go_wp2_with fail
    with_reducible refine (HU.out _).mono ?_
    rintro e w' ⟨rfl, rfl⟩
    go_wp2
    go_ret
    exact ⟨rfl, hf1.below (fun _ _ h => h)⟩
  · have d1 : decide ((y : Int) < (x : Int)) = false := decide_eq_false (by omega)
    have hcm := cell_mono (x := x) (y := y) (by omega) (by omega)
    have hc4 := (cell_in (n := y) (by omega)).1
    have hm0 : cellN x ≠ cellN y → mostN (cellN x) < leastN (cellN y) := fun h => most_lt (by omega) hc4
    have HM := Lib.hid (hmost_any (cellN x : Nat))
    have HL := Lib.hid (hleast_any (cellN y : Nat))
    rw [show mostI (cellN x : Nat) = mostN (cellN x) by unfold mostI; rw [bring_id (by omega) (by omega)]; simp] at HM
    rw [show leastI (cellN y : Nat) = leastN (cellN y) by unfold leastI; rw [bring_id (by omega) (by omega)]; simp] at HL
    generalize mostN (cellN x) = MX at *
    generalize leastN (cellN y) = LY at *
    have d2 : decide ((cellN x : Int) ≤ (cellN y : Int)) = true := decide_eq_true (by omega)
    by_cases hxe : x = y
    · have d3 : ((x : Int) == (y : Int)) = true := by rw [beq_iff_eq]; omega
      generalize cellN x = cx at *
      generalize cellN y = cy at *
      clear hm0 hxe
      go_enter Try.func4, Try.ntmps4
      go_wp2_with fail
      refine (hawake _).mono ?_
      rintro e w1 ⟨rfl, hf1⟩
      go_wp2_with fail
      with_reducible refine (HT.out _).mono ?_
      rintro e w' ⟨rfl, rfl⟩
      go_wp2_with fail
      with_reducible refine (HU.out _).mono ?_
      rintro e w' ⟨rfl, rfl⟩
      go_wp2_with fail
      with_reducible refine (HC.out _).mono ?_
      rintro e w' ⟨rfl, rfl⟩
      go_wp2_with fail
      with_reducible refine (HD.out _).mono ?_
      rintro e w' ⟨rfl, rfl⟩
      go_wp2
      go_ret
      exact ⟨rfl, hf1.below (fun _ _ h => h)⟩
    · have d3 : ((x : Int) == (y : Int)) = false := by rw [beq_eq_false_iff_ne]; omega
      by_cases hce : cellN x = cellN y
      · have d4 : ((cellN x : Int) == (cellN y : Int)) = true := by rw [beq_iff_eq]; omega
        clear hm0 hce
        generalize cellN x = cx at *
        generalize cellN y = cy at *
        go_enter Try.func4, Try.ntmps4
        go_wp2_with fail
        refine (hawake _).mono ?_
        rintro e w1 ⟨rfl, hf1⟩
        go_wp2_with fail
        with_reducible refine (HT.out _).mono ?_
        rintro e w' ⟨rfl, rfl⟩
        go_wp2_with fail
        with_reducible refine (HU.out _).mono ?_
        rintro e w' ⟨rfl, rfl⟩
        go_wp2_with fail
        with_reducible refine (HC.out _).mono ?_
        rintro e w' ⟨rfl, rfl⟩
        go_wp2_with fail
        with_reducible refine (HD.out _).mono ?_
        rintro e w' ⟨rfl, rfl⟩
        go_wp2_with fail
        with_reducible refine (HC.out _).mono ?_
        rintro e w' ⟨rfl, rfl⟩
        go_wp2_with fail
        with_reducible refine (HD.out _).mono ?_
        rintro e w' ⟨rfl, rfl⟩
        go_wp2
        go_ret
        exact ⟨rfl, hf1.below (fun _ _ h => h)⟩
      · have d4 : ((cellN x : Int) == (cellN y : Int)) = false := by rw [beq_eq_false_iff_ne]; omega
        have hlt := hm0 hce
        have d5 : decide (MX < LY) = true := decide_eq_true hlt
        clear hm0 hce
        generalize cellN x = cx at *
        generalize cellN y = cy at *
        go_enter Try.func4, Try.ntmps4
        go_wp2_with fail
        refine (hawake _).mono ?_
        rintro e w1 ⟨rfl, hf1⟩
        go_wp2_with fail
        with_reducible refine (HT.out _).mono ?_
        rintro e w' ⟨rfl, rfl⟩
        go_wp2_with fail
        with_reducible refine (HU.out _).mono ?_
        rintro e w' ⟨rfl, rfl⟩
        go_wp2_with fail
        with_reducible refine (HC.out _).mono ?_
        rintro e w' ⟨rfl, rfl⟩
        go_wp2_with fail
        with_reducible refine (HD.out _).mono ?_
        rintro e w' ⟨rfl, rfl⟩
        go_wp2_with fail
        with_reducible refine (HC.out _).mono ?_
        rintro e w' ⟨rfl, rfl⟩
        go_wp2_with fail
        with_reducible refine (HD.out _).mono ?_
        rintro e w' ⟨rfl, rfl⟩
        go_wp2_with fail
        with_reducible refine (HC.out _).mono ?_
        rintro e w' ⟨rfl, rfl⟩
        go_wp2_with fail
        with_reducible refine (HM.out _).mono ?_
        rintro e w' ⟨rfl, rfl⟩
        go_wp2_with fail
        with_reducible refine (HD.out _).mono ?_
        rintro e w' ⟨rfl, rfl⟩
        go_wp2_with fail
        with_reducible refine (HL.out _).mono ?_
        rintro e w' ⟨rfl, rfl⟩
        go_wp2
        go_ret
        exact ⟨rfl, hf1.below (fun _ _ h => h)⟩
end Hs
end Go.Proofs.Ytmpbgnopejeelaa
