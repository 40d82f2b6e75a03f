/- Cells of numbers: contracts of Cell, Least, Most and the reference's. -/
import Derived.Test.YtmpbgnopejeelaaHib
namespace Go.Proofs.Ytmpbgnopejeelaa
open Go.RowKit
set_option linter.unusedVariables false
set_option linter.unusedSimpArgs false

theorem len_to {n b : Nat} (w : World) (h1 : n ≤ 1099511627776) (hb : blen n = b) :
    Calls Try.prog 51 #[.int .u64 n] w fun e w' => e = .returned (.int .i64 b) ∧ w = w' := by
  subst hb
  exact len_bits n w (by omega) (by omega)
theorem and7 (x : Nat) (hx : x < 4611686018427387904) : bits .and .i64 (x : Int) 7 = ((x % 8 : Nat) : Int) := by
  have := (bits_nat .i64 63 (by decide) (fun n h0 h1 => IntWalk.i64_in _ (by omega)) x 7 (by omega) (by omega)).1
  rw [show ((7 : Nat) : Int) = 7 from rfl] at this
  rw [this, nat_mask3]

theorem cell_fin {m t q : Nat} (hq : q = m / 2 ^ (t + 1)) (h8 : 8 ≤ q) (h16 : q < 16) (ht : t ≤ 36) : wrap64 (16 + (t : Int) * 8 + bits .and .i64 ((m : Int) / 2 ^ (t + 1)) 7) = ((16 + t * 8 + (q - 8) : Nat) : Int) := by
  have e : (m : Int) / 2 ^ (t + 1) = (q : Int) := by rw [hq]; simp
  rw [e, and7 q (by omega)]
  unfold wrap64
  omega
set_option maxHeartbeats 1000000 in
theorem hcell_any (a : Int) (w : World) : Calls Try.prog 14 #[.int .i64 a] w fun e w' => e = .returned (.int .i64 (cellN (tm a).toNat)) ∧ w = w' := by
  have hT := Lib.hid (fun w => time_any a w)
  have hb := tm_bd a
  obtain ⟨m, hm⟩ := Int.eq_ofNat_of_zero_le hb.1
  rw [hm] at hT hb ⊢
  simp only [Int.toNat_natCast]
  clear hm
  by_cases h16 : m < 16
  · have e : cellN m = m := if_pos h16
    rw [e]
    clear e
    go_enter Try.func14, Try.ntmps14
    go_wp2_with fail
    refine (hT.out _).mono ?_
    rintro e w' ⟨rfl, rfl⟩
    go_wp2
    go_ret
    exact ⟨rfl, rfl⟩
  · obtain ⟨t, q, e, ht, hq1, hq2, hq, hc, _⟩ := cell_shape (n := m) (by omega) (by omega)
    have HE := Lib.hid e
    have HC := Lib.hid hc
    clear e hc
    go_enter Try.func14, Try.ntmps14
    go_wp2_with fail
    refine (hT.out _).mono ?_
    rintro e w' ⟨rfl, rfl⟩
    go_wp2_with fail
    refine (len_to _ (by omega) HE.out).mono ?_
    rintro e w' ⟨rfl, rfl⟩
    go_wp2
    go_ret
    exact ⟨by rw [HC.out]; exact ret_int (cell_fin hq hq1 hq2 ht), rfl⟩

theorem max_is (a b c : Int) (h : (if a < b then b else a) = c) : ∀ ats ty, Builtin.max_ ats ty #[.int .i64 a, .int .i64 b] = pure (.int .i64 c) := fun ats ty => by
  subst h; simp only [Builtin.max_, List.foldlM_cons, List.foldlM_nil, Builtin.max2, gt_iff_lt]; rfl
theorem min_is (a b c : Int) (h : (if b < a then b else a) = c) : ∀ ats ty, Builtin.min_ ats ty #[.int .i64 a, .int .i64 b] = pure (.int .i64 c) := fun ats ty => by
  subst h; simp only [Builtin.min_, List.foldlM_cons, List.foldlM_nil, Builtin.min2]; rfl
theorem clamp_is (a lo hi : Int) (h : lo ≤ hi) : (if hi < (if a < lo then lo else a) then hi else (if a < lo then lo else a)) = bring a lo hi := by unfold bring; split <;> split <;> (try split) <;> omega
def leastI (c : Int) : Nat := leastN (bring c 0 304).toNat
def mostI (c : Int) : Nat := mostN (bring c 0 304).toNat
theorem least_hi {c : Nat} (h : 16 ≤ c) : leastN c = (8 + (c - 16) % 8) * 2 ^ ((c - 16) / 8 + 1) := if_neg (by omega)

theorem least_fin {h lo : Nat} (hll : (8 + lo) * 2 ^ (h + 1) ≤ 1099511627776) : wrap64 ((8 + (lo : Int)) * 2 ^ (h + 5 - 1 - 3)) = (((8 + lo) * 2 ^ (h + 1) : Nat) : Int) := by
  have e : (8 + (lo : Int)) * 2 ^ (h + 5 - 1 - 3) = (((8 + lo) * 2 ^ (h + 1) : Nat) : Int) := by
    rw [show h + 5 - 1 - 3 = h + 1 by omega]; simp
  rw [e]
  generalize (8 + lo) * 2 ^ (h + 1) = z at *
  unfold wrap64
  omega
set_option maxHeartbeats 1000000 in
theorem hleast_any (a : Int) (w : World) : Calls Try.prog 17 #[.int .i64 a] w fun e w' => e = .returned (.int .i64 (leastI a)) ∧ w = w' := by
  have hb := bring_bd a (show (0 : Int) ≤ 304 by omega)
  have hc := clamp_is a 0 304 (by omega)
  unfold leastI
  obtain ⟨X, hX⟩ : ∃ X, (if a < 0 then (0 : Int) else a) = X := ⟨_, rfl⟩
  rw [hX] at hc
  obtain ⟨m, hm⟩ := Int.eq_ofNat_of_zero_le hb.1
  rw [hm] at hb hc ⊢
  simp only [Int.toNat_natCast]
  have m1 := max_is a 0 X hX
  have m2 := min_is X 304 _ hc
  clear hm hX hc
  have hll := least_lt m (by omega)
  by_cases h16 : m < 16
  · have e : leastN m = m := if_pos h16
    rw [e]
    clear e hll
    go_enter Try.func17, Try.ntmps17
    go_wp2
    go_ret
    exact ⟨rfl, rfl⟩
  · have e := least_hi (c := m) (by omega)
    have HE := Lib.hid e
    rw [e] at hll
    obtain ⟨h, hh⟩ : ∃ h, (m - 16) / 8 = h := ⟨_, rfl⟩
    obtain ⟨lo, hlo⟩ : ∃ lo, (m - 16) % 8 = lo := ⟨_, rfl⟩
    rw [hh, hlo] at hll HE
    have e1 : ((m : Int) - 16) / 8 = h := by omega
    have e2 : ((m : Int) - 16) % 8 = lo := by omega
    have h36 : h ≤ 36 := by omega
    have h7 : lo ≤ 7 := by omega
    rw [HE.out]
    clear hh hlo e
    go_enter Try.func17, Try.ntmps17
    go_wp2
    go_ret
    exact ⟨ret_int (least_fin hll), rfl⟩

set_option maxHeartbeats 1000000 in
theorem hmost_any (a : Int) (w : World) : Calls Try.prog 19 #[.int .i64 a] w fun e w' => e = .returned (.int .i64 (mostI a)) ∧ w = w' := by
  by_cases h : 304 ≤ a
  · have e : mostI a = 1099511627776 := by
      unfold mostI
      rw [show bring a 0 304 = 304 by unfold bring; split <;> (try split) <;> omega]
      rfl
    rw [e]
    go_enter Try.func19, Try.ntmps19
    go_wp2
    go_ret
    exact ⟨rfl, rfl⟩
  · obtain ⟨X, hX⟩ : ∃ X, (if a < 0 then (0 : Int) else a) = X := ⟨_, rfl⟩
    have hX0 : 0 ≤ X ∧ X ≤ 303 := by rw [← hX]; split <;> omega
    have hbr : bring a 0 304 = X := by rw [← hX]; unfold bring; split <;> (try split) <;> omega
    have m1 := max_is a 0 X hX
    obtain ⟨m, rfl⟩ := Int.eq_ofNat_of_zero_le hX0.1
    have e : mostI a = leastN (m + 1) - 1 := by
      unfold mostI mostN
      rw [hbr, Int.toNat_natCast, if_neg (by omega)]
    have hl : leastI ((m : Int) + 1) = leastN (m + 1) := by
      unfold leastI
      rw [bring_id (by omega) (by omega), show ((m : Int) + 1).toNat = m + 1 by omega]
    have h1 := least_succ m (by omega)
    have h2 := least_lt (m + 1) (by omega)
    have HL := Lib.hid (hleast_any ((m : Int) + 1))
    rw [hl] at HL
    rw [e]
    clear e hl hX hbr
    generalize leastN (m + 1) = L at *
    generalize leastN m = L0 at *
    go_enter Try.func19, Try.ntmps19
    go_wp2_with fail
    refine (HL.out _).mono ?_
    rintro e w' ⟨rfl, rfl⟩
    go_wp2
    go_ret
    exact ⟨ret_int (by omega), rfl⟩

theorem rbits_any (n : Nat) (w : World) (hn : n ≤ 1099511627776) : Calls Try.prog 53 #[.int .i64 n] w fun e w' => e = .returned (.int .i64 (blen n)) ∧ w = w' := by
  have hb := blen_le (n := n) (k := 41) (by omega)
  go_enter Try.func53, Try.ntmps53
  go_wp2
  go_loop [0, 3] (fun x j => ∃ (y i : Nat), x = .int .i64 y ∧ j = .int .i64 i ∧ y ≤ n ∧ Hid (blen n = i + blen y)) (fun x _ => (intOf x).toNat)
  case atStart => exact ⟨n, 0, rfl, rfl, Nat.le_refl _, by unfold Hid; omega⟩
  case round =>
    obtain ⟨y, i, rfl, rfl, hy, hh⟩ := hrel
    have hi : i ≤ 41 := by have := hh.out; omega
    by_cases h0 : 0 < y
    · have hH := Lib.hid (blen_half h0)
      go_wp2
      go_round
      case rel => exact ⟨y / 2, i + 1, by go_num, by go_num, by omega, by have := hh.out; have := hH.out; unfold Hid; omega⟩
      case measure => simp [intOf]; omega
    · obtain rfl : y = 0 := by omega
      have e : blen n = i := by have := hh.out; rw [this]; rfl
      have HE := Lib.hid e
      clear e
      go_wp2
      go_ret
      exact ⟨by rw [HE.out]; rfl, rfl⟩

theorem rpower_any (k : Nat) (w : World) (hk : k ≤ 41) : Calls Try.prog 54 #[.int .i64 k] w fun e w' => e = .returned (.int .i64 ((2 ^ k : Nat) : Int)) ∧ w = w' := by
  go_enter Try.func54, Try.ntmps54
  go_wp2
  go_loop [3, 4] (fun x j => ∃ (p i : Nat), x = .int .i64 p ∧ j = .int .i64 i ∧ i ≤ k ∧ Hid (p = 2 ^ i)) (fun _ j => k - (intOf j).toNat)
  case atStart => exact ⟨1, 0, rfl, rfl, Nat.zero_le _, rfl⟩
  case round =>
    obtain ⟨p, i, rfl, rfl, hi, hh⟩ := hrel
    have hp : p ≤ 2199023255552 := by
      rw [hh.out]
      exact Nat.pow_le_pow_right (n := 2) (by omega) (show i ≤ 41 by omega)
    by_cases hlt : i < k
    · go_wp2
      go_round
      case rel => exact ⟨p * 2, i + 1, by go_num, by go_num, by omega, by rw [hh.out]; unfold Hid; rw [Nat.pow_succ]⟩
      case measure => simp [intOf]; omega
    · obtain rfl : i = k := by omega
      go_wp2
      go_ret
      exact ⟨by rw [hh.out]; exact ret_int (by simp), rfl⟩

theorem rpower_to {x : Int} {k : Nat} (w : World) (hk : k ≤ 41) (hx : x = k) : Calls Try.prog 54 #[.int .i64 x] w fun e w' => e = .returned (.int .i64 ((2 ^ k : Nat) : Int)) ∧ w = w' := by
  subst hx
  exact rpower_any k w hk
set_option maxHeartbeats 1000000 in
theorem rcell_any (a : Int) (w : World) : Calls Try.prog 16 #[.int .i64 a] w fun e w' => e = .returned (.int .i64 (cellN (tm a).toNat)) ∧ w = w' := by
  have hT := Lib.hid (fun w => rtime_any a w)
  have hb := tm_bd a
  obtain ⟨m, hm⟩ := Int.eq_ofNat_of_zero_le hb.1
  rw [hm] at hT hb ⊢
  simp only [Int.toNat_natCast]
  clear hm
  by_cases h16 : m < 16
  · have e : cellN m = m := if_pos h16
    rw [e]
    clear e
    go_enter Try.func16, Try.ntmps16
    go_wp2_with fail
    refine (hT.out _).mono ?_
    rintro e w' ⟨rfl, rfl⟩
    go_wp2
    go_ret
    exact ⟨rfl, rfl⟩
  · obtain ⟨t, q, e, ht, hq1, hq2, hq, hc, _⟩ := cell_shape (n := m) (by omega) (by omega)
    have HB := Lib.hid (fun w => rbits_any m w (by omega))
    rw [e] at HB
    have HC := Lib.hid hc
    have HP := Lib.hid (fun (x : Int) w (h : x = (t : Int) + 1) => rpower_to (x := x) (k := t + 1) w (by omega) (by omega))
    have hp0 : 0 < 2 ^ (t + 1) := Nat.two_pow_pos _
    have hq' : (m : Int) / ((2 ^ (t + 1) : Nat) : Int) = (q : Int) := by rw [hq]; simp
    clear e hc
    generalize 2 ^ (t + 1) = p at *
    have hz : ((p : Int) == 0) = false := by rw [beq_eq_false_iff_ne]; omega
    clear hq
    go_enter Try.func16, Try.ntmps16
    go_wp2_with fail
    refine (hT.out _).mono ?_
    rintro e w' ⟨rfl, rfl⟩
    go_wp2_with fail
    refine (HB.out _).mono ?_
    rintro e w' ⟨rfl, rfl⟩
    go_wp2_with fail
    with_reducible refine (HP.out _ _ (by omega)).mono ?_
    rintro e w' ⟨rfl, rfl⟩
    go_wp2
    go_ret
    exact ⟨by rw [HC.out]; exact ret_int (by omega), rfl⟩

set_option maxHeartbeats 1000000 in
theorem rleast_any (a : Int) (w : World) : Calls Try.prog 18 #[.int .i64 a] w fun e w' => e = .returned (.int .i64 (leastI a)) ∧ w = w' := by
  have hb := bring_bd a (show (0 : Int) ≤ 304 by omega)
  have HBR := Lib.hid (fun w => rbring_any a 0 304 w)
  unfold leastI
  obtain ⟨m, hm⟩ := Int.eq_ofNat_of_zero_le hb.1
  rw [hm] at hb HBR ⊢
  simp only [Int.toNat_natCast]
  clear hm
  have hll := least_lt m (by omega)
  by_cases h16 : m < 16
  · have e : leastN m = m := if_pos h16
    rw [e]
    clear e hll
    go_enter Try.func18, Try.ntmps18
    go_wp2_with fail
    refine (HBR.out _).mono ?_
    rintro e w' ⟨rfl, rfl⟩
    go_wp2
    go_ret
    exact ⟨rfl, rfl⟩
  · have e := least_hi (c := m) (by omega)
    have HE := Lib.hid e
    rw [e] at hll
    obtain ⟨h, hh⟩ : ∃ h, (m - 16) / 8 = h := ⟨_, rfl⟩
    obtain ⟨lo, hlo⟩ : ∃ lo, (m - 16) % 8 = lo := ⟨_, rfl⟩
    rw [hh, hlo] at hll HE
    have e1 : ((m : Int) - 16) / 8 = h := by omega
    have e2 : ((m : Int) - 16) % 8 = lo := by omega
    have h36 : h ≤ 36 := by omega
    have h7 : lo ≤ 7 := by omega
    rw [HE.out]
    clear hh hlo e
    have HP1 := Lib.hid (fun (x : Int) w (hx : x = (h : Int) + 4) => rpower_to (x := x) (k := h + 4) w (by omega) (by omega))
    have HP2 := Lib.hid (fun (x : Int) w (hx : x = (h : Int) + 1) => rpower_to (x := x) (k := h + 1) w (by omega) (by omega))
    have hp : 2 ^ (h + 4) = 8 * 2 ^ (h + 1) := by rw [show h + 4 = (h + 1) + 3 by omega, Nat.pow_add]; omega
    rw [hp] at HP1
    have hlm : (8 + lo) * 2 ^ (h + 1) = 8 * 2 ^ (h + 1) + lo * 2 ^ (h + 1) := Nat.add_mul _ _ _
    rw [hlm] at hll ⊢
    clear hp hlm HE
    generalize 2 ^ (h + 1) = p at *
    obtain ⟨x, hx⟩ : ∃ x, lo * p = x := ⟨_, rfl⟩
    have hxi : (lo : Int) * (p : Int) = (x : Int) := by rw [← hx]; simp
    rw [hx] at hll ⊢
    have hw : IntKind.i64.wrap ((lo : Int) * (p : Int)) = (x : Int) := by rw [hxi]; exact IntWalk.i64_in _ (by omega)
    clear hx
    go_enter Try.func18, Try.ntmps18
    go_wp2_with fail
    refine (HBR.out _).mono ?_
    rintro e w' ⟨rfl, rfl⟩
    go_wp2_with fail
    with_reducible refine (HP1.out _ _ (by omega)).mono ?_
    rintro e w' ⟨rfl, rfl⟩
    go_wp2_with fail
    with_reducible refine (HP2.out _ _ (by omega)).mono ?_
    rintro e w' ⟨rfl, rfl⟩
    go_wp2
    go_ret
    exact ⟨ret_int (by omega), rfl⟩

set_option maxHeartbeats 1000000 in
set_option maxRecDepth 10000 in
theorem rmost_any (a : Int) (w : World) : Calls Try.prog 20 #[.int .i64 a] w fun e w' => e = .returned (.int .i64 (mostI a)) ∧ w = w' := by
  have hb := bring_bd a (show (0 : Int) ≤ 304 by omega)
  have HBR := Lib.hid (fun w => rbring_any a 0 304 w)
  unfold mostI
  obtain ⟨m, hm⟩ := Int.eq_ofNat_of_zero_le hb.1
  rw [hm] at hb HBR ⊢
  simp only [Int.toNat_natCast]
  clear hm
  by_cases h : 304 ≤ m
  · have e : mostN m = 1099511627776 := if_pos h
    rw [e]
    clear e
    go_enter Try.func20, Try.ntmps20
    go_wp2_with fail
    refine (HBR.out _).mono ?_
    rintro e w' ⟨rfl, rfl⟩
    go_wp2
    go_ret
    exact ⟨rfl, rfl⟩
  · have e : mostN m = leastN (m + 1) - 1 := if_neg h
    have hl : leastI ((m : Int) + 1) = leastN (m + 1) := by
      unfold leastI
      rw [bring_id (by omega) (by omega), show ((m : Int) + 1).toNat = m + 1 by omega]
    have h1 := least_succ m (by omega)
    have h2 := least_lt (m + 1) (by omega)
    have HL := Lib.hid (rleast_any ((m : Int) + 1))
    rw [hl] at HL
    rw [e]
    clear e hl
    generalize leastN (m + 1) = L at *
    generalize leastN m = L0 at *
    go_enter Try.func20, Try.ntmps20
    go_wp2_with fail
    refine (HBR.out _).mono ?_
    rintro e w' ⟨rfl, rfl⟩
    go_wp2_with fail
    refine (HL.out _).mono ?_
    rintro e w' ⟨rfl, rfl⟩
    go_wp2
    go_ret
    exact ⟨ret_int (by omega), rfl⟩
end Go.Proofs.Ytmpbgnopejeelaa
