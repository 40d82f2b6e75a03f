/- What num and its reference answer: contracts of Time, number, Plus, Left, Past, Next, Scale and of the reference's Time and Number, for all numbers. -/
import Derived.Test.YteokiiolchpndaaProg
import Derived.Test.YteokiiolchpndaaL
namespace Go.Proofs.Yteokiiolchpndaa
open Go.RowKit
set_option linter.unusedVariables false

/-- Brought between two numbers. -/
def bring (a lo hi : Int) : Int := if a < lo then lo else if hi < a then hi else a
theorem bring_bd (a : Int) {lo hi : Int} (h : lo ≤ hi) : lo ≤ bring a lo hi ∧ bring a lo hi ≤ hi := by unfold bring; split <;> (try split) <;> omega
theorem bring_id {a lo hi : Int} (h : lo ≤ a) (h' : a ≤ hi) : bring a lo hi = a := by unfold bring; rw [if_neg (by omega), if_neg (by omega)]
theorem bring_hi {a lo hi : Int} (h : lo ≤ a) (h' : hi < a) : bring a lo hi = hi := by unfold bring; rw [if_neg (by omega), if_pos h']
def tm (a : Int) : Int := bring a 0 1099511627776
def nb (a : Int) : Int := bring a 0 1073741824
theorem tm_bd (a : Int) : 0 ≤ tm a ∧ tm a ≤ 1099511627776 := bring_bd a (by omega)
theorem nb_bd (a : Int) : 0 ≤ nb a ∧ nb a ≤ 1073741824 := bring_bd a (by omega)
theorem tm_id {a : Int} (h : 0 ≤ a) (h' : a ≤ 1099511627776) : tm a = a := bring_id h h'
theorem nb_id {a : Int} (h : 0 ≤ a) (h' : a ≤ 1073741824) : nb a = a := bring_id h h'
theorem tm_tm (a : Int) : tm (tm a) = tm a := tm_id (tm_bd a).1 (tm_bd a).2
def plus (a b : Int) : Int := tm (tm a + nb b)
/-- From now till then. -/
def lft (now till : Int) : Int := if tm till ≤ tm now then 0 else tm till - tm now
def pst (now till : Int) : Bool := decide (tm till ≤ tm now)

theorem within_any (a lo hi : Int) (w : World) (h : lo ≤ hi) : Calls Try.prog 61 #[.int .i64 a, .int .i64 lo, .int .i64 hi] w fun e w' => e = .returned (.int .i64 (bring a lo hi)) ∧ w = w' := by
  go_enter Try.func61, Try.ntmps61
  go_wp2
  all_goals go_ret
  all_goals exact ⟨ret_int (by unfold bring; split <;> (try split) <;> omega), rfl⟩
theorem rbring_any (a lo hi : Int) (w : World) : Calls Try.prog 53 #[.int .i64 a, .int .i64 lo, .int .i64 hi] w fun e w' => e = .returned (.int .i64 (bring a lo hi)) ∧ w = w' := by
  go_enter Try.func53, Try.ntmps53
  go_wp2
  all_goals go_ret
  all_goals exact ⟨ret_int (by unfold bring; split <;> (try split) <;> omega), rfl⟩
theorem time_any (a : Int) (w : World) : Calls Try.prog 50 #[.int .i64 a] w fun e w' => e = .returned (.int .i64 (tm a)) ∧ w = w' := by
  go_enter Try.func50, Try.ntmps50
  go_wp2_with (go_at_call 61; refine (within_any _ _ _ _ (by omega)).mono ?_; rintro e w' ⟨rfl, rfl⟩)
  go_ret
  exact ⟨rfl, rfl⟩
theorem time_to {a c : Int} (h : tm a = c) (w : World) : Calls Try.prog 50 #[.int .i64 a] w fun e w' => e = .returned (.int .i64 c) ∧ w = w' := h ▸ time_any a w
theorem number_any (a : Int) (w : World) : Calls Try.prog 63 #[.int .i64 a] w fun e w' => e = .returned (.int .i64 (nb a)) ∧ w = w' := by
  go_enter Try.func63, Try.ntmps63
  go_wp2_with (go_at_call 61; refine (within_any _ _ _ _ (by omega)).mono ?_; rintro e w' ⟨rfl, rfl⟩)
  go_ret
  exact ⟨rfl, rfl⟩
theorem rtime_any (a : Int) (w : World) : Calls Try.prog 60 #[.int .i64 a] w fun e w' => e = .returned (.int .i64 (tm a)) ∧ w = w' := by
  go_enter Try.func60, Try.ntmps60
  go_wp2_with (go_at_call 53; refine (rbring_any _ _ _ _).mono ?_; rintro e w' ⟨rfl, rfl⟩)
  go_ret
  exact ⟨rfl, rfl⟩
theorem rtime_to {a c : Int} (h : tm a = c) (w : World) : Calls Try.prog 60 #[.int .i64 a] w fun e w' => e = .returned (.int .i64 c) ∧ w = w' := h ▸ rtime_any a w
theorem rnumber_any (a : Int) (w : World) : Calls Try.prog 18 #[.int .i64 a] w fun e w' => e = .returned (.int .i64 (nb a)) ∧ w = w' := by
  go_enter Try.func18, Try.ntmps18
  go_wp2_with (go_at_call 53; refine (rbring_any _ _ _ _).mono ?_; rintro e w' ⟨rfl, rfl⟩)
  go_ret
  exact ⟨rfl, rfl⟩
theorem rnumber_to {a c : Int} (h : nb a = c) (w : World) : Calls Try.prog 18 #[.int .i64 a] w fun e w' => e = .returned (.int .i64 c) ∧ w = w' := h ▸ rnumber_any a w
theorem plus_any (a b : Int) (w : World) : Calls Try.prog 59 #[.int .i64 a, .int .i64 b] w fun e w' => e = .returned (.int .i64 (plus a b)) ∧ w = w' := by
  have h1 := tm_bd a
  have h2 := nb_bd b
  go_enter Try.func59, Try.ntmps59
  go_wp2_with (first
    | (go_at_call 50; refine (time_any _ _).mono ?_; rintro e w' ⟨rfl, rfl⟩)
    | (go_at_call 63; refine (number_any _ _).mono ?_; rintro e w' ⟨rfl, rfl⟩))
  go_ret
  exact ⟨rfl, rfl⟩
theorem plus_to {a b c : Int} (h : plus a b = c) (w : World) : Calls Try.prog 59 #[.int .i64 a, .int .i64 b] w fun e w' => e = .returned (.int .i64 c) ∧ w = w' := h ▸ plus_any a b w
theorem left_num (a b : Int) (w : World) : Calls Try.prog 62 #[.int .i64 a, .int .i64 b] w fun e w' => e = .returned (.int .i64 (lft a b)) ∧ w = w' := by
  have h1 := tm_bd a
  have h2 := tm_bd b
  go_enter Try.func62, Try.ntmps62
  go_wp2_with (go_at_call 50; refine (time_any _ _).mono ?_; rintro e w' ⟨rfl, rfl⟩)
  all_goals go_ret
  all_goals exact ⟨ret_int (by unfold lft; split <;> omega), rfl⟩
theorem left_num_to {a b c : Int} (h : lft a b = c) (w : World) : Calls Try.prog 62 #[.int .i64 a, .int .i64 b] w fun e w' => e = .returned (.int .i64 c) ∧ w = w' := h ▸ left_num a b w
theorem past_any (a b : Int) (w : World) : Calls Try.prog 58 #[.int .i64 a, .int .i64 b] w fun e w' => e = .returned (.bool (pst a b)) ∧ w = w' := by
  have h : (lft a b == 0) = pst a b := by
    unfold lft pst
    split
    · rw [decide_eq_true (by assumption)]; rfl
    · rw [decide_eq_false (by assumption), beq_eq_false_iff_ne]; omega
  have H := Lib.hid h
  clear h
  go_enter Try.func58, Try.ntmps58
  go_wp2_with (go_at_call 62; refine (left_num _ _ _).mono ?_; rintro e w' ⟨rfl, rfl⟩)
  go_ret
  exact ⟨ret_bool H.out, rfl⟩
theorem past_to {a b : Int} {c : Bool} (h : pst a b = c) (w : World) : Calls Try.prog 58 #[.int .i64 a, .int .i64 b] w fun e w' => e = .returned (.bool c) ∧ w = w' := h ▸ past_any a b w
def nxt (n : Int) : Int × Int := if n < 0 then (0, 1) else if 1073741824 ≤ n then (0, 10) else (n + 1, 0)
theorem next_any (n : Int) (w : World) : Calls Try.prog 56 #[.int .i64 n] w fun e w' => e = .returned (.tuple #[.int .i64 (nxt n).1, .int .i64 (nxt n).2]) ∧ w = w' := by
  by_cases h0 : n < 0
  · have HP := Lib.hid (show nxt n = (0, 1) by unfold nxt; rw [if_pos h0])
    go_enter Try.func56, Try.ntmps56
    go_wp2
    go_ret2
    exact ⟨by rw [HP.out]; rfl, rfl⟩
  · by_cases h1 : 1073741824 ≤ n
    · have HP := Lib.hid (show nxt n = (0, 10) by unfold nxt; rw [if_neg h0, if_pos h1])
      go_enter Try.func56, Try.ntmps56
      go_wp2
      go_ret2
      exact ⟨by rw [HP.out]; rfl, rfl⟩
    · have HP := Lib.hid (show nxt n = (n + 1, 0) by unfold nxt; rw [if_neg h0, if_neg h1])
      go_enter Try.func56, Try.ntmps56
      go_wp2
      go_ret2
      exact ⟨by rw [HP.out]; rfl, rfl⟩
end Go.Proofs.Yteokiiolchpndaa
