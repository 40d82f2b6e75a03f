/- What num and its reference answer: contracts of Time, number, Plus, Left, Past, Next, Scale and of the reference's Time and Number, for all numbers. -/
import Derived.Test.YtmpbgnopejeelaaProg
import Derived.Test.YtmpbgnopejeelaaL
namespace Go.Proofs.Ytmpbgnopejeelaa
open Go.RowKit
set_option linter.unusedVariables false

/-- Brought between two numbers. -/
def bring (a lo hi : Int) : Int := if a < lo then lo else if hi < a then hi else a
theorem bring_bd (a : Int) {lo hi : Int} (h : lo ≤ hi) : lo ≤ bring a lo hi ∧ bring a lo hi ≤ hi := by unfold bring; split <;> (try split) <;> omega
theorem bring_id {a lo hi : Int} (h : lo ≤ a) (h' : a ≤ hi) : bring a lo hi = a := by unfold bring; rw [if_neg (by omega), if_neg (by omega)]
theorem bring_hi {a lo hi : Int} (h : lo ≤ a) (h' : hi < a) : bring a lo hi = hi := by unfold bring; rw [if_neg (by omega), if_pos h']
def tm (a : Int) : Int := bring a 0 1099511627776
def nb (a : Int) : Int := bring a 0 1073741824
theorem tm_bd (a : Int) : 0 ≤ tm a ∧ tm a ≤ 1099511627776 := bring_bd a (by omega)
theorem nb_bd (a : Int) : 0 ≤ nb a ∧ nb a ≤ 1073741824 := bring_bd a (by omega)
theorem tm_id {a : Int} (h : 0 ≤ a) (h' : a ≤ 1099511627776) : tm a = a := bring_id h h'
theorem nb_id {a : Int} (h : 0 ≤ a) (h' : a ≤ 1073741824) : nb a = a := bring_id h h'
theorem tm_tm (a : Int) : tm (tm a) = tm a := tm_id (tm_bd a).1 (tm_bd a).2
def plus (a b : Int) : Int := tm (tm a + nb b)
/-- From now till then. -/
def lft (now till : Int) : Int := if tm till ≤ tm now then 0 else tm till - tm now
def pst (now till : Int) : Bool := decide (tm till ≤ tm now)

theorem within_any (a lo hi : Int) (w : World) (h : lo ≤ hi) : Calls Try.prog 68 #[.int .i64 a, .int .i64 lo, .int .i64 hi] w fun e w' => e = .returned (.int .i64 (bring a lo hi)) ∧ w = w' := by
  go_enter Try.func68, Try.ntmps68
  go_wp2
  all_goals go_ret
  all_goals exact ⟨ret_int (by unfold bring; split <;> (try split) <;> omega), rfl⟩
theorem rbring_any (a lo hi : Int) (w : World) : Calls Try.prog 52 #[.int .i64 a, .int .i64 lo, .int .i64 hi] w fun e w' => e = .returned (.int .i64 (bring a lo hi)) ∧ w = w' := by
  go_enter Try.func52, Try.ntmps52
  go_wp2
  all_goals go_ret
  all_goals exact ⟨ret_int (by unfold bring; split <;> (try split) <;> omega), rfl⟩
theorem time_any (a : Int) (w : World) : Calls Try.prog 50 #[.int .i64 a] w fun e w' => e = .returned (.int .i64 (tm a)) ∧ w = w' := by
  go_enter Try.func50, Try.ntmps50
  go_wp2_with (go_at_call 68; refine (within_any _ _ _ _ (by omega)).mono ?_; rintro e w' ⟨rfl, rfl⟩)
  go_ret
  exact ⟨rfl, rfl⟩
theorem time_to {a c : Int} (h : tm a = c) (w : World) : Calls Try.prog 50 #[.int .i64 a] w fun e w' => e = .returned (.int .i64 c) ∧ w = w' := h ▸ time_any a w
theorem number_any (a : Int) (w : World) : Calls Try.prog 81 #[.int .i64 a] w fun e w' => e = .returned (.int .i64 (nb a)) ∧ w = w' := by
  go_enter Try.func81, Try.ntmps81
  go_wp2_with (go_at_call 68; refine (within_any _ _ _ _ (by omega)).mono ?_; rintro e w' ⟨rfl, rfl⟩)
  go_ret
  exact ⟨rfl, rfl⟩
theorem rtime_any (a : Int) (w : World) : Calls Try.prog 15 #[.int .i64 a] w fun e w' => e = .returned (.int .i64 (tm a)) ∧ w = w' := by
  go_enter Try.func15, Try.ntmps15
  go_wp2_with (go_at_call 52; refine (rbring_any _ _ _ _).mono ?_; rintro e w' ⟨rfl, rfl⟩)
  go_ret
  exact ⟨rfl, rfl⟩
theorem rtime_to {a c : Int} (h : tm a = c) (w : World) : Calls Try.prog 15 #[.int .i64 a] w fun e w' => e = .returned (.int .i64 c) ∧ w = w' := h ▸ rtime_any a w
theorem rnumber_any (a : Int) (w : World) : Calls Try.prog 66 #[.int .i64 a] w fun e w' => e = .returned (.int .i64 (nb a)) ∧ w = w' := by
  go_enter Try.func66, Try.ntmps66
  go_wp2_with (go_at_call 52; refine (rbring_any _ _ _ _).mono ?_; rintro e w' ⟨rfl, rfl⟩)
  go_ret
  exact ⟨rfl, rfl⟩
theorem rnumber_to {a c : Int} (h : nb a = c) (w : World) : Calls Try.prog 66 #[.int .i64 a] w fun e w' => e = .returned (.int .i64 c) ∧ w = w' := h ▸ rnumber_any a w
theorem plus_any (a b : Int) (w : World) : Calls Try.prog 67 #[.int .i64 a, .int .i64 b] w fun e w' => e = .returned (.int .i64 (plus a b)) ∧ w = w' := by
  have h1 := tm_bd a
  have h2 := nb_bd b
  go_enter Try.func67, Try.ntmps67
  go_wp2_with (first
    | (go_at_call 50; refine (time_any _ _).mono ?_; rintro e w' ⟨rfl, rfl⟩)
    | (go_at_call 81; refine (number_any _ _).mono ?_; rintro e w' ⟨rfl, rfl⟩))
  go_ret
  exact ⟨rfl, rfl⟩
theorem plus_to {a b c : Int} (h : plus a b = c) (w : World) : Calls Try.prog 67 #[.int .i64 a, .int .i64 b] w fun e w' => e = .returned (.int .i64 c) ∧ w = w' := h ▸ plus_any a b w
end Go.Proofs.Ytmpbgnopejeelaa
