/- What num and its reference answer: contracts of Time, number, Plus, Left, Past, Next, Scale and of the reference's Time and Number, for all numbers. -/
import Derived.Test.YthmhihmbciigdaaProg
import Derived.Test.YthmhihmbciigdaaL
namespace Go.Proofs.Ythmhihmbciigdaa
open Go.RowKit
set_option linter.unusedVariables false

/-- Brought between two numbers. -/
def bring (a lo hi : Int) : Int := if a < lo then lo else if hi < a then hi else a
theorem bring_bd (a : Int) {lo hi : Int} (h : lo ≤ hi) : lo ≤ bring a lo hi ∧ bring a lo hi ≤ hi := by unfold bring; split <;> (try split) <;> omega
theorem bring_id {a lo hi : Int} (h : lo ≤ a) (h' : a ≤ hi) : bring a lo hi = a := by unfold bring; rw [if_neg (by omega), if_neg (by omega)]
theorem bring_hi {a lo hi : Int} (h : lo ≤ a) (h' : hi < a) : bring a lo hi = hi := by unfold bring; rw [if_neg (by omega), if_pos h']
def tm (a : Int) : Int := bring a 0 1099511627776
def nb (a : Int) : Int := bring a 0 1073741824
theorem tm_bd (a : Int) : 0 ≤ tm a ∧ tm a ≤ 1099511627776 := bring_bd a (by omega)
theorem nb_bd (a : Int) : 0 ≤ nb a ∧ nb a ≤ 1073741824 := bring_bd a (by omega)
theorem tm_id {a : Int} (h : 0 ≤ a) (h' : a ≤ 1099511627776) : tm a = a := bring_id h h'
theorem nb_id {a : Int} (h : 0 ≤ a) (h' : a ≤ 1073741824) : nb a = a := bring_id h h'
theorem tm_tm (a : Int) : tm (tm a) = tm a := tm_id (tm_bd a).1 (tm_bd a).2
def plus (a b : Int) : Int := tm (tm a + nb b)
/-- From now till then. -/
def lft (now till : Int) : Int := if tm till ≤ tm now then 0 else tm till - tm now
def pst (now till : Int) : Bool := decide (tm till ≤ tm now)

end Go.Proofs.Ythmhihmbciigdaa
