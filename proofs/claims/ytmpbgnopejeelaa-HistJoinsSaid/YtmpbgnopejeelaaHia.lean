/- Cells of numbers: the plain law (no program in sight). -/
import Derived.Test.YtmpbgnopejeelaaM
namespace Go.Proofs.Ytmpbgnopejeelaa
open Go.RowKit
set_option linter.unusedVariables false

/-- How many bits a number has. -/
def blen (n : Nat) : Nat := if n = 0 then 0 else n.log2 + 1
theorem blen_eq {n k : Nat} (h1 : 2 ^ k ≤ n) (h2 : n < 2 ^ (k + 1)) : blen n = k + 1 := by
  have hk : 0 < 2 ^ k := Nat.two_pow_pos k
  unfold blen
  rw [if_neg (by omega), (Nat.log2_eq_iff (by omega)).2 ⟨h1, h2⟩]
theorem blen_bd {n : Nat} (h : n ≠ 0) : ∃ k, blen n = k + 1 ∧ 2 ^ k ≤ n ∧ n < 2 ^ (k + 1) :=
  ⟨n.log2, if_neg h, Nat.log2_self_le h, Nat.lt_log2_self⟩
theorem blen_shift {n s : Nat} (h : 2 ^ s ≤ n) : blen n = s + blen (n / 2 ^ s) := by
  have hs : 0 < 2 ^ s := Nat.two_pow_pos s
  have h0 : n / 2 ^ s ≠ 0 := by
    have := (Nat.le_div_iff_mul_le hs (x := 1) (y := n)).2 (by omega)
    omega
  obtain ⟨k, e, h1, h2⟩ := blen_bd h0
  rw [e]
  have h3 := (Nat.le_div_iff_mul_le hs).1 h1
  have h4 := (Nat.div_lt_iff_lt_mul hs).1 h2
  rw [← Nat.add_assoc]
  exact blen_eq (by rw [Nat.add_comm, Nat.pow_add]; exact h3) (by rw [Nat.add_assoc, Nat.add_comm, Nat.pow_add]; exact h4)
theorem blen_half {n : Nat} (h : 0 < n) : blen n = blen (n / 2) + 1 := by
  by_cases h1 : n = 1
  · subst h1; rfl
  · have := blen_shift (n := n) (s := 1) (by omega)
    rw [show (2 : Nat) ^ 1 = 2 from rfl] at this
    omega

/-- The cell of a number, and its least and most. -/
def cellN (n : Nat) : Nat := if n < 16 then n else 16 + (blen n - 5) * 8 + n / 2 ^ (blen n - 4) % 8
def leastN (c : Nat) : Nat := if c < 16 then c else (8 + (c - 16) % 8) * 2 ^ ((c - 16) / 8 + 1)
def mostN (c : Nat) : Nat := if 304 ≤ c then 1099511627776 else leastN (c + 1) - 1
theorem least_succ : ∀ c, c < 304 → leastN c < leastN (c + 1) := by decide +kernel
theorem least_lt : ∀ c, c ≤ 304 → leastN c ≤ 1099511627776 := by decide +kernel
theorem most_fine : ∀ c, c ≤ 304 → (mostN c - leastN c) * 8 ≤ leastN c ∧ leastN c ≤ mostN c ∧ mostN c ≤ 1099511627776 := by decide +kernel
theorem cell_shape {n : Nat} (h : 16 ≤ n) (hm : n ≤ 1099511627776) : ∃ t q, blen n = t + 5 ∧ t ≤ 36 ∧ 8 ≤ q ∧ q < 16 ∧ q = n / 2 ^ (t + 1) ∧ cellN n = 16 + t * 8 + (q - 8) ∧ (t = 36 → q = 8) := by
  obtain ⟨k, e, h1, h2⟩ := blen_bd (n := n) (by omega)
  have hk4 : 4 ≤ k := by
    rcases Nat.lt_or_ge k 4 with h | h
    · have : 2 ^ (k + 1) ≤ 2 ^ 4 := Nat.pow_le_pow_right (by omega) (by omega)
      omega
    · exact h
  have hk40 : k ≤ 40 := by
    rcases Nat.lt_or_ge 40 k with h | h
    · have : 2 ^ 41 ≤ 2 ^ k := Nat.pow_le_pow_right (by omega) (by omega)
      omega
    · exact h
  obtain ⟨t, rfl⟩ : ∃ t, k = t + 4 := ⟨k - 4, by omega⟩
  have hp : 0 < 2 ^ (t + 1) := Nat.two_pow_pos _
  have hq1 : 8 ≤ n / 2 ^ (t + 1) := (Nat.le_div_iff_mul_le hp).2 (by
    rw [show t + 4 = (t + 1) + 3 by omega, Nat.pow_add] at h1
    omega)
  have hq2 : n / 2 ^ (t + 1) < 16 := (Nat.div_lt_iff_lt_mul hp).2 (by
    rw [show t + 4 + 1 = (t + 1) + 4 by omega, Nat.pow_add] at h2
    omega)
  refine ⟨t, n / 2 ^ (t + 1), by omega, by omega, hq1, hq2, rfl, ?_, fun ht => ?_⟩
  · unfold cellN
    rw [if_neg (by omega), e]
    rw [show t + 4 + 1 - 5 = t by omega, show t + 4 + 1 - 4 = t + 1 by omega]
    omega
  · subst ht
    have : n / 2 ^ (36 + 1) < 9 := (Nat.div_lt_iff_lt_mul (by omega)).2 (by omega)
    omega
theorem cell_in {n : Nat} (hm : n ≤ 1099511627776) : cellN n ≤ 304 ∧ leastN (cellN n) ≤ n ∧ n ≤ mostN (cellN n) := by
  by_cases h : n < 16
  · have e : cellN n = n := if_pos h
    rw [e]
    refine ⟨by omega, by unfold leastN; rw [if_pos h]; omega, ?_⟩
    have := least_succ n (by omega)
    have e2 : leastN n = n := if_pos h
    unfold mostN
    rw [if_neg (by omega)]
    omega
  · obtain ⟨t, q, _, ht, hq1, hq2, hq, hc, h36⟩ := cell_shape (by omega : 16 ≤ n) hm
    rw [hc]
    have hp : 0 < 2 ^ (t + 1) := Nat.two_pow_pos _
    have hl : leastN (16 + t * 8 + (q - 8)) = q * 2 ^ (t + 1) := by
      unfold leastN
      rw [if_neg (by omega), show (16 + t * 8 + (q - 8) - 16) % 8 = q - 8 by omega, show (16 + t * 8 + (q - 8) - 16) / 8 = t by omega, show 8 + (q - 8) = q by omega]
    refine ⟨by by_cases h6 : t = 36 <;> (try have := h36 h6) <;> omega, ?_, ?_⟩
    · rw [hl, hq]
      exact Nat.div_mul_le_self _ _
    · unfold mostN
      by_cases hc304 : 304 ≤ 16 + t * 8 + (q - 8)
      · rw [if_pos hc304]; exact hm
      · rw [if_neg hc304]
        have hn : n < (q + 1) * 2 ^ (t + 1) := by
          rw [hq]
          exact (Nat.div_lt_iff_lt_mul hp).1 (Nat.lt_succ_self _)
        have hl2 : leastN (16 + t * 8 + (q - 8) + 1) = (q + 1) * 2 ^ (t + 1) := by
          unfold leastN
          rw [if_neg (by omega)]
          by_cases h15 : q = 15
          · rw [show (16 + t * 8 + (q - 8) + 1 - 16) % 8 = 0 by omega, show (16 + t * 8 + (q - 8) + 1 - 16) / 8 = t + 1 by omega, h15, Nat.pow_succ 2 (t + 1)]
            omega
          · rw [show (16 + t * 8 + (q - 8) + 1 - 16) % 8 = q - 7 by omega, show (16 + t * 8 + (q - 8) + 1 - 16) / 8 = t by omega, show 8 + (q - 7) = q + 1 by omega]
        omega
theorem least_le {a b : Nat} (h : a ≤ b) (hb : b ≤ 304) : leastN a ≤ leastN b := by
  obtain ⟨d, rfl⟩ : ∃ d, b = a + d := ⟨b - a, by omega⟩
  clear h
  induction d with
  | zero => exact Nat.le_refl _
  | succ d ih =>
    have := ih (by omega)
    have := least_succ (a + d) (by omega)
    rw [← Nat.add_assoc]
    omega
theorem most_lt {a b : Nat} (h : a < b) (hb : b ≤ 304) : mostN a < leastN b := by
  have h1 := least_le (show a + 1 ≤ b by omega) hb
  have h2 := least_succ a (by omega)
  unfold mostN
  rw [if_neg (by omega)]
  omega
theorem cell_mono {x y : Nat} (h : x ≤ y) (hy : y ≤ 1099511627776) : cellN x ≤ cellN y := by
  obtain ⟨h1, h2, h3⟩ := cell_in (n := x) (by omega)
  obtain ⟨k1, k2, k3⟩ := cell_in (n := y) hy
  rcases Nat.lt_or_ge (cellN y) (cellN x) with hlt | hge
  · have := most_lt hlt h1
    omega
  · exact hge
end Go.Proofs.Ytmpbgnopejeelaa
