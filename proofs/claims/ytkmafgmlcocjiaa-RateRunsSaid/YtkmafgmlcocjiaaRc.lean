/- The plain law of RateAfter, and its walk. -/
import Derived.Test.YtkmafgmlcocjiaaRb
namespace Go.Proofs.Ytkmafgmlcocjiaa
open Go.RowKit Rt
set_option linter.unusedVariables false
set_option linter.unusedSimpArgs false

/-- No mark is later than that. -/
def Upto (ms : List Mk) (T : Int) : Prop := ∀ m ∈ ms, m.1 ≤ T
theorem Upto.mono {ms : List Mk} {T T' : Int} (h : Upto ms T) (ht : T ≤ T') : Upto ms T' := fun m hm => Int.le_trans (h m hm) ht
theorem mkAt_upto {each burst : Int} {m : Mk} {now T : Int} (h0 : 0 ≤ m.1) (hm : m.1 ≤ T) (hT : T ≤ 1099511627776) (hn : now ≤ T) : (mkAt each burst m now).1 ≤ T := by
  have := tm_bd now
  unfold mkAt lft
  simp only
  rw [tm_id h0 (by omega)]
  split
  · omega
  · unfold tm bring at *
    split <;> (try split) <;> omega
theorem Upto.take {each burst : Int} {ms : List Mk} {t now n T : Int} (ho : Rt.Ok each burst ms) (h : Upto ms T) (hT : T ≤ 1099511627776) (hn : now ≤ T) (hT0 : 0 ≤ T) : Upto (Rt.take each burst ms t now n).1 T := by
  unfold Rt.take
  split
  · split
    · exact h
    · rename_i hc _
      intro m hm
      rcases List.mem_or_eq_of_mem_set hm with hm | rfl
      · exact h m hm
      · refine mkAt_upto (each := each) (burst := burst) ?_ ?_ hT hn
        · by_cases hl : t.toNat < ms.length
          · unfold Rt.get
            rw [List.getD_eq_getElem?_getD, List.getElem?_eq_getElem hl]
            exact (ho.bd _ (List.getElem_mem _)).1
          · unfold Rt.get
            rw [List.getD_eq_getElem?_getD, List.getElem?_eq_none (by omega)]
            exact Int.le_refl _
        · by_cases hl : t.toNat < ms.length
          · unfold Rt.get
            rw [List.getD_eq_getElem?_getD, List.getElem?_eq_getElem hl]
            exact h _ (List.getElem_mem _)
          · unfold Rt.get
            rw [List.getD_eq_getElem?_getD, List.getElem?_eq_none (by omega)]
            exact hT0
  · exact h
theorem lft_of {a b : Int} (h0 : 0 ≤ a) (h : a ≤ b) (h1 : b ≤ 1099511627776) : lft a b = b - a := by
  unfold lft
  rw [tm_id h0 (by omega), tm_id (by omega) h1]
  split <;> omega
section
variable {each burst : Int} {ms : List Mk} {t now n : Int}
/-- Below 0: it isn't taken. -/
theorem after_neg (ho : Rt.Ok each burst ms) (h : Rt.after each burst ms t now n < 0) : (Rt.take each burst ms t now n).2 ≠ 0 := by
  unfold Rt.after at h
  unfold Rt.take
  split
  · rename_i hc
    rw [if_pos hc.1] at h
    split
    · exact (by decide : (2 : Int) ≠ 0)
    · rename_i hlt
      rw [if_pos (by omega)] at h
      exact absurd h (by decide)
  · exact (by decide : (1 : Int) ≠ 0)
theorem after_k (ho : Rt.Ok each burst ms) (hu : Upto ms now) (hn : now ≤ 549755813888) (h : 0 ≤ Rt.after each burst ms t now n) :
    Rt.after each burst ms t now n ≤ 1000 ∧ n ≤ Rt.left each burst ms t (now + Rt.after each burst ms t now n) ∧ (0 < Rt.after each burst ms t now n → Rt.left each burst ms t (now + Rt.after each burst ms t now n - 1) < n) := by
  have hA : Rt.after each burst ms t now n = Rt.after each burst ms t now n := rfl
  generalize hk : Rt.after each burst ms t now n = k at h ⊢
  unfold Rt.after at hk
  by_cases hc : Rt.ok t = true
  · rw [if_pos hc] at hk
    unfold Rt.left
    rw [if_pos hc, if_pos hc]
    have ht : 0 ≤ t ∧ t < 4 := by simpa [Rt.ok] using hc
    have hbd := ho.get_bd t.toNat (by omega)
    have hle : (ms.getD t.toNat (0, 0)).1 ≤ now := by
      have hl := ho.len
      rw [List.getD_eq_getElem?_getD, List.getElem?_eq_getElem (by omega)]
      exact hu _ (List.getElem_mem _)
    change (if n ≤ (mkAt each burst (ms.getD t.toNat (0, 0)) now).2 then (0 : Int) else _) = k at hk
    change k ≤ 1000 ∧ n ≤ (mkAt each burst (ms.getD t.toNat (0, 0)) (now + k)).2 ∧ (0 < k → (mkAt each burst (ms.getD t.toNat (0, 0)) (now + k - 1)).2 < n)
    have he := ho.eb
    have hb := ho.bb
    unfold Rt.get at hk
    generalize ms.getD t.toNat (0, 0) = m at *
    obtain ⟨a, l⟩ := m
    simp only at hbd hle
    unfold mkAt at hk ⊢
    simp only at hk ⊢
    rw [lft_of hbd.1 hle (by omega)] at hk
    split at hk
    · rename_i hnl
      subst hk
      rw [Int.add_zero, lft_of hbd.1 hle (by omega)]
      exact ⟨by decide, hnl, fun h => absurd h (by decide)⟩
    · rename_i hnl
      split at hk
      · subst hk
        exact absurd h (by decide)
      · rename_i hnb
        have hnb1 : n ≤ burst := by omega
        have he1 : 1 ≤ each := by omega
        have hL : min (l + each * (now - a)) burst = l + each * (now - a) := by omega
        rw [hL] at hk hnl
        have hnn : 0 ≤ each * (now - a) := Int.mul_nonneg he.1 (by omega)
        generalize hE : l + each * (now - a) = L at *
        have hk1 : each * k ≤ n - L + each - 1 := by rw [← hk]; exact Int.mul_ediv_self_le (by omega)
        have hk2 : n - L + each - 1 < each * k + each := by
          have := Int.lt_mul_ediv_self_add (x := n - L + each - 1) (show 0 < each by omega)
          rw [hk] at this
          exact this
        have hk0 : k ≤ each * k := by
          have := Int.mul_le_mul_of_nonneg_right he1 h
          omega
        have hkm : k ≤ 1000 := by
          by_cases hkk : k ≤ 1000
          · exact hkk
          · exfalso
            have h1 : each * 1001 ≤ each * k := Int.mul_le_mul_of_nonneg_left (by omega) he.1
            omega
        refine ⟨hkm, ?_, fun hkp => ?_⟩
        · rw [lft_of hbd.1 (by omega) (by omega), show now + k - a = (now - a) + k by omega, Int.mul_add]
          omega
        · rw [lft_of hbd.1 (by omega) (by omega), show now + k - 1 - a = (now - a) + (k - 1) by omega, Int.mul_add, Int.mul_sub each k 1, Int.mul_one]
          omega
  · rw [if_neg hc] at hk
    subst hk
    exact absurd h (by decide)
end
end Go.Proofs.Ytkmafgmlcocjiaa
