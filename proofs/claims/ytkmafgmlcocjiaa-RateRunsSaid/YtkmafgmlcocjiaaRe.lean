/- The plain law of RateWindow. -/
import Derived.Test.YtkmafgmlcocjiaaRc
namespace Go.Proofs.Ytkmafgmlcocjiaa
open Go.RowKit Rt
set_option linter.unusedVariables false
set_option linter.unusedSimpArgs false

theorem get_set_eq {ms : List Mk} {t : Int} (h : t.toNat < ms.length) (m : Mk) : Rt.get (ms.set t.toNat m) t = m := by
  unfold Rt.get
  rw [List.getD_eq_getElem?_getD, List.getElem?_set_self h]
  rfl
theorem get_set_ne {ms : List Mk} {t t' : Int} (h0 : 0 ≤ t) (h0' : 0 ≤ t') (h : t' ≠ t) (m : Mk) : Rt.get (ms.set t'.toNat m) t = Rt.get ms t := by
  unfold Rt.get
  rw [List.getD_eq_getElem?_getD, List.getElem?_set_ne (by omega), ← List.getD_eq_getElem?_getD]
section
variable {each burst : Int} {ms ms' : List Mk} {t t' now n : Int}
/-- Another tenant's deed turns nothing of this one's mark. -/
theorem take_other (h0 : 0 ≤ t) (h : t' ≠ t) : Rt.get (Rt.take each burst ms t' now n).1 t = Rt.get ms t := by
  unfold Rt.take
  split
  · rename_i hc
    have ht : 0 ≤ t' ∧ t' < 4 := by simpa [Rt.ok] using hc.1
    split
    · rfl
    · exact get_set_ne h0 ht.1 h _
  · rfl
/-- What a deed answers, and leaves, hangs on the tenant's own mark alone. -/
theorem take_same (ho : Rt.Ok each burst ms) (ho' : Rt.Ok each burst ms') (h : Rt.get ms t = Rt.get ms' t) : (Rt.take each burst ms t now n).2 = (Rt.take each burst ms' t now n).2 ∧ Rt.get (Rt.take each burst ms t now n).1 t = Rt.get (Rt.take each burst ms' t now n).1 t := by
  unfold Rt.take
  rw [h]
  split
  · rename_i hc
    have ht : 0 ≤ t ∧ t < 4 := by simpa [Rt.ok] using hc.1
    have hl := ho.len
    have hl' := ho'.len
    split
    · exact ⟨rfl, h⟩
    · exact ⟨rfl, by rw [get_set_eq (by omega), get_set_eq (by omega)]⟩
  · exact ⟨rfl, h⟩
def mkGot (each burst : Int) (m : Mk) (now n : Int) : Mk := ((mkAt each burst m now).1, (mkAt each burst m now).2 - n)
theorem take_got (ho : Rt.Ok each burst ms) (h : (Rt.take each burst ms t now n).2 = 0) : 1 ≤ n ∧ n ≤ (mkAt each burst (Rt.get ms t) now).2 ∧ Rt.get (Rt.take each burst ms t now n).1 t = mkGot each burst (Rt.get ms t) now n := by
  unfold Rt.take at h ⊢
  split at h
  · rename_i hc
    have ht : 0 ≤ t ∧ t < 4 := by simpa [Rt.ok] using hc.1
    have hl := ho.len
    rw [if_pos hc]
    split at h
    · exact absurd h (by decide : ¬ (2 : Int) = 0)
    · rename_i hlt
      rw [if_neg hlt]
      exact ⟨hc.2, by omega, get_set_eq (by omega) _⟩
  · exact absurd h (by decide : ¬ (1 : Int) = 0)
theorem take_not (h : (Rt.take each burst ms t now n).2 ≠ 0) : (Rt.take each burst ms t now n).1 = ms := by
  unfold Rt.take at h ⊢
  split
  · rename_i hc
    rw [if_pos hc] at h
    split
    · rfl
    · rename_i hlt
      rw [if_neg hlt] at h
      exact absurd rfl h
  · rfl
end

def suf (xs : List (Int × Int)) (i : Nat) : Int := ((xs.drop i).map (·.2)).sum
theorem suf_step (xs : List (Int × Int)) (i : Nat) (h : i < xs.length) : suf xs i = suf xs (i + 1) + (xs.getD i (0, 0)).2 := by
  unfold suf
  rw [List.drop_eq_getElem_cons h, List.map_cons, List.sum_cons, List.getD_eq_getElem?_getD, List.getElem?_eq_getElem h]
  exact Int.add_comm _ _
theorem suf_end (xs : List (Int × Int)) : suf xs xs.length = 0 := by unfold suf; simp
theorem suf_app (xs : List (Int × Int)) (x : Int × Int) (i : Nat) (h : i ≤ xs.length) : suf (xs ++ [x]) i = suf xs i + x.2 := by
  unfold suf
  rw [List.drop_append_of_le_length h]
  simp
structure Win (each burst : Int) (m : Mk) (xs : List (Int × Int)) : Prop where
  sums : ∀ i, i < xs.length → suf xs i + m.2 ≤ burst + each * (m.1 - (xs.getD i (0, 0)).1)
  elts : ∀ i, i < xs.length → 0 ≤ (xs.getD i (0, 0)).1 ∧ (xs.getD i (0, 0)).1 ≤ m.1 ∧ 1 ≤ (xs.getD i (0, 0)).2 ∧ (xs.getD i (0, 0)).2 ≤ 1000
theorem Win.none (each burst : Int) (m : Mk) : Win each burst m [] := ⟨fun i h => absurd h (Nat.not_lt_zero _), fun i h => absurd h (Nat.not_lt_zero _)⟩
theorem getD_app_lt {xs : List (Int × Int)} {x : Int × Int} {i : Nat} (h : i < xs.length) : (xs ++ [x]).getD i (0, 0) = xs.getD i (0, 0) := by
  simp [List.getD_eq_getElem?_getD, List.getElem?_append_left h]
theorem getD_app_end (xs : List (Int × Int)) (x : Int × Int) : (xs ++ [x]).getD xs.length (0, 0) = x := by
  simp [List.getD_eq_getElem?_getD]
theorem Win.take {each burst : Int} {m : Mk} {xs : List (Int × Int)} {now n : Int} (h : Win each burst m xs) (he : 0 ≤ each ∧ each ≤ 1000) (hb : 1 ≤ burst ∧ burst ≤ 1000)
    (hm : 0 ≤ m.1 ∧ m.1 ≤ now ∧ now ≤ 1099511627776 ∧ 0 ≤ m.2) (h1 : 1 ≤ n) (h2 : n ≤ (mkAt each burst m now).2) : Win each burst (mkGot each burst m now n) (xs ++ [(now, n)]) ∧ (mkGot each burst m now n).1 = now := by
  unfold mkGot mkAt at *
  simp only at h2 ⊢
  rw [lft_of hm.1 hm.2.1 hm.2.2.1] at h2 ⊢
  have e1 : m.1 + (now - m.1) = now := by omega
  rw [e1]
  refine ⟨⟨fun i hi => ?_, fun i hi => ?_⟩, rfl⟩
  · rw [List.length_append, List.length_singleton] at hi
    by_cases hlt : i < xs.length
    · rw [suf_app _ _ _ (by omega), getD_app_lt hlt]
      have := h.sums i hlt
      simp only
      have hx : each * (now - (xs.getD i (0, 0)).1) = each * (m.1 - (xs.getD i (0, 0)).1) + each * (now - m.1) := by rw [← Int.mul_add]; congr 1; omega
      omega
    · obtain rfl : i = xs.length := by omega
      rw [suf_app _ _ _ (Nat.le_refl _), suf_end, getD_app_end]
      simp only
      rw [show now - now = 0 by omega, Int.mul_zero]
      omega
  · rw [List.length_append, List.length_singleton] at hi
    by_cases hlt : i < xs.length
    · rw [getD_app_lt hlt]
      have := h.elts i hlt
      simp only
      omega
    · obtain rfl : i = xs.length := by omega
      rw [getD_app_end]
      simp only
      omega
theorem Win.sum_bd {each burst : Int} {m : Mk} {xs : List (Int × Int)} (h : Win each burst m xs) (i : Nat) (hi : i ≤ xs.length) : 0 ≤ suf xs i ∧ suf xs i ≤ 1000 * ((xs.length : Int) - i) := by
  generalize hd : xs.length - i = d
  induction d generalizing i with
  | zero =>
    obtain rfl : i = xs.length := by omega
    rw [suf_end]
    omega
  | succ d ih =>
    have := ih (i + 1) (by omega) (by omega)
    have he := h.elts i (by omega)
    rw [suf_step xs i (by omega)]
    omega
end Go.Proofs.Ytkmafgmlcocjiaa
