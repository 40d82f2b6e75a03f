/- Quota against its reference: what one takes and gives, the other counts. Plain lemmas, and the reference's two calls in these words. -/
import Derived.Test.YtkmafgmlcocjiaaQd
namespace Go.Proofs.Ytkmafgmlcocjiaa
open Go.RowKit Qt

/-- The list of takers and the counts agree. -/
structure Agrees (xs u : List Int) : Prop where
  len : u.length = 4
  is : ∀ t : Nat, t < 4 → u.getD t 0 = (cnt t xs : Int)
  ok : ∀ x ∈ xs, 0 ≤ x ∧ x < 4

theorem agrees_nil : Agrees [] [0, 0, 0, 0] := by
  refine ⟨rfl, fun t ht => ?_, by simp⟩
  match t, ht with
  | 0, _ => rfl
  | 1, _ => rfl
  | 2, _ => rfl
  | 3, _ => rfl

theorem cnt_other {xs : List Int} {t : Int} (h : ∀ x ∈ xs, 0 ≤ x ∧ x < 4) (ht : ¬ (0 ≤ t ∧ t < 4)) : cnt t xs = 0 := by
  unfold cnt
  rw [List.countP_eq_zero]
  intro x hx hxt
  have := h x hx
  have e : x = t := by simpa using hxt
  omega

theorem agrees_get {xs u : List Int} (h : Agrees xs u) {t : Int} (ht : 0 ≤ t ∧ t < 4) : qget u t = (cnt t xs : Int) := by
  unfold qget
  rw [h.is t.toNat (by omega), Int.toNat_of_nonneg ht.1]

theorem agrees_used {xs u : List Int} (h : Agrees xs u) (t : Int) : used u t = (cnt t xs : Int) := by
  unfold used
  by_cases ht : 0 ≤ t ∧ t < 4
  · rw [if_pos (by simp [ok]; omega), agrees_get h ht]
  · rw [if_neg (by simp [ok]; omega), cnt_other h.ok ht]
    rfl

theorem cnt_all : ∀ {xs : List Int}, (∀ x ∈ xs, 0 ≤ x ∧ x < 4) → cnt 0 xs + cnt 1 xs + cnt 2 xs + cnt 3 xs = xs.length
  | [], _ => rfl
  | x :: xs, h => by
    have hx := h x (by simp)
    have ih := cnt_all (xs := xs) (fun y hy => h y (by simp [hy]))
    unfold cnt at *
    simp only [List.countP_cons, List.length_cons]
    have : x = 0 ∨ x = 1 ∨ x = 2 ∨ x = 3 := by omega
    rcases this with rfl | rfl | rfl | rfl <;> simp <;> omega

theorem agrees_all {xs u : List Int} (h : Agrees xs u) : all u = (xs.length : Int) := by
  have h0 := h.is 0 (by omega)
  have h1 := h.is 1 (by omega)
  have h2 := h.is 2 (by omega)
  have h3 := h.is 3 (by omega)
  have hc := cnt_all h.ok
  have hl := h.len
  match u, hl with
  | [x0, x1, x2, x3], _ =>
    simp at h0 h1 h2 h3
    simp [all]
    omega

theorem cnt_append (t : Int) (xs ys : List Int) : cnt t (xs ++ ys) = cnt t xs + cnt t ys := by simp [cnt]

theorem getD_set (u : List Int) (i j : Nat) (x : Int) (hi : i < u.length) : (u.set i x).getD j 0 = if i = j then x else u.getD j 0 := by
  by_cases h : i = j
  · subst h; rw [if_pos rfl]; simp [hi]
  · rw [if_neg h]; simp [h]

theorem agrees_put {xs u : List Int} (h : Agrees xs u) {t : Int} (ht : 0 ≤ t ∧ t < 4) : Agrees (xs ++ [t]) (u.set t.toNat (qget u t + 1)) := by
  refine ⟨by simp [h.len], fun s hs => ?_, fun x hx => ?_⟩
  · rw [getD_set _ _ _ _ (by rw [h.len]; omega), cnt_append]
    by_cases e : t.toNat = s
    · rw [if_pos e, agrees_get h ht]
      have : (s : Int) = t := by omega
      rw [this]
      simp [cnt]
    · rw [if_neg e, h.is s hs]
      have : (t == (s : Int)) = false := by simp; omega
      simp [cnt, this]
  · rcases List.mem_append.1 hx with hx | hx
    · exact h.ok x hx
    · simp at hx; subst hx; exact ht

theorem agrees_drop {xs u ys : List Int} (h : Agrees xs u) {t : Int} (ht : 0 ≤ t ∧ t < 4) (hw : Without xs t ys) : Agrees ys (u.set t.toNat (qget u t - 1)) ∧ 1 ≤ qget u t ∧ ys.length ≤ xs.length := by
  obtain ⟨k, hk, hx, rfl⟩ := hw
  have hxs : xs = xs.take k ++ ([t] ++ xs.drop (k + 1)) := by
    have h1 : xs[k] = t := by rw [← hx, List.getD_eq_getElem?_getD, List.getElem?_eq_getElem hk]; rfl
    rw [List.singleton_append, ← h1, ← List.drop_eq_getElem_cons hk, List.take_append_drop]
  have hc : ∀ s, cnt s xs = cnt s (xs.take k) + (cnt s [t] + cnt s (xs.drop (k + 1))) := fun s => by
    conv => lhs; rw [hxs]
    rw [cnt_append, cnt_append]
  have hct : cnt t [t] = 1 := by simp [cnt]
  refine ⟨⟨by simp [h.len], fun s hs => ?_, fun x hx => ?_⟩, ?_, ?_⟩
  · rw [getD_set _ _ _ _ (by rw [h.len]; omega), cnt_append]
    by_cases e : t.toNat = s
    · rw [if_pos e, agrees_get h ht]
      have : (s : Int) = t := by omega
      rw [this, hc t, hct]
      omega
    · rw [if_neg e, h.is s hs, hc s]
      have : (t == (s : Int)) = false := by simp; omega
      have : cnt (s : Int) [t] = 0 := by simp [cnt, this]
      omega
  · apply h.ok
    rcases List.mem_append.1 hx with hx | hx
    · exact List.mem_of_mem_take hx
    · exact List.mem_of_mem_drop hx
  · rw [agrees_get h ht, hc t, hct]; omega
  · simp; omega

theorem give_inv {xs u : List Int} (hA : Agrees xs u) (t : Int) (v : Value) (w : World) (hs : Sl w v xs.length (ints xs)) (hlen : xs.length ≤ 1000) :
    Calls Try.prog 34 #[v, .int .i64 t] w fun e w' => ∃ v' ys, e = .returned (.tuple #[v', .int .i64 (give u t).2]) ∧ Sl w' v' ys.length (ints ys) ∧ Agrees ys (give u t).1 ∧ Frm0 w w' ∧ ys.length ≤ xs.length + 1 ∧
      (∀ b, b < w.heap.size → v.ownBlock ≠ some b → v'.ownBlock ≠ some b) := by
  by_cases ht : 0 ≤ t ∧ t < 4
  · have hok : ok t = true := by simp [ok]; omega
    refine (rgive_any xs t v w hs hlen ht.1 (by omega)).mono ?_
    rintro e w' (⟨hno, rfl, rfl⟩ | ⟨v', ys, hw, rfl, ho, hf⟩)
    · have h0 : qget u t = 0 := by
        rw [agrees_get hA ht]
        have : cnt t xs = 0 := by
          unfold cnt
          rw [List.countP_eq_zero]
          intro x hx hxt
          exact hno x hx (by simpa using hxt)
        omega
      have hg : give u t = (u, 6) := by unfold give; rw [if_pos hok, if_pos h0]
      rw [hg]
      exact ⟨v, xs, rfl, hs, hA, Frm.refl _ _, by omega, fun _ _ h => h⟩
    · obtain ⟨h1, h2, h3⟩ := agrees_drop hA ht hw
      have hg : give u t = (u.set t.toNat (qget u t - 1), 0) := by unfold give; rw [if_pos hok, if_neg (by omega)]
      rw [hg]
      exact ⟨v', ys, rfl, Sl.of_own ho, h1, hf, by omega, fun b hb _ hk => by have := (ho.lt b hk).1; omega⟩
  · have hg : give u t = (u, 1) := by unfold give; rw [if_neg (by simp [ok]; omega)]
    rw [hg]
    refine (rgive_bad t v w (by omega)).mono ?_
    rintro e w' ⟨rfl, rfl⟩
    exact ⟨v, xs, rfl, hs, hA, Frm.refl _ _, by omega, fun _ _ h => h⟩

theorem take_inv {xs u : List Int} (hA : Agrees xs u) (most t : Int) (v : Value) (w : World) (hs : Sl w v xs.length (ints xs)) (hlen : xs.length ≤ 999) :
    Calls Try.prog 36 #[v, .int .i64 most, .int .i64 t] w fun e w' => ∃ v' ys, e = .returned (.tuple #[v', .int .i64 (take (rmost most) u t).2]) ∧ Sl w' v' ys.length (ints ys) ∧ Agrees ys (take (rmost most) u t).1 ∧ Frm0 w w' ∧ ys.length ≤ xs.length + 1 ∧
      (∀ b, b < w.heap.size → v.ownBlock ≠ some b → v'.ownBlock ≠ some b) := by
  by_cases ht : 0 ≤ t ∧ t < 4
  · have hok : ok t = true := by simp [ok]; omega
    have hg := agrees_get hA ht
    by_cases hf : rmost most ≤ qget u t
    · have hr : take (rmost most) u t = (u, 2) := by unfold take; rw [if_pos hok, if_pos hf]
      rw [hr]
      refine (rtake_full xs t most v w hs ht.1 (by omega) (by omega)).mono ?_
      rintro e w' ⟨rfl, rfl⟩
      exact ⟨v, xs, rfl, hs, hA, Frm.refl _ _, by omega, fun _ _ h => h⟩
    · have hr : take (rmost most) u t = (u.set t.toNat (qget u t + 1), 0) := by unfold take; rw [if_pos hok, if_neg hf]
      rw [hr]
      refine (rtake_ok xs t most v w hs (by omega) ht.1 (by omega) (by omega)).mono ?_
      rintro e w' ⟨v', rfl, ho, hfr⟩
      have hl : (xs ++ [t]).length = xs.length + 1 := by simp
      exact ⟨v', xs ++ [t], rfl, by rw [hl]; exact Sl.of_own ho, agrees_put hA ht, hfr, by simp, fun b hb _ hk => by have := (ho.lt b hk).1; omega⟩
  · have hr : take (rmost most) u t = (u, 1) := by unfold take; rw [if_neg (by simp [ok]; omega)]
    rw [hr]
    refine (rtake_bad t most v w (by omega)).mono ?_
    rintro e w' ⟨rfl, rfl⟩
    exact ⟨v, xs, rfl, hs, hA, Frm.refl _ _, by omega, fun _ _ h => h⟩
end Go.Proofs.Ytkmafgmlcocjiaa
