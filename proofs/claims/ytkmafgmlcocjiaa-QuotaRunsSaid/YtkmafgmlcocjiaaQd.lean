/- What one tenant takes another one has no less for: the walk of QuotaApart. -/
import Derived.Test.YtkmafgmlcocjiaaQc
namespace Go.Proofs.Ytkmafgmlcocjiaa
open Go.RowKit Qt

theorem used_to {t : Int} {b : Nat} {most : Int} {u : List Int} {c : Int} {w : World} (hq : At w b most u) (h : used u t = c) :
    Calls Try.prog 40 #[.pointer (some ⟨b, 0, none⟩), .int .i64 t] w fun e w' => e = .returned (.int .i64 c) ∧ w = w' := by
  have := used_any t b most u w hq
  rw [h] at this
  exact this
theorem left_to {t : Int} {b : Nat} {most : Int} {u : List Int} {c : Int} {w : World} (hq : At w b most u) (h : left most u t = c) :
    Calls Try.prog 41 #[.pointer (some ⟨b, 0, none⟩), .int .i64 t] w fun e w' => e = .returned (.int .i64 c) ∧ ∃ n, w' = w.drewN n := by
  have := left_any t b most u w hq
  rw [h] at this
  exact this
theorem all_to {b : Nat} {most : Int} {u : List Int} {c : Int} {w : World} (hq : At w b most u) (h : all u = c) :
    Calls Try.prog 42 #[.pointer (some ⟨b, 0, none⟩)] w fun e w' => e = .returned (.int .i64 c) ∧ w = w' := by
  have := all_any b most u w hq
  rw [h] at this
  exact this

/-- Nobody but a took anything. -/
def Only (a : Int) (u : List Int) : Prop := u.length = 4 ∧ ∀ j : Nat, j < 4 → (j : Int) ≠ a → u.getD j 0 = 0
theorem only_zero (a : Int) : Only a [0, 0, 0, 0] := by
  refine ⟨rfl, fun j hj _ => ?_⟩
  match j, hj with
  | 0, _ => rfl
  | 1, _ => rfl
  | 2, _ => rfl
  | 3, _ => rfl
theorem only_take {a most : Int} {u : List Int} (h : Only a u) : Only a (take most u a).1 := by
  unfold take
  split
  · split
    · exact h
    · rename_i hok _
      refine ⟨by simp [h.1], fun j hj hne => ?_⟩
      have hj2 : a.toNat ≠ j := by simp [ok] at hok; omega
      rw [List.getD_eq_getElem?_getD, List.getElem?_set_ne hj2, ← List.getD_eq_getElem?_getD]
      exact h.2 j hj hne
  · exact h
theorem only_used {a b : Int} {u : List Int} (h : Only a u) (hne : a ≠ b) : used u b = 0 := by
  unfold used
  split
  · rename_i hok
    simp [ok] at hok
    exact h.2 b.toNat (by omega) (by omega)
  · rfl
theorem only_left {a b m : Int} {u : List Int} (h : Only a u) (hne : a ≠ b) : left m u b = left m [0, 0, 0, 0] b := by
  unfold left
  split
  · rename_i hok
    simp [ok] at hok
    have h1 := h.2 b.toNat (by omega) (by omega)
    have h2 := (only_zero a).2 b.toNat (by omega) (by omega)
    unfold qget
    rw [h1, h2]
  · rfl
theorem only_all {a : Int} {u : List Int} (h : Only a u) : all u = used u a := by
  obtain ⟨hl, h⟩ := h
  match u, hl with
  | [x0, x1, x2, x3], _ =>
    have h0 := h 0 (by omega)
    have h1 := h 1 (by omega)
    have h2 := h 2 (by omega)
    have h3 := h 3 (by omega)
    simp at h0 h1 h2 h3
    unfold used all qget
    by_cases hok : ok a = true
    · rw [if_pos hok]
      simp [ok] at hok
      have : a = 0 ∨ a = 1 ∨ a = 2 ∨ a = 3 := by omega
      rcases this with rfl | rfl | rfl | rfl <;> simp_all
    · rw [if_neg hok]
      simp [ok] at hok
      simp only [List.sum_cons, List.sum_nil]
      rw [h0 (by omega), h1 (by omega), h2 (by omega), h3 (by omega)]
      rfl
theorem used_le {w : World} {b : Nat} {most a : Int} {u : List Int} (h : At w b most u) : 0 ≤ used u a ∧ used u a ≤ most := by
  unfold used
  have := h.mb
  split
  · rename_i hok
    simp [ok] at hok
    exact h.get_bd a.toNat (by omega)
  · omega

set_option maxHeartbeats 1000000 in
theorem apart_walk (most : Int) (n : Int) (a b : Int) (w : World) (hn : 0 ≤ n ∧ n < 65536) :
    Calls Try.prog 10 #[.int .i64 most, .int .u16 n, .agg #[.int .i64 a, .int .i64 b]] w fun e w' => e = .returned (.bool true) ∧ Below w.heap.size w w' := by
  go_enter Try.func10, Try.ntmps10
  go_wp2_with fail
  go_quiet (fail)
  go_wp2_with fail
  refine (qawake _).mono ?_
  rintro e w1 ⟨rfl, hf1⟩
  have hf1' : Frm0 w w1 := ((((Frm.refl _ _).alloc _).drewN _).trans hf1)
  clear hf1
  go_wp2_with fail
  refine (new_any most _).mono ?_
  rintro e w2 ⟨rfl, hq2, hf2⟩
  have hF2 := hf1'.trans hf2
  have hsz1 := hf1'.size
  have hsz2 := hf2.size
  clear hf2
  generalize hqb : w1.heap.size = qb at *
  generalize hM : max (min most 200) 0 = m at *
  have HM := Lib.hid hM
  clear hM hqb
  go_wp2_with fail
  generalize hL : left m [0, 0, 0, 0] b = L
  have HL := Lib.hid hL
  clear hL
  refine (left_to hq2 HL.out).mono ?_
  rintro e w3 ⟨rfl, nd, rfl⟩
  have hq3 := hq2.drewN nd
  have hF3 := hF2.drewN nd
  have hsz3 : w2.heap.size = (w2.drewN nd).heap.size := rfl
  generalize w2.drewN nd = w3 at *
  clear hq2 hF2
  have hl3 := Bk.lt hq3.blk
  go_wp2
  go_loopw [26] (fun i wr => ∃ k : Nat, (k : Int) ≤ n % 300 ∧ i = .int .i64 k ∧ (∃ u, At wr qb m u ∧ Only a u) ∧ Frm0 w wr) (fun i _ => (n % 300).toNat - (intOf i).toNat)
  case atStart => exact ⟨0, by omega, rfl, ⟨_, hq3, only_zero a⟩, hF3⟩
  case round =>
    obtain ⟨k, hk, rfl, ⟨u, hqr, hor⟩, hFr⟩ := hrel
    by_cases hlt : (k : Int) < n % 300
    · go_wp2_with fail
      refine (take_any a qb m u _ hqr).mono ?_
      rintro e w4 ⟨rfl, hq4, hf4⟩
      go_wp2
      go_roundw
      case rel => exact ⟨k + 1, by omega, by go_num, ⟨_, hq4, only_take hor⟩, hFr.then_ hf4 (fun i hi h => by omega)⟩
      case measure => simp [intOf]; omega
    · have hub := used_le hqr (a := a)
      have hall := only_all hor
      generalize hA : used u a = A at *
      have HUA := Lib.hid hA
      have HALL := Lib.hid hall
      clear hA hall
      by_cases hab : a = b
      · have HQ := hqr
        have HFB := hFr.below (fun _ _ h => h)
        have hb1 : (a == b) = true := by simpa using hab
        clear hab
        go_wp2_with fail
        refine (all_to HQ HALL.out).mono ?_
        rintro e w5 ⟨rfl, rfl⟩
        go_wp2_with fail
        refine (used_to HQ HUA.out).mono ?_
        rintro e w5 ⟨rfl, rfl⟩
        go_wp2_with fail
        refine (used_to HQ HUA.out).mono ?_
        rintro e w5 ⟨rfl, rfl⟩
        go_wp2_with fail
        refine (most_any most _).mono ?_
        rintro e w5 ⟨he, rfl⟩
        rw [show rmost most = m from HM.out] at he
        subst he
        go_wp2_with fail
        refine (take_nil a _).mono ?_
        rintro e w5 ⟨rfl, rfl⟩
        go_wp2_with fail
        refine (give_nil a _).mono ?_
        rintro e w5 ⟨rfl, rfl⟩
        go_wp2_with fail
        refine (used_nil a _).mono ?_
        rintro e w5 ⟨rfl, rfl⟩
        go_wp2_with fail
        refine (left_nil a _).mono ?_
        rintro e w5 ⟨rfl, rfl⟩
        go_wp2_with fail
        refine (all_nil _).mono ?_
        rintro e w5 ⟨rfl, rfl⟩
        go_wp2
        go_ret
        exact ⟨rfl, HFB⟩
      · have hul := only_used hor hab
        have hle := (only_left (m := m) hor hab).trans HL.out
        have HUL := Lib.hid hul
        have HLE := Lib.hid hle
        have hb1 : (a == b) = false := by simpa using hab
        clear hul hle hab
        go_wp2_with fail
        refine (left_to hqr HLE.out).mono ?_
        rintro e w4 ⟨rfl, nd4, rfl⟩
        have HQ := hqr.drewN nd4
        have HFB := (hFr.drewN nd4).below (fun _ _ h => h)
        generalize wr.drewN nd4 = w4 at *
        go_wp2_with fail
        refine (used_to HQ HUL.out).mono ?_
        rintro e w5 ⟨rfl, rfl⟩
        go_wp2_with fail
        refine (all_to HQ HALL.out).mono ?_
        rintro e w5 ⟨rfl, rfl⟩
        go_wp2_with fail
        refine (used_to HQ HUA.out).mono ?_
        rintro e w5 ⟨rfl, rfl⟩
        go_wp2_with fail
        refine (used_to HQ HUA.out).mono ?_
        rintro e w5 ⟨rfl, rfl⟩
        go_wp2_with fail
        refine (most_any most _).mono ?_
        rintro e w5 ⟨he, rfl⟩
        rw [show rmost most = m from HM.out] at he
        subst he
        go_wp2_with fail
        refine (take_nil a _).mono ?_
        rintro e w5 ⟨rfl, rfl⟩
        go_wp2_with fail
        refine (give_nil a _).mono ?_
        rintro e w5 ⟨rfl, rfl⟩
        go_wp2_with fail
        refine (used_nil a _).mono ?_
        rintro e w5 ⟨rfl, rfl⟩
        go_wp2_with fail
        refine (left_nil a _).mono ?_
        rintro e w5 ⟨rfl, rfl⟩
        go_wp2_with fail
        refine (all_nil _).mono ?_
        rintro e w5 ⟨rfl, rfl⟩
        go_wp2
        go_ret
        exact ⟨rfl, HFB⟩
end Go.Proofs.Ytkmafgmlcocjiaa
