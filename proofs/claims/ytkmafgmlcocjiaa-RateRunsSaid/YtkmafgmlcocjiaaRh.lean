/- What the reference of rate answers: Left, Take, After, New. -/
import Derived.Test.YtkmafgmlcocjiaaRg
namespace Go.Proofs.Ytkmafgmlcocjiaa
open Go.RowKit Rt
set_option linter.unusedVariables false
set_option linter.unusedSimpArgs false

theorem fldm (x y : Value) (w : World) : (Instr.field 88 (.agg #[x, y]) 1).run Try.prog w = .ok y w := by kernel_rfl
theorem rrleft_any (t now : Int) (rb mb cap : Nat) (each burst : Int) (ms : List Mk) (w : World) (hq : Rr.At w rb mb cap each burst ms) :
    Calls Try.prog 51 #[.pointer (some ⟨rb, 0, none⟩), .int .i64 t, .int .i64 now] w fun e w' => e = .returned (.int .i64 (Rt.left each burst ms t now)) ∧ Frm0 w w' := by
  by_cases h : 0 ≤ t ∧ t < 4
  · have HP : Rt.left each burst ms t now = (mkAt each burst (ms.getD t.toNat (0, 0)) now).2 := by unfold Rt.left; rw [if_pos (okT h)]; rfl
    rw [HP]
    clear HP
    obtain ⟨h0, h4⟩ := h
    obtain ⟨t, rfl⟩ := Int.eq_ofNat_of_zero_le h0
    have ht : t < 4 := by omega
    rw [Int.toNat_natCast]
    have HQ := hq
    have hfd := fldm
    have hd1 : decide ((3 : Int) < (t : Int)) = false := by simp; omega
    have hd2 : decide ((t : Int) < 0) = false := by simp
    go_enter Try.func51, Try.ntmps51
    go_wp2_with (go_at_call 59; refine (rrat_any t now rb mb cap each burst ms _ HQ ht).mono ?_; rintro e w' ⟨rfl, hf'⟩)
    go_ret
    exact ⟨rfl, hf'⟩
  · have HP : Rt.left each burst ms t now = 0 := by unfold Rt.left; rw [if_neg (okF h)]
    rw [HP]
    clear HP
    by_cases h0 : t < 0
    · clear h
      go_enter Try.func51, Try.ntmps51
      go_wp2
      go_ret
      exact ⟨rfl, Frm.refl _ _⟩
    · have hd1 : decide (t < 0) = false := decide_eq_false h0
      have hd2 : decide ((3 : Int) < t) = true := decide_eq_true (by omega)
      clear h
      go_enter Try.func51, Try.ntmps51
      go_wp2
      go_ret
      exact ⟨rfl, Frm.refl _ _⟩

set_option maxHeartbeats 1000000 in
theorem rrtake_any (t now n : Int) (rb mb cap : Nat) (each burst : Int) (ms : List Mk) (w : World) (hq : Rr.At w rb mb cap each burst ms) :
    Calls Try.prog 49 #[.pointer (some ⟨rb, 0, none⟩), .int .i64 t, .int .i64 now, .int .i64 n] w fun e w' => e = .returned (.int .i64 (Rt.take each burst ms t now n).2) ∧ Rr.At w' rb mb cap each burst (Rt.take each burst ms t now n).1 ∧ Frm (fun k => k = mb) w w' := by
  by_cases h0 : t < 0
  · have HP : Rt.take each burst ms t now n = (ms, 1) := by unfold Rt.take; rw [if_neg (fun h' => okF (by omega) h'.1)]
    rw [HP]
    clear HP
    go_enter Try.func49, Try.ntmps49
    go_wp2
    go_ret
    exact ⟨rfl, hq, Frm.refl _ _⟩
  have hd0 : decide (t < 0) = false := decide_eq_false h0
  by_cases h3 : 3 < t
  · have HP : Rt.take each burst ms t now n = (ms, 1) := by unfold Rt.take; rw [if_neg (fun h' => okF (by omega) h'.1)]
    rw [HP]
    clear HP
    have hd1 : decide (3 < t) = true := decide_eq_true h3
    go_enter Try.func49, Try.ntmps49
    go_wp2
    go_ret
    exact ⟨rfl, hq, Frm.refl _ _⟩
  have hd1 : decide (3 < t) = false := decide_eq_false h3
  by_cases hn : n < 1
  · have HP : Rt.take each burst ms t now n = (ms, 1) := by unfold Rt.take; rw [if_neg (fun h => by have := h.2; omega)]
    rw [HP]
    clear HP
    have hd2 : decide (n < 1) = true := decide_eq_true hn
    go_enter Try.func49, Try.ntmps49
    go_wp2
    go_ret
    exact ⟨rfl, hq, Frm.refl _ _⟩
  have hd2 : decide (n < 1) = false := decide_eq_false hn
  obtain ⟨t, rfl⟩ := Int.eq_ofNat_of_zero_le (by omega : 0 ≤ t)
  have ht : t < 4 := by omega
  have hr := mkAt_bd now hq.ok.eb hq.ok.bb (hq.ok.get_bd t ht)
  have hu := hq.ok.bb
  have HQ := hq
  have hlt := hq.lt
  have hlb := Bk.lt hq.blk
  have HT : Rt.take each burst ms (t : Int) now n = if (mkAt each burst (ms.getD t (0, 0)) now).2 < n then (ms, 2) else (ms.set t ((mkAt each burst (ms.getD t (0, 0)) now).1, (mkAt each burst (ms.getD t (0, 0)) now).2 - n), 0) := by
    unfold Rt.take Rt.get
    rw [if_pos ⟨okT (by omega), by omega⟩, Int.toNat_natCast]
  have HNOW := Lib.hid (rrat_any t now rb mb cap each burst ms _ hq ht)
  generalize mkAt each burst (ms.getD t (0, 0)) now = r at *
  obtain ⟨r1, r2⟩ := r
  simp only at hr HT HNOW
  by_cases hf : r2 < n
  · rw [HT, if_pos hf]
    clear HT
    go_enter Try.func49, Try.ntmps49
    go_wp2_with (go_at_call 59; refine HNOW.out.mono ?_; rintro e w' ⟨rfl, hf'⟩)
    go_ret
    exact ⟨rfl, hq.frm (hf'.alloc _) (fun h => h) (fun h => h), (hf'.of0).alloc _⟩
  · rw [HT, if_neg hf]
    clear HT
    go_enter Try.func49, Try.ntmps49
    go_wp2_with (go_at_call 59; refine HNOW.out.mono ?_; rintro e w' ⟨rfl, hf'⟩)
    have hq1 := hq.frm hf' (fun h => h) (fun h => h)
    have hl1 := hq1.lt
    have hs1 := hf'.size
    have hq2 := hq1.frm ((Frm.refl (fun _ => False) w').alloc (.cells #[.int .i64 r1, .int .i64 (r2 - n)] 88)) (fun h => h) (fun h => h)
    have hbx := Bk.new w' (.cells #[.int .i64 r1, .int .i64 (r2 - n)] 88)
    have hF2 := hf'.alloc (.cells #[.int .i64 r1, .int .i64 (r2 - n)] 88)
    have x0 : World.cell? (w'.alloc (.cells #[.int .i64 r1, .int .i64 (r2 - n)] 88)) ⟨w'.heap.size, 0, none⟩ = some (.int .i64 r1) := Bk.cell hbx 0
    have x1 : World.cell? (w'.alloc (.cells #[.int .i64 r1, .int .i64 (r2 - n)] 88)) ⟨w'.heap.size, 1, none⟩ = some (.int .i64 (r2 - n)) := Bk.cell hbx 1
    have c2 := hq2.c2
    obtain ⟨c3, c4⟩ := hq2.ct t ht
    have f3 := hq2.row.frozenAt (t * 2)
    have f4 := hq2.row.frozenAt (t * 2 + 1)
    have hl2 := hq2.lt
    clear hbx hq1
    generalize w'.alloc (.cells #[.int .i64 r1, .int .i64 (r2 - n)] 88) = w2 at *
    generalize w'.heap.size = xb at *
    clear HNOW hf'
    have h4 : (t : Int) < 4 := by omega
    refine st_tail 7 (by kernel_rfl) (by kernel_rfl) ?_
    simp only [List.take_succ_cons, List.take_zero, List.drop_succ_cons, List.drop_zero]
    repeat still_step
    refine wpStill_nil ?_
    go_wp2
    go_ret
    have hS := hq2.set t ht r1 (r2 - n) ⟨hr.1, hr.2.1, by omega, by omega⟩
    exact ⟨rfl, ⟨hS.ok, hS.blk, hS.row⟩, ((hF2.of0.set1 _ _).set1 _ _).drew⟩

set_option maxHeartbeats 1000000 in
theorem rrafter_any (t now n : Int) (rb mb cap : Nat) (each burst : Int) (ms : List Mk) (w : World) (hq : Rr.At w rb mb cap each burst ms) :
    Calls Try.prog 47 #[.pointer (some ⟨rb, 0, none⟩), .int .i64 t, .int .i64 now, .int .i64 n] w fun e w' => e = .returned (.int .i64 (Rt.after each burst ms t now n)) ∧ Frm0 w w' := by
  by_cases h0 : t < 0
  · have HP : Rt.after each burst ms t now n = -1 := by unfold Rt.after; rw [if_neg (okF (by omega))]
    rw [HP]
    clear HP
    go_enter Try.func47, Try.ntmps47
    go_wp2
    go_ret
    exact ⟨rfl, Frm.refl _ _⟩
  have hd0 : decide (t < 0) = false := decide_eq_false h0
  by_cases h3 : 3 < t
  · have HP : Rt.after each burst ms t now n = -1 := by unfold Rt.after; rw [if_neg (okF (by omega))]
    rw [HP]
    clear HP
    have hd1 : decide (3 < t) = true := decide_eq_true h3
    go_enter Try.func47, Try.ntmps47
    go_wp2
    go_ret
    exact ⟨rfl, Frm.refl _ _⟩
  have hd1 : decide (3 < t) = false := decide_eq_false h3
  obtain ⟨t, rfl⟩ := Int.eq_ofNat_of_zero_le (by omega : 0 ≤ t)
  have ht : t < 4 := by omega
  have hr := mkAt_bd now hq.ok.eb hq.ok.bb (hq.ok.get_bd t ht)
  have hu := hq.ok.bb
  have he := hq.ok.eb
  have hfd := fldm
  have hlt := hq.lt
  have hlb := Bk.lt hq.blk
  have HT : Rt.after each burst ms (t : Int) now n = if n ≤ (mkAt each burst (ms.getD t (0, 0)) now).2 then 0 else if burst < n ∨ each = 0 then -1 else (n - (mkAt each burst (ms.getD t (0, 0)) now).2 + each - 1) / each := by
    unfold Rt.after Rt.get
    rw [if_pos (okT (by omega)), Int.toNat_natCast]
  have HNOW := Lib.hid (rrat_any t now rb mb cap each burst ms _ hq ht)
  generalize mkAt each burst (ms.getD t (0, 0)) now = r at *
  obtain ⟨r1, r2⟩ := r
  simp only at hr HT HNOW
  by_cases hf : n ≤ r2
  · rw [HT, if_pos hf]
    clear HT
    go_enter Try.func47, Try.ntmps47
    go_wp2_with (go_at_call 59; refine HNOW.out.mono ?_; rintro e w' ⟨rfl, hf'⟩)
    go_ret
    exact ⟨rfl, hf'⟩
  by_cases hbu : burst < n
  · rw [HT, if_neg hf, if_pos (.inl hbu)]
    clear HT
    have hdb : decide (burst < n) = true := decide_eq_true hbu
    go_enter Try.func47, Try.ntmps47
    go_wp2_with (go_at_call 59; refine HNOW.out.mono ?_; rintro e w' ⟨rfl, hf'⟩; have c1 := (hq.frm hf' (fun h => h) (fun h => h)).c1)
    go_ret
    exact ⟨rfl, hf'⟩
  have hdb : decide (burst < n) = false := decide_eq_false hbu
  by_cases hz : each = 0
  · rw [HT, if_neg hf, if_pos (.inr hz)]
    clear HT
    have hzb : (each == 0) = true := by rw [beq_iff_eq]; exact hz
    clear hz
    go_enter Try.func47, Try.ntmps47
    go_wp2_with (go_at_call 59; refine HNOW.out.mono ?_; rintro e w' ⟨rfl, hf'⟩; have c0 := (hq.frm hf' (fun h => h) (fun h => h)).c0; have c1 := (hq.frm hf' (fun h => h) (fun h => h)).c1)
    go_ret
    exact ⟨rfl, hf'⟩
  rw [HT, if_neg hf, if_neg (by omega)]
  clear HT
  have hzb : (each == 0) = false := by rw [beq_eq_false_iff_ne]; exact hz
  have hk1 := Int.mul_ediv_self_le (x := n - r2 + each - 1) (k := each) (by omega)
  have hk2 := Int.lt_mul_ediv_self_add (x := n - r2 + each - 1) (show 0 < each by omega)
  have hk0 : 0 ≤ (n - r2 + each - 1) / each := Int.ediv_nonneg (by omega) (by omega)
  generalize (n - r2 + each - 1) / each = K at *
  obtain ⟨K, rfl⟩ := Int.eq_ofNat_of_zero_le hk0
  have hkm : (K : Int) ≤ each * K := by
    have := Int.mul_le_mul_of_nonneg_right (show (1 : Int) ≤ each by omega) hk0
    omega
  have hkk : ∀ j : Nat, j ≤ K → 0 ≤ each * (j : Int) ∧ each * (j : Int) ≤ each * (K : Int) ∧ (j < K → each * (j : Int) + each ≤ each * (K : Int)) := fun j hj =>
    ⟨Int.mul_nonneg he.1 (by omega), Int.mul_le_mul_of_nonneg_left (by omega) he.1, fun h => by
      have := Int.mul_le_mul_of_nonneg_left (show (j : Int) + 1 ≤ K by omega) he.1
      rw [Int.mul_add, Int.mul_one] at this
      exact this⟩
  have HK := Lib.hid (And.intro hk1 (And.intro hk2 (And.intro hkm hkk)))
  have hK1 : K ≤ 3000 := by omega
  clear hk1 hk2 hkm hkk hk0
  go_enter Try.func47, Try.ntmps47
  go_wp2_with (go_at_call 59; refine HNOW.out.mono ?_; rintro e w' ⟨rfl, hf'⟩; have c0 := (hq.frm hf' (fun h => h) (fun h => h)).c0; have c1 := (hq.frm hf' (fun h => h) (fun h => h)).c1)
  have hlb2 := hf'.size
  go_loop [9, 10] (fun a i => ∃ j : Nat, j ≤ K ∧ i = .int .i64 (j : Int) ∧ a = .int .i64 (r2 + each * (j : Int))) (fun _ i => K - (intOf i).toNat)
  case atStart => exact ⟨0, Nat.zero_le _, rfl, by simp⟩
  case round =>
    obtain ⟨j, hj, rfl, rfl⟩ := hrel
    obtain ⟨k1, k2, k3, k4⟩ := HK.out
    obtain ⟨j1, j2, j3⟩ := k4 j hj
    by_cases hlt' : j < K
    · have j4 := j3 hlt'
      have hnx : each * ((j + 1 : Nat) : Int) = each * (j : Int) + each := by rw [Int.natCast_add, Int.mul_add]; simp
      have hb1 : r2 + each * (j : Int) < n := by omega
      have hb2 : r2 + each * (j : Int) ≤ 100000 := by omega
      have HNX := Lib.hid hnx
      clear hnx j2 j3 j4 k1 k2 k3 k4
      generalize each * (j : Int) = E at *
      go_wp2
      go_round
      case rel => exact ⟨j + 1, by omega, by go_num, by rw [HNX.out, Int.add_assoc]⟩
      case measure => simp [intOf]; omega
    · obtain rfl : j = K := by omega
      have hb1 : n ≤ r2 + each * (j : Int) := by omega
      clear j2 j3 k1 k2 k3 k4
      generalize each * (j : Int) = E at *
      go_wp2
      go_ret
      exact ⟨rfl, hf'⟩
end Go.Proofs.Ytkmafgmlcocjiaa
