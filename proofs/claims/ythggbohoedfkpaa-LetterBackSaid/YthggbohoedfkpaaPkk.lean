/- The walk of the reference's First, and of the closures of PackReads. -/
import Derived.Test.YthggbohoedfkpaaPkj
import Derived.Deep.RegionHeld3
import Derived.Test.YthggbohoedfkpaaM
namespace Go.Proofs.Ythggbohoedfkpaa
open Go.RowKit Go.ChangeShapes Go.WideShapes
set_option linter.unusedVariables false
set_option linter.unusedSimpArgs false
set_option maxRecDepth 100000
namespace Pk
set_option maxHeartbeats 2000000 in
set_option maxRecDepth 100000 in
theorem rfirst_any (s : ByteArray) (w : World) (hs : s.size ≤ 1000000) :
    Calls Try.prog 66 #[.string s] w fun e w' => e = .returned (.tuple #[.int .i64 ((fk s).1 : Nat), .int .i64 ((fk s).2 : Nat)]) ∧ Frm0 w w' := by
  obtain ⟨R, hR⟩ : ∃ R, fk s = R := ⟨_, rfl⟩
  rw [hR]
  have HR := Lib.hid hR
  clear hR
  go_enter Try.func66, Try.ntmps66
  go_wp2_with fail
  go_loopw [4, 5] (fun x i wr => ∃ (k n : Nat), k ≤ 9 ∧ k ≤ s.size ∧ x = .int .i64 n ∧ i = .int .i64 k ∧ n < 128 ^ k ∧ Hid (far s k n) ∧ Frm0 w wr) (fun _ i _ => 9 - (intOf i).toNat)
  case atStart => exact ⟨0, 0, by omega, by omega, rfl, rfl, by decide, .inl ⟨rfl, rfl⟩, Frm.refl _ _⟩
  case round =>
    obtain ⟨k, n, hk9, hks, rfl, rfl, hn, hfar, hF⟩ := hrel
    by_cases hend : k = s.size ∨ 9 ≤ k
    · have e := fk_none (far_end hfar.out hks hend hk9)
      rw [HR.out] at e
      subst e
      have hcs : (decide ((k : Int) < (s.size : Int)) = false ∧ ¬ k < s.size) ∨ (decide ((k : Int) < (s.size : Int)) = true ∧ k < s.size ∧ decide ((k : Int) < 9) = false ∧ ¬ k < 9) := by
        simp only [decide_eq_true_eq, decide_eq_false_iff_not]; omega
      clear hend hn hfar HR
      rcases hcs with ⟨d1, d1'⟩ | ⟨d1, d1', d2, d2'⟩
      all_goals
        go_wp2
        go_ret2
        exact ⟨rfl, hF⟩
    · have hk : k < s.size := by omega
      have h9 : k < 9 := by omega
      have hki : (k : Int) < (s.size : Int) := by omega
      have d1 : decide ((k : Int) < (s.size : Int)) = true := decide_eq_true hki
      have d2 : decide ((k : Int) < 9) = true := decide_eq_true (by omega)
      have hn56 : n < 72057594037927936 := Nat.lt_of_lt_of_le hn (Nat.le_trans (Nat.pow_le_pow_right (by omega) (show k ≤ 8 by omega)) (by decide))
      have hclt : (s[k]'hk).toNat < 256 := UInt8.toNat_lt _
      have hn128 : n * 128 + (s[k]'hk).toNat % 128 < 128 ^ (k + 1) := by rw [Nat.pow_succ]; omega
      have HN128 := Lib.hid hn128
      have e1 : IntKind.i64.wrap ((n : Int) * 128) = (n : Int) * 128 := IntWalk.i64_in _ (by omega)
      clear hend
      by_cases hc : (s[k]'hk).toNat < 128
      · have hm : n * 128 + (s[k]'hk).toNat % 128 = n * 128 + (s[k]'hk).toNat := by omega
        obtain ⟨m, hmd⟩ : ∃ m, n * 128 + (s[k]'hk).toNat % 128 = m := ⟨_, rfl⟩
        have hmi : (n : Int) * 128 + ((s[k]'hk).toNat : Int) % 128 = (m : Int) := by omega
        have hmb : m ≤ 9223372036854775807 := by omega
        have e2 : IntKind.i64.wrap ((n : Int) * 128 + ((s[k]'hk).toNat : Int) % 128) = (m : Int) := by rw [hmi]; exact IntWalk.i64_in _ (by omega)
        have d3 : decide (((s[k]'hk).toNat : Int) < 128) = true := decide_eq_true (by omega)
        have d4 : decide ((m : Int) < 0) = false := decide_eq_false (by omega)
        have hcases : (4611686018427387904 < m ∧ R = (0, 0)) ∨ (m ≤ 4611686018427387904 ∧ R = (0, 0) ∧ txt (numB m) ≠ s.extract 0 (k + 1)) ∨ (m ≤ 4611686018427387904 ∧ R = (m, k + 1) ∧ txt (numB m) = s.extract 0 (k + 1)) := by
          by_cases h128 : 0 < k ∧ b0 s = 128
          · have e := fk_none (rd_no128 (s := s) (by omega) h128.2)
            rw [HR.out] at e
            by_cases hbig : 4611686018427387904 < m
            · exact .inl ⟨hbig, e⟩
            · exact .inr (.inl ⟨by omega, e, far_128 hk h128.1 h128.2⟩)
          · obtain ⟨g1, g2⟩ := far_got hfar.out hk h9 hc h128
            rw [hmd] at g1 g2
            by_cases hbig : 4611686018427387904 < m
            · have e := fk_none (gn_none g1 (.inr (.inr (by omega))))
              rw [HR.out] at e
              exact .inl ⟨hbig, e⟩
            · have e := fk_some (gn_some g1 (by omega)) (k := k + 1) (by rw [ByteArray.size_extract]; omega)
              rw [HR.out] at e
              exact .inr (.inr ⟨by omega, e, g2⟩)
        have HC := Lib.hid hcases
        have HNM := Lib.hid (fun w => rnum_any m w hmb)
        have k1i : ((k : Int) + 1) ≤ (s.size : Int) := by omega
        have k1 : k + 1 ≤ s.size := by omega
        have k2i : (0 : Int) ≤ (k : Int) + 1 := by omega
        have k3i : IntKind.i64.wrap ((k : Int) + 1) = (k : Int) + 1 := IntWalk.i64_in _ (by omega)
        have k4i : ((k : Int) + 1).toNat = k + 1 := by omega
        clear hcases hn hn128 hm hmd
        generalize txt (numB m) = X at *
        rcases HC.out with ⟨hb, rfl⟩ | ⟨hb, rfl, hX⟩ | ⟨hb, rfl, hX⟩
        · have d5 : decide ((4611686018427387904 : Int) < (m : Int)) = true := decide_eq_true (by omega)
          have d6 : ¬ m ≤ 4611686018427387904 := by omega
          have d7 : 4611686018427387904 < m := hb
          clear HC hb hfar HR HN128
          go_wp2_with fail
          go_quiet (fail)
          go_wp2
          go_ret2
          exact ⟨rfl, hF.drewN _⟩
        · have d5 : decide ((4611686018427387904 : Int) < (m : Int)) = false := decide_eq_false (by omega)
          have d7 : ¬ 4611686018427387904 < m := by omega
          have hxx : (X.toList == (s.extract 0 (k + 1)).toList) = false := str_ne hX
          clear HC hfar HR HN128
          go_wp2_with fail
          go_region_held3 (fun w' => True ∧ Frm0 w w')
            (first
              | exact ⟨trivial, hF.drew⟩
              | exact held_thenF (by assumption) hf9)
            (first
              | (go_at_call 48; refine (HNM.out _).mono ?_; rintro e w9 ⟨rfl, hf9⟩))
          have hF1 := held_frmF (by assumption)
          go_wp2
          go_ret2
          exact ⟨rfl, hF1⟩
        · have d5 : decide ((4611686018427387904 : Int) < (m : Int)) = false := decide_eq_false (by omega)
          have d7 : ¬ 4611686018427387904 < m := by omega
          have hxx : (X.toList == (s.extract 0 (k + 1)).toList) = true := str_eq hX
          clear HC hfar HR HN128
          go_wp2_with fail
          go_region_held3 (fun w' => True ∧ Frm0 w w')
            (first
              | exact ⟨trivial, hF.drew⟩
              | exact held_thenF (by assumption) hf9)
            (first
              | (go_at_call 48; refine (HNM.out _).mono ?_; rintro e w9 ⟨rfl, hf9⟩))
          have hF1 := held_frmF (by assumption)
          go_wp2
          go_ret2
          exact ⟨by simp, hF1⟩
      · have hfm := Lib.hid (far_more hfar.out hk h9 hc)
        obtain ⟨m, hmd⟩ : ∃ m, n * 128 + (s[k]'hk).toNat % 128 = m := ⟨_, rfl⟩
        have hmi : (n : Int) * 128 + ((s[k]'hk).toNat : Int) % 128 = (m : Int) := by omega
        have e2 : IntKind.i64.wrap ((n : Int) * 128 + ((s[k]'hk).toNat : Int) % 128) = (m : Int) := by rw [hmi]; exact IntWalk.i64_in _ (by omega)
        have d3 : decide (((s[k]'hk).toNat : Int) < 128) = false := decide_eq_false (by omega)
        rw [hmd] at hfm HN128
        clear hn hn128 hmd hmi hfar
        go_wp2_with fail
        go_roundw
        case rel => exact ⟨k + 1, m, by omega, by omega, rfl, by go_num, HN128.out, hfm, hF⟩
        case measure => simp [intOf]; omega
end Pk
end Go.Proofs.Ythggbohoedfkpaa
