/- The reference's First answers as the program's. -/
import Derived.Test.YthmhihmbciigdaaFrb
import Derived.Test.YthmhihmbciigdaaM
namespace Go.Proofs.Ythmhihmbciigdaa
open Go.RowKit
set_option linter.unusedVariables false
set_option linter.unusedSimpArgs false

theorem sealed_iff (h a b : ByteArray) (hab : h = a ++ b) : sealed a = h ↔ four (crcOf (bytes a)) = b := by
  subst hab
  unfold sealed
  constructor
  · intro e
    have := congrArg (fun x => x.extract a.size (a.size + 4)) e
    refine (ByteArray.append_right_inj a).1 e
  · intro e
    rw [e]
theorem sealed_iff_ext (s : ByteArray) (i k j : Nat) (h1 : i ≤ k) (h2 : k ≤ j) : sealed (s.extract i k) = s.extract i j ↔ four (crcOf (bytes (s.extract i k))) = s.extract k j :=
  sealed_iff _ _ _ (ByteArray.extract_eq_extract_append_extract k h1 h2)

set_option maxHeartbeats 2000000 in
theorem rfirst_sum (s : ByteArray) (w : World) (hs : s.size ≤ 4294960000) (h6 : ¬ s.size < 6) (h1 : sealed (s.extract 0 2) ≠ s.extract 0 6) :
    Calls Try.prog 21 #[.string s] w fun e w' => e = .returned (.tuple #[.string (fst s).1, .int .i64 ((fst s).2.1 : Nat), .int .i64 ((fst s).2.2 : Nat)]) ∧ Frm0 w w' := by
  rw [fst_sum h6 h1]
  have hne : four (crcOf (bytes (s.extract 0 2))) ≠ s.extract 2 6 := fun e => h1 ((sealed_iff_ext s 0 2 6 (by omega) (by omega)).2 e)
  have HF := Lib.hid (fun w => four_any (s.extract 0 2) w (by rw [ByteArray.size_extract]; omega))
  generalize four (crcOf (bytes (s.extract 0 2))) = A1 at *
  have hb := str_ne hne
  clear h1 hne
  have k1 : 2 ≤ s.size := by omega
  have k2 : (2 : Int) ≤ (s.size : Int) := by omega
  have k3 : 6 ≤ s.size := by omega
  have k4 : (6 : Int) ≤ (s.size : Int) := by omega
  go_enter Try.func21, Try.ntmps21
  go_wp2_with fail
  go_region_held3 (fun w' => True ∧ Frm0 w w')
    (first
      | exact ⟨trivial, (Frm.refl _ _).drew⟩
      | exact held_thenF (by assumption) hf')
    (first
      | (go_at_call 57; refine (HF.out _).mono ?_; rintro e w' ⟨rfl, hf'⟩))
  go_wp2
  go_ret3
  exact ⟨rfl, held_frmF (by assumption)⟩

set_option maxHeartbeats 2000000 in
theorem rfirst_big (s : ByteArray) (w : World) (hs : s.size ≤ 4294960000) (h6 : ¬ s.size < 6) (h1 : ¬ sealed (s.extract 0 2) ≠ s.extract 0 6) (h2 : 2000 < sz s) :
    Calls Try.prog 21 #[.string s] w fun e w' => e = .returned (.tuple #[.string (fst s).1, .int .i64 ((fst s).2.1 : Nat), .int .i64 ((fst s).2.2 : Nat)]) ∧ Frm0 w w' := by
  have h1' : four (crcOf (bytes (s.extract 0 2))) = s.extract 2 6 := (sealed_iff_ext s 0 2 6 (by omega) (by omega)).1 (Classical.not_not.1 h1)
  have HF := Lib.hid (show ∀ w, Calls Try.prog 57 #[.string (s.extract 0 2)] w fun e w' => e = .returned (.string (s.extract 2 6)) ∧ Frm0 w w' from fun w => h1' ▸ four_any (s.extract 0 2) w (by rw [ByteArray.size_extract]; omega))
  have hz := sz_eq s (by omega) (by omega)
  have hb0 : (s[0]'(by omega)).toNat < 256 := UInt8.toNat_lt _
  have hb1 : (s[1]'(by omega)).toNat < 256 := UInt8.toNat_lt _
  have hsz : ((s[0]'(by omega)).toNat : Int) * (256 : Int) + ((s[1]'(by omega)).toNat : Int) = (sz s : Int) := by rw [hz]; simp
  have HSZ := Lib.hid hsz
  have e1 : IntKind.i64.wrap (((s[0]'(by omega)).toNat : Int) * 256) = ((s[0]'(by omega)).toNat : Int) * 256 := IntWalk.i64_in _ (by omega)
  have e2 : IntKind.i64.wrap (((s[0]'(by omega)).toNat : Int) * 256 + ((s[1]'(by omega)).toNat : Int)) = ((s[0]'(by omega)).toNat : Int) * 256 + ((s[1]'(by omega)).toNat : Int) := IntWalk.i64_in _ (by omega)
  have hzl := sz_lt s
  rw [fst_big h6 h1 h2]
  clear h1 h1' hz hsz
  generalize sz s = z at *
  have k1 : 2 ≤ s.size := by omega
  have k2 : (2 : Int) ≤ (s.size : Int) := by omega
  have k3 : 6 ≤ s.size := by omega
  have k4 : (6 : Int) ≤ (s.size : Int) := by omega
  go_enter Try.func21, Try.ntmps21
  go_wp2_with fail
  go_region_held3 (fun w' => True ∧ Frm0 w w')
    (first
      | exact ⟨trivial, (Frm.refl _ _).drew⟩
      | exact held_thenF (by assumption) hf')
    (first
      | (go_at_call 57; refine (HF.out _).mono ?_; rintro e w' ⟨rfl, hf'⟩))
  have hF1 := held_frmF (by assumption)
  go_wp2_with fail
  have hs0 : 0 < s.size := by omega
  have hs1 : 1 < s.size := by omega
  have hs2 : (1 : Int) < (s.size : Int) := by omega
  have hs3 : decide (1 < s.size) = true := by simp; omega
  have e3 : IntKind.i64.wrap ((s[0]'(by omega)).toNat : Int) = ((s[0]'(by omega)).toNat : Int) := IntWalk.i64_in _ (by omega)
  have e4 : IntKind.i64.wrap ((s[1]'(by omega)).toNat : Int) = ((s[1]'(by omega)).toNat : Int) := IntWalk.i64_in _ (by omega)
  go_quiet (fail)
  rw [HSZ.out]
  go_wp2
  go_ret3
  exact ⟨rfl, hF1.drewN _⟩

set_option maxHeartbeats 2000000 in
theorem rfirst_cut (s : ByteArray) (w : World) (hs : s.size ≤ 4294960000) (h6 : ¬ s.size < 6) (h1 : ¬ sealed (s.extract 0 2) ≠ s.extract 0 6) (h2 : ¬ 2000 < sz s) (h3 : s.size < sz s + 10) :
    Calls Try.prog 21 #[.string s] w fun e w' => e = .returned (.tuple #[.string (fst s).1, .int .i64 ((fst s).2.1 : Nat), .int .i64 ((fst s).2.2 : Nat)]) ∧ Frm0 w w' := by
  have h1' : four (crcOf (bytes (s.extract 0 2))) = s.extract 2 6 := (sealed_iff_ext s 0 2 6 (by omega) (by omega)).1 (Classical.not_not.1 h1)
  have HF := Lib.hid (show ∀ w, Calls Try.prog 57 #[.string (s.extract 0 2)] w fun e w' => e = .returned (.string (s.extract 2 6)) ∧ Frm0 w w' from fun w => h1' ▸ four_any (s.extract 0 2) w (by rw [ByteArray.size_extract]; omega))
  have hz := sz_eq s (by omega) (by omega)
  have hb0 : (s[0]'(by omega)).toNat < 256 := UInt8.toNat_lt _
  have hb1 : (s[1]'(by omega)).toNat < 256 := UInt8.toNat_lt _
  have hsz : ((s[0]'(by omega)).toNat : Int) * (256 : Int) + ((s[1]'(by omega)).toNat : Int) = (sz s : Int) := by rw [hz]; simp
  have HSZ := Lib.hid hsz
  have e1 : IntKind.i64.wrap (((s[0]'(by omega)).toNat : Int) * 256) = ((s[0]'(by omega)).toNat : Int) * 256 := IntWalk.i64_in _ (by omega)
  have e2 : IntKind.i64.wrap (((s[0]'(by omega)).toNat : Int) * 256 + ((s[1]'(by omega)).toNat : Int)) = ((s[0]'(by omega)).toNat : Int) * 256 + ((s[1]'(by omega)).toNat : Int) := IntWalk.i64_in _ (by omega)
  have hzl := sz_lt s
  rw [fst_cut h6 h1 h2 h3]
  clear h1 h1' hz hsz
  generalize sz s = z at *
  have k1 : 2 ≤ s.size := by omega
  have k2 : (2 : Int) ≤ (s.size : Int) := by omega
  have k3 : 6 ≤ s.size := by omega
  have k4 : (6 : Int) ≤ (s.size : Int) := by omega
  go_enter Try.func21, Try.ntmps21
  go_wp2_with fail
  go_region_held3 (fun w' => True ∧ Frm0 w w')
    (first
      | exact ⟨trivial, (Frm.refl _ _).drew⟩
      | exact held_thenF (by assumption) hf')
    (first
      | (go_at_call 57; refine (HF.out _).mono ?_; rintro e w' ⟨rfl, hf'⟩))
  have hF1 := held_frmF (by assumption)
  go_wp2_with fail
  have hs0 : 0 < s.size := by omega
  have hs1 : 1 < s.size := by omega
  have hs2 : (1 : Int) < (s.size : Int) := by omega
  have hs3 : decide (1 < s.size) = true := by simp; omega
  have e3 : IntKind.i64.wrap ((s[0]'(by omega)).toNat : Int) = ((s[0]'(by omega)).toNat : Int) := IntWalk.i64_in _ (by omega)
  have e4 : IntKind.i64.wrap ((s[1]'(by omega)).toNat : Int) = ((s[1]'(by omega)).toNat : Int) := IntWalk.i64_in _ (by omega)
  go_quiet (fail)
  rw [HSZ.out]
  go_wp2
  go_ret3
  exact ⟨rfl, hF1.drewN _⟩

set_option maxHeartbeats 2000000 in
theorem rfirst_rot (s : ByteArray) (w : World) (hs : s.size ≤ 4294960000) (h6 : ¬ s.size < 6) (h1 : ¬ sealed (s.extract 0 2) ≠ s.extract 0 6) (h2 : ¬ 2000 < sz s) (h3 : ¬ s.size < sz s + 10) (h4 : sealed (s.extract 6 (sz s + 6)) ≠ s.extract 6 (sz s + 10)) :
    Calls Try.prog 21 #[.string s] w fun e w' => e = .returned (.tuple #[.string (fst s).1, .int .i64 ((fst s).2.1 : Nat), .int .i64 ((fst s).2.2 : Nat)]) ∧ Frm0 w w' := by
  have h1' : four (crcOf (bytes (s.extract 0 2))) = s.extract 2 6 := (sealed_iff_ext s 0 2 6 (by omega) (by omega)).1 (Classical.not_not.1 h1)
  have HF := Lib.hid (show ∀ w, Calls Try.prog 57 #[.string (s.extract 0 2)] w fun e w' => e = .returned (.string (s.extract 2 6)) ∧ Frm0 w w' from fun w => h1' ▸ four_any (s.extract 0 2) w (by rw [ByteArray.size_extract]; omega))
  have hz := sz_eq s (by omega) (by omega)
  have hb0 : (s[0]'(by omega)).toNat < 256 := UInt8.toNat_lt _
  have hb1 : (s[1]'(by omega)).toNat < 256 := UInt8.toNat_lt _
  have hsz : ((s[0]'(by omega)).toNat : Int) * (256 : Int) + ((s[1]'(by omega)).toNat : Int) = (sz s : Int) := by rw [hz]; simp
  have HSZ := Lib.hid hsz
  have e1 : IntKind.i64.wrap (((s[0]'(by omega)).toNat : Int) * 256) = ((s[0]'(by omega)).toNat : Int) * 256 := IntWalk.i64_in _ (by omega)
  have e2 : IntKind.i64.wrap (((s[0]'(by omega)).toNat : Int) * 256 + ((s[1]'(by omega)).toNat : Int)) = ((s[0]'(by omega)).toNat : Int) * 256 + ((s[1]'(by omega)).toNat : Int) := IntWalk.i64_in _ (by omega)
  have hzl := sz_lt s
  have hne : four (crcOf (bytes (s.extract 6 (sz s + 6)))) ≠ s.extract (sz s + 6) (sz s + 10) := fun e => h4 ((sealed_iff_ext s 6 (sz s + 6) (sz s + 10) (by omega) (by omega)).2 e)
  have HF2 := Lib.hid (fun w => four_any (s.extract 6 (sz s + 6)) w (by rw [ByteArray.size_extract]; omega))
  rw [fst_rot h6 h1 h2 h3 h4]
  generalize four (crcOf (bytes (s.extract 6 (sz s + 6)))) = A2 at *
  have hbn := str_ne hne
  clear h4 hne
  clear h1 h1' hz hsz
  generalize sz s = z at *
  have k1 : 2 ≤ s.size := by omega
  have k2 : (2 : Int) ≤ (s.size : Int) := by omega
  have k3 : 6 ≤ s.size := by omega
  have k4 : (6 : Int) ≤ (s.size : Int) := by omega
  go_enter Try.func21, Try.ntmps21
  go_wp2_with fail
  go_region_held3 (fun w' => True ∧ Frm0 w w')
    (first
      | exact ⟨trivial, (Frm.refl _ _).drew⟩
      | exact held_thenF (by assumption) hf')
    (first
      | (go_at_call 57; refine (HF.out _).mono ?_; rintro e w' ⟨rfl, hf'⟩))
  have hF1 := held_frmF (by assumption)
  go_wp2_with fail
  have hs0 : 0 < s.size := by omega
  have hs1 : 1 < s.size := by omega
  have hs2 : (1 : Int) < (s.size : Int) := by omega
  have hs3 : decide (1 < s.size) = true := by simp; omega
  have e3 : IntKind.i64.wrap ((s[0]'(by omega)).toNat : Int) = ((s[0]'(by omega)).toNat : Int) := IntWalk.i64_in _ (by omega)
  have e4 : IntKind.i64.wrap ((s[1]'(by omega)).toNat : Int) = ((s[1]'(by omega)).toNat : Int) := IntWalk.i64_in _ (by omega)
  go_quiet (fail)
  rw [HSZ.out]
  go_wp2_with fail
  have hFq := hF1.drewN nq
  have t6 : ((z : Int) + 6).toNat = z + 6 := by omega
  have t10 : ((z : Int) + 10).toNat = z + 10 := by omega
  have hbn2 : (A2.toList == (s.extract ((z : Int) + 6).toNat ((z : Int) + 10).toNat).toList) = false := by rw [t6, t10]; exact hbn
  have e5 : IntKind.i64.wrap ((z : Int) + 6) = (z : Int) + 6 := IntWalk.i64_in _ (by omega)
  have e6 : IntKind.i64.wrap ((z : Int) + 10) = (z : Int) + 10 := IntWalk.i64_in _ (by omega)
  have e7 : (z : Int) + 6 ≤ (s.size : Int) := by omega
  have e8 : (z : Int) + 10 ≤ (s.size : Int) := by omega
  have e9 : (6 : Int) ≤ (z : Int) + 6 := by omega
  have e10 : (z : Int) + 6 ≤ (z : Int) + 10 := by omega
  have e11 : (0 : Int) ≤ (z : Int) + 6 := by omega
  go_region_held3 (fun w' => True ∧ Frm0 w w')
    (first
      | exact ⟨trivial, hFq.drew⟩
      | exact held_thenF (by assumption) hf9)
    (first
      | (go_at_call 57; refine (HF2.out _).mono ?_; rintro e w' ⟨rfl, hf9⟩))
  have hF2 := held_frmF (by assumption)
  go_wp2
  go_ret3
  exact ⟨rfl, hF2⟩

set_option maxHeartbeats 2000000 in
theorem rfirst_got (s : ByteArray) (w : World) (hs : s.size ≤ 4294960000) (h6 : ¬ s.size < 6) (h1 : ¬ sealed (s.extract 0 2) ≠ s.extract 0 6) (h2 : ¬ 2000 < sz s) (h3 : ¬ s.size < sz s + 10) (h4 : ¬ sealed (s.extract 6 (sz s + 6)) ≠ s.extract 6 (sz s + 10)) :
    Calls Try.prog 21 #[.string s] w fun e w' => e = .returned (.tuple #[.string (fst s).1, .int .i64 ((fst s).2.1 : Nat), .int .i64 ((fst s).2.2 : Nat)]) ∧ Frm0 w w' := by
  have h1' : four (crcOf (bytes (s.extract 0 2))) = s.extract 2 6 := (sealed_iff_ext s 0 2 6 (by omega) (by omega)).1 (Classical.not_not.1 h1)
  have HF := Lib.hid (show ∀ w, Calls Try.prog 57 #[.string (s.extract 0 2)] w fun e w' => e = .returned (.string (s.extract 2 6)) ∧ Frm0 w w' from fun w => h1' ▸ four_any (s.extract 0 2) w (by rw [ByteArray.size_extract]; omega))
  have hz := sz_eq s (by omega) (by omega)
  have hb0 : (s[0]'(by omega)).toNat < 256 := UInt8.toNat_lt _
  have hb1 : (s[1]'(by omega)).toNat < 256 := UInt8.toNat_lt _
  have hsz : ((s[0]'(by omega)).toNat : Int) * (256 : Int) + ((s[1]'(by omega)).toNat : Int) = (sz s : Int) := by rw [hz]; simp
  have HSZ := Lib.hid hsz
  have e1 : IntKind.i64.wrap (((s[0]'(by omega)).toNat : Int) * 256) = ((s[0]'(by omega)).toNat : Int) * 256 := IntWalk.i64_in _ (by omega)
  have e2 : IntKind.i64.wrap (((s[0]'(by omega)).toNat : Int) * 256 + ((s[1]'(by omega)).toNat : Int)) = ((s[0]'(by omega)).toNat : Int) * 256 + ((s[1]'(by omega)).toNat : Int) := IntWalk.i64_in _ (by omega)
  have hzl := sz_lt s
  have h4' : four (crcOf (bytes (s.extract 6 (sz s + 6)))) = s.extract (sz s + 6) (sz s + 10) := (sealed_iff_ext s 6 (sz s + 6) (sz s + 10) (by omega) (by omega)).1 (Classical.not_not.1 h4)
  have HF2 := Lib.hid (fun w => four_any (s.extract 6 (sz s + 6)) w (by rw [ByteArray.size_extract]; omega))
  rw [h4'] at HF2
  rw [fst_got h6 h1 h2 h3 h4]
  clear h4 h4'
  clear h1 h1' hz hsz
  generalize sz s = z at *
  have k1 : 2 ≤ s.size := by omega
  have k2 : (2 : Int) ≤ (s.size : Int) := by omega
  have k3 : 6 ≤ s.size := by omega
  have k4 : (6 : Int) ≤ (s.size : Int) := by omega
  go_enter Try.func21, Try.ntmps21
  go_wp2_with fail
  go_region_held3 (fun w' => True ∧ Frm0 w w')
    (first
      | exact ⟨trivial, (Frm.refl _ _).drew⟩
      | exact held_thenF (by assumption) hf')
    (first
      | (go_at_call 57; refine (HF.out _).mono ?_; rintro e w' ⟨rfl, hf'⟩))
  have hF1 := held_frmF (by assumption)
  go_wp2_with fail
  have hs0 : 0 < s.size := by omega
  have hs1 : 1 < s.size := by omega
  have hs2 : (1 : Int) < (s.size : Int) := by omega
  have hs3 : decide (1 < s.size) = true := by simp; omega
  have e3 : IntKind.i64.wrap ((s[0]'(by omega)).toNat : Int) = ((s[0]'(by omega)).toNat : Int) := IntWalk.i64_in _ (by omega)
  have e4 : IntKind.i64.wrap ((s[1]'(by omega)).toNat : Int) = ((s[1]'(by omega)).toNat : Int) := IntWalk.i64_in _ (by omega)
  go_quiet (fail)
  rw [HSZ.out]
  go_wp2_with fail
  have hFq := hF1.drewN nq
  have t6 : ((z : Int) + 6).toNat = z + 6 := by omega
  have t10 : ((z : Int) + 10).toNat = z + 10 := by omega
  have hbn2 : ((s.extract (z + 6) (z + 10)).toList == (s.extract ((z : Int) + 6).toNat ((z : Int) + 10).toNat).toList) = true := by rw [t6, t10]; exact beq_iff_eq.2 rfl
  have e5 : IntKind.i64.wrap ((z : Int) + 6) = (z : Int) + 6 := IntWalk.i64_in _ (by omega)
  have e6 : IntKind.i64.wrap ((z : Int) + 10) = (z : Int) + 10 := IntWalk.i64_in _ (by omega)
  have e7 : (z : Int) + 6 ≤ (s.size : Int) := by omega
  have e8 : (z : Int) + 10 ≤ (s.size : Int) := by omega
  have e9 : (6 : Int) ≤ (z : Int) + 6 := by omega
  have e10 : (z : Int) + 6 ≤ (z : Int) + 10 := by omega
  have e11 : (0 : Int) ≤ (z : Int) + 6 := by omega
  go_region_held3 (fun w' => True ∧ Frm0 w w')
    (first
      | exact ⟨trivial, hFq.drew⟩
      | exact held_thenF (by assumption) hf9)
    (first
      | (go_at_call 57; refine (HF2.out _).mono ?_; rintro e w' ⟨rfl, hf9⟩))
  have hF2 := held_frmF (by assumption)
  go_wp2
  go_ret3
  exact ⟨by simp, hF2⟩

theorem rfirst_any (s : ByteArray) (w : World) (hs : s.size ≤ 4294960000) :
    Calls Try.prog 21 #[.string s] w fun e w' => e = .returned (.tuple #[.string (fst s).1, .int .i64 ((fst s).2.1 : Nat), .int .i64 ((fst s).2.2 : Nat)]) ∧ Frm0 w w' := by
  by_cases h6 : s.size < 6
  · rw [fst_six h6]
    go_enter Try.func21, Try.ntmps21
    go_wp2
    go_ret3
    exact ⟨rfl, Frm.refl _ _⟩
  by_cases h1 : sealed (s.extract 0 2) ≠ s.extract 0 6
  · exact rfirst_sum s w hs h6 h1
  by_cases h2 : 2000 < sz s
  · exact rfirst_big s w hs h6 h1 h2
  by_cases h3 : s.size < sz s + 10
  · exact rfirst_cut s w hs h6 h1 h2 h3
  by_cases h4 : sealed (s.extract 6 (sz s + 6)) ≠ s.extract 6 (sz s + 10)
  · exact rfirst_rot s w hs h6 h1 h2 h3 h4
  · exact rfirst_got s w hs h6 h1 h2 h3 h4
end Go.Proofs.Ythmhihmbciigdaa
