/- What the first frame of any bytes is: contracts of First, the program's and the reference's. -/
import Derived.Test.YthmhihmbciigdaaFra
import Derived.Deep.RegionHeld3
namespace Go.Proofs.Ythmhihmbciigdaa
open Go.RowKit
set_option linter.unusedVariables false
set_option linter.unusedSimpArgs false

theorem or_shift (a b : Nat) (hb : b < 256) : (a * 256) ||| b = a * 256 + b := by
  have := Nat.two_pow_add_eq_or_of_lt (i := 8) (b := b) (by omega) a
  rw [show 2 ^ 8 * a = a * 256 by omega] at this
  exact this.symm
theorem or_i64 (a b : Nat) (ha : a < 256) (hb : b < 256) : bits .or .i64 ((a : Int) * 256) (b : Int) = (a : Int) * 256 + (b : Int) := by
  unfold bits
  simp only
  rw [show ((a : Int) * 256) = ((a * 256 : Nat) : Int) by simp, BitVec.ofInt_natCast, BitVec.ofInt_natCast, BitVec.toNat_or, BitVec.toNat_ofNat, BitVec.toNat_ofNat, Nat.mod_eq_of_lt (by simp [IntKind.bits]; omega), Nat.mod_eq_of_lt (by simp [IntKind.bits]; omega), or_shift a b hb]
  rw [IntWalk.i64_in _ (by omega)]
  simp
theorem sz_eq (s : ByteArray) (h0 : 0 < s.size) (h1 : 1 < s.size) : sz s = (s[0]).toNat * 256 + (s[1]).toNat := by
  obtain ⟨⟨l⟩⟩ := s
  match l, h1 with
  | a :: b :: l, _ => rfl
theorem sz_lt (s : ByteArray) : sz s < 65536 := by
  unfold sz
  have := (s.data.toList.getD 0 0).toNat_lt
  have := (s.data.toList.getD 1 0).toNat_lt
  omega
theorem fst_six {s : ByteArray} (h : s.size < 6) : fst s = (⟨#[]⟩, 0, 3) := if_pos h
theorem fst_sum {s : ByteArray} (h : ¬ s.size < 6) (h1 : sealed (s.extract 0 2) ≠ s.extract 0 6) : fst s = (⟨#[]⟩, 0, 4) := by unfold fst; rw [if_neg h, if_pos h1]
theorem fst_big {s : ByteArray} (h : ¬ s.size < 6) (h1 : ¬ sealed (s.extract 0 2) ≠ s.extract 0 6) (h2 : 2000 < sz s) : fst s = (⟨#[]⟩, 0, 5) := by unfold fst; rw [if_neg h, if_neg h1, if_pos h2]
theorem fst_cut {s : ByteArray} (h : ¬ s.size < 6) (h1 : ¬ sealed (s.extract 0 2) ≠ s.extract 0 6) (h2 : ¬ 2000 < sz s) (h3 : s.size < sz s + 10) : fst s = (⟨#[]⟩, 0, 3) := by unfold fst; rw [if_neg h, if_neg h1, if_neg h2, if_pos h3]
theorem fst_rot {s : ByteArray} (h : ¬ s.size < 6) (h1 : ¬ sealed (s.extract 0 2) ≠ s.extract 0 6) (h2 : ¬ 2000 < sz s) (h3 : ¬ s.size < sz s + 10) (h4 : sealed (s.extract 6 (sz s + 6)) ≠ s.extract 6 (sz s + 10)) : fst s = (⟨#[]⟩, 0, 4) := by unfold fst; rw [if_neg h, if_neg h1, if_neg h2, if_neg h3, if_pos h4]
theorem fst_got {s : ByteArray} (h : ¬ s.size < 6) (h1 : ¬ sealed (s.extract 0 2) ≠ s.extract 0 6) (h2 : ¬ 2000 < sz s) (h3 : ¬ s.size < sz s + 10) (h4 : ¬ sealed (s.extract 6 (sz s + 6)) ≠ s.extract 6 (sz s + 10)) : fst s = (s.extract 6 (sz s + 6), sz s + 10, 0) := by unfold fst; rw [if_neg h, if_neg h1, if_neg h2, if_neg h3, if_neg h4]
theorem ext_ext0 (s : ByteArray) (i j k : Nat) (hk : i + k ≤ j) : (s.extract i j).extract 0 k = s.extract i (i + k) := by
  rw [ByteArray.extract_extract, Nat.add_zero, Nat.min_eq_left hk]

/-- Open, at any bytes of at least four. -/
theorem open_is (h : ByteArray) (m : ByteArray) (n : Nat) (w : World) (hn : h.size = n + 4) (h32 : n ≤ 4294967000) (hm : h.extract 0 n = m) :
    (sealed m = h → Calls Try.prog 56 #[.string h] w fun e w' => e = .returned (.tuple #[.string m, .bool true]) ∧ Frm0 w w') ∧
    (sealed m ≠ h → Calls Try.prog 56 #[.string h] w fun e w' => e = .returned (.tuple #[.string ⟨#[]⟩, .bool false]) ∧ Frm0 w w') := by
  have hm' : h.extract 0 (h.size - 4) = m := by rw [hn, Nat.add_sub_cancel]; exact hm
  refine ⟨fun hs => ?_, fun hs => ?_⟩
  · have := open_yes h w (by omega) (by omega) (by rw [hm']; exact hs)
    rw [hm'] at this
    exact this
  · exact open_no h w (by omega) (by omega) (by rw [hm']; exact hs)

set_option maxHeartbeats 2000000 in
theorem first_any (s : ByteArray) (w : World) (hs : s.size ≤ 4294960000) :
    Calls Try.prog 19 #[.string s] w fun e w' => e = .returned (.tuple #[.string (fst s).1, .int .i64 ((fst s).2.1 : Nat), .int .i64 ((fst s).2.2 : Nat)]) ∧ Frm0 w w' := by
  by_cases h6 : s.size < 6
  · rw [fst_six h6]
    go_enter Try.func19, Try.ntmps19
    go_wp2
    go_ret3
    exact ⟨rfl, Frm.refl _ _⟩
  have hx6 : (s.extract 0 6).size = 6 := by rw [ByteArray.size_extract]; omega
  have hx2 : (s.extract 0 2).size = 2 := by rw [ByteArray.size_extract]; omega
  have HO := Lib.hid (fun w => open_is (s.extract 0 6) (s.extract 0 2) 2 w hx6 (by omega) (ext_ext0 s 0 6 2 (by omega)))
  by_cases h1 : sealed (s.extract 0 2) ≠ s.extract 0 6
  · rw [fst_sum h6 h1]
    go_enter Try.func19, Try.ntmps19
    go_wp2_with fail
    refine ((HO.out _).2 h1).mono ?_
    rintro e w1 ⟨rfl, hf1⟩
    go_wp2
    go_ret3
    exact ⟨rfl, hf1⟩
  have h1' : sealed (s.extract 0 2) = s.extract 0 6 := Classical.not_not.1 h1
  have hz := sz_eq s (by omega) (by omega)
  have hm0 : (s.extract 0 2)[0]'(by omega) = s[0]'(by omega) := by rw [ByteArray.getElem_extract]
  have hm1 : (s.extract 0 2)[1]'(by omega) = s[1]'(by omega) := by rw [ByteArray.getElem_extract]
  have hzl := sz_lt s
  have hor : bits .or .i64 (((s[0]'(by omega)).toNat : Int) * 256) ((s[1]'(by omega)).toNat : Int) = ((sz s : Nat) : Int) := by
    rw [or_i64 _ _ (UInt8.toNat_lt _) (UInt8.toNat_lt _), hz]
    simp
  have hb0 : (s[0]'(by omega)).toNat < 256 := UInt8.toNat_lt _
  have hb1 : (s[1]'(by omega)).toNat < 256 := UInt8.toNat_lt _
  have HOR := Lib.hid hor
  clear hz hor
  by_cases h2 : 2000 < sz s
  · rw [fst_big h6 h1 h2]
    generalize sz s = z at *
    go_enter Try.func19, Try.ntmps19
    go_wp2_with fail
    refine ((HO.out _).1 h1').mono ?_
    rintro e w1 ⟨rfl, hf1⟩
    go_wp2_with fail
    go_quiet (fail)
    rw [HOR.out]
    go_wp2
    go_ret3
    exact ⟨rfl, hf1.drewN _⟩
  by_cases h3 : s.size < sz s + 10
  · rw [fst_cut h6 h1 h2 h3]
    generalize sz s = z at *
    go_enter Try.func19, Try.ntmps19
    go_wp2_with fail
    refine ((HO.out _).1 h1').mono ?_
    rintro e w1 ⟨rfl, hf1⟩
    go_wp2_with fail
    go_quiet (fail)
    rw [HOR.out]
    go_wp2_with (go_at_call 16; with_reducible refine (fsize_ok z _ (by omega)).mono ?_; rintro e w2 ⟨rfl, rfl⟩)
    go_ret3
    exact ⟨rfl, hf1.drewN _⟩
  have hy6 : (s.extract 6 (sz s + 10)).size = sz s + 4 := by rw [ByteArray.size_extract]; omega
  have HO2 := Lib.hid (fun w => open_is (s.extract 6 (sz s + 10)) (s.extract 6 (sz s + 6)) (sz s) w hy6 (by omega) (by rw [ext_ext0 s 6 (sz s + 10) (sz s) (by omega), Nat.add_comm]))
  by_cases h4 : sealed (s.extract 6 (sz s + 6)) ≠ s.extract 6 (sz s + 10)
  · rw [fst_rot h6 h1 h2 h3 h4]
    generalize sz s = z at *
    go_enter Try.func19, Try.ntmps19
    go_wp2_with fail
    refine ((HO.out _).1 h1').mono ?_
    rintro e w1 ⟨rfl, hf1⟩
    go_wp2_with fail
    go_quiet (fail)
    rw [HOR.out]
    go_wp2_with (go_at_call 16; with_reducible refine (fsize_ok z _ (by omega)).mono ?_; rintro e w2 ⟨rfl, rfl⟩)
    refine ((HO2.out _).2 h4).mono ?_
    rintro e w3 ⟨rfl, hf3⟩
    go_wp2
    go_ret3
    exact ⟨rfl, (hf1.drewN _).trans hf3⟩
  · have h4' := Classical.not_not.1 h4
    rw [fst_got h6 h1 h2 h3 h4]
    generalize sz s = z at *
    go_enter Try.func19, Try.ntmps19
    go_wp2_with fail
    refine ((HO.out _).1 h1').mono ?_
    rintro e w1 ⟨rfl, hf1⟩
    go_wp2_with fail
    go_quiet (fail)
    rw [HOR.out]
    go_wp2_with (go_at_call 16; with_reducible refine (fsize_ok z _ (by omega)).mono ?_; rintro e w2 ⟨rfl, rfl⟩)
    refine ((HO2.out _).1 h4').mono ?_
    rintro e w3 ⟨rfl, hf3⟩
    go_wp2
    go_ret3
    exact ⟨by simp, (hf1.drewN _).trans hf3⟩
end Go.Proofs.Ythmhihmbciigdaa
