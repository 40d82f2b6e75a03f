/- Check sums: the laws CrcAny and CrcTexts are walked; what is sealed is opened, with its own sum alone. -/
import Derived.Test.YtkmafgmlcocjiaaCrc
import Derived.Deep.RegionHeld3
namespace Go.Proofs.Ytkmafgmlcocjiaa
open Go.RowKit CrcMath
set_option linter.unusedVariables false

theorem bytes_append (a b : ByteArray) : bytes (a ++ b) = bytes a ++ bytes b := by
  unfold bytes
  rw [ByteArray.data_append, Array.toList_append, List.map_append]
theorem four_size (n : Nat) : (four n).size = 4 := rfl
theorem sealed_size (s : ByteArray) : (sealed s).size = s.size + 4 := by unfold sealed; rw [ByteArray.size_append, four_size]
theorem extract_app (a b : ByteArray) : (a ++ b).extract 0 a.size = a := by
  rw [ByteArray.extract_append]
  simp
theorem sealed_head (s : ByteArray) : (sealed s).extract 0 ((sealed s).size - 4) = s := by
  rw [sealed_size, Nat.add_sub_cancel]
  exact extract_app _ _
theorem open_sealed (s : ByteArray) (w : World) (hs : s.size ≤ 4294967200) :
    Calls Try.prog 27 #[.string (sealed s)] w fun e w' => e = .returned (.tuple #[.string s, .bool true]) ∧ Frm0 w w' := by
  have h := open_yes (sealed s) w (by rw [sealed_size]; omega) (by rw [sealed_size]; omega) (by rw [sealed_head])
  rwa [sealed_head] at h

theorem cawake (w : World) : Calls Try.prog 25 #[] w fun e w' => e = .returned (.bool true) ∧ Frm0 w w' := by
  have H9 := Lib.hid (show crcOf (bytes ⟨#[49, 50, 51, 52, 53, 54, 55, 56, 57]⟩) = 3421780262 by decide +kernel)
  have HO := Lib.hid (show ∀ w, Calls Try.prog 29 #[.string ⟨#[49, 50, 51, 52, 53, 54, 55, 56, 57]⟩] w fun e w' => e = .returned (.int .u32 3421780262) ∧ w = w' from fun w => by
    have := of_crc ⟨#[49, 50, 51, 52, 53, 54, 55, 56, 57]⟩ w (by decide)
    rw [H9.out] at this
    exact this)
  go_enter Try.func25, Try.ntmps25
  go_wp2_with fail
  refine (seal_crc ⟨#[97, 98, 99]⟩ _ (by decide)).mono ?_
  rintro e w1 ⟨rfl, hf1⟩
  go_wp2_with fail
  refine (open_sealed ⟨#[97, 98, 99]⟩ _ (by decide)).mono ?_
  rintro e w2 ⟨rfl, hf2⟩
  go_wp2_with fail
  refine (HO.out _).mono ?_
  rintro e w3 ⟨rfl, rfl⟩
  go_wp2
  go_ret
  exact ⟨rfl, hf1.trans hf2⟩
theorem any_walk (s : ByteArray) (w : World) (hs : s.size ≤ 9223372036854775807) :
    Calls Try.prog 8 #[.string s] w fun e w' => e = .returned (.bool true) ∧ Below w.heap.size w w' := by
  by_cases h2 : 200 < s.size
  · go_enter Try.func8, Try.ntmps8
    go_wp2_with (go_at_call 25; refine (cawake _).mono ?_; rintro e w1 ⟨rfl, hf1⟩)
    go_ret
    exact ⟨rfl, hf1.below (fun _ _ h => h)⟩
  · by_cases h4 : s.size < 4
    · go_enter Try.func8, Try.ntmps8
      go_wp2_with (first
        | (go_at_call 25; refine (cawake _).mono ?_; rintro e w1 ⟨rfl, hf1⟩)
        | (go_at_call 27; refine (open_short _ _ h4).mono ?_; rintro e w2 ⟨rfl, rfl⟩))
      go_ret
      exact ⟨rfl, hf1.below (fun _ _ h => h)⟩
    · by_cases h : sealed (s.extract 0 (s.size - 4)) = s
      · have HH := Lib.hid h
        have HS := Lib.hid (show ∀ w, Calls Try.prog 31 #[.string (s.extract 0 (s.size - 4))] w fun e w' => e = .returned (.string s) ∧ Frm0 w w' from fun w => by
          have := rseal_any (s.extract 0 (s.size - 4)) w (by rw [ByteArray.size_extract]; omega)
          rwa [h] at this)
        clear h
        go_enter Try.func8, Try.ntmps8
        go_wp2_with (first
          | (go_at_call 25; refine (cawake _).mono ?_; rintro e w1 ⟨rfl, hf1⟩)
          | (go_at_call 27; refine (open_yes _ _ (by omega) (by omega) HH.out).mono ?_; rintro e w2 ⟨rfl, hf2⟩)
          | (go_at_call 31; refine (HS.out _).mono ?_; rintro e w3 ⟨rfl, hf3⟩))
        go_ret
        exact ⟨rfl, ((hf1.trans hf2).trans hf3).below (fun _ _ h => h)⟩
      · have HH := Lib.hid h
        have hb := str_ne h
        clear h
        go_enter Try.func8, Try.ntmps8
        go_wp2_with (first
          | (go_at_call 25; refine (cawake _).mono ?_; rintro e w1 ⟨rfl, hf1⟩)
          | (go_at_call 27; refine (open_no _ _ (by omega) (by omega) HH.out).mono ?_; rintro e w2 ⟨rfl, hf2⟩)
          | (go_at_call 31; refine (rseal_any _ _ (by rw [ByteArray.size_extract]; omega)).mono ?_; rintro e w3 ⟨rfl, hf3⟩))
        go_ret
        exact ⟨rfl, ((hf1.trans hf2).trans hf3).below (fun _ _ h => h)⟩
end Go.Proofs.Ytkmafgmlcocjiaa
