/- Check sums: the law CrcTexts is walked: in whatever parts a text comes its sum is the document's; sealed it is opened, with its own sum alone. -/
import Derived.Test.YtkmafgmlcocjiaaCrcl
namespace Go.Proofs.Ytkmafgmlcocjiaa
open Go.RowKit CrcMath
set_option linter.unusedVariables false
set_option linter.unusedSimpArgs false

theorem bytes_take (s : ByteArray) (k : Nat) : bytes (s.extract 0 k) = (bytes s).take k := by
  unfold bytes
  rw [ByteArray.data_extract, Array.toList_extract, List.map_take]
  simp [List.extract]
theorem bytes_drop (s : ByteArray) (k : Nat) : bytes (s.extract k s.size) = (bytes s).drop k := by
  unfold bytes
  rw [ByteArray.data_extract, Array.toList_extract]
  simp only [List.extract]
  rw [List.take_of_length_le (by rw [List.length_drop, Array.length_toList]; exact Nat.le_refl _), List.map_drop]
theorem crc_parts (s : ByteArray) (k : Nat) : crcNext (crcOf (bytes (s.extract 0 k))) (bytes (s.extract k s.size)) = crcOf (bytes s) := by
  unfold crcOf crcNext
  rw [inv32_inv (run_lt (inv32_lt _) (bytes_lt _)), bytes_take, bytes_drop, ← run_append, List.take_append_drop]
theorem four_inj {a b : Nat} (ha : a < 4294967296) (hb : b < 4294967296) (h : four a = four b) : a = b := by
  have h1 := congrArg (fun s : ByteArray => s.data.toList) h
  simp only [four, strOfNums_data, List.map_cons, List.map_nil, List.cons.injEq, and_true] at h1
  obtain ⟨h1, h2, h3, h4⟩ := h1
  have g1 := congrArg UInt8.toNat h1
  have g2 := congrArg UInt8.toNat h2
  have g3 := congrArg UInt8.toNat h3
  have g4 := congrArg UInt8.toNat h4
  simp only [UInt8.toNat_ofNat'] at g1 g2 g3 g4
  omega
theorem app_inj {s a b : ByteArray} (h : s ++ a = s ++ b) : a = b := by
  have h1 := congrArg (fun s : ByteArray => s.data.toList) h
  simp only [ByteArray.data_append, Array.toList_append, List.append_cancel_left_eq] at h1
  obtain ⟨⟨x⟩⟩ := a
  obtain ⟨⟨y⟩⟩ := b
  simp at h1
  subst h1
  rfl
theorem open_other (s : ByteArray) (o : Nat) (w : World) (hs : s.size ≤ 4294967200) (ho : o < 4294967296) :
    Calls Try.prog 27 #[.string (s ++ four o)] w fun e w' => (∃ t, e = .returned (.tuple #[.string t, .bool (o == crcOf (bytes s))])) ∧ Frm0 w w' := by
  have hz : (s ++ four o).size = s.size + 4 := by rw [ByteArray.size_append, four_size]
  have hx : (s ++ four o).extract 0 ((s ++ four o).size - 4) = s := by rw [hz, Nat.add_sub_cancel]; exact extract_app _ _
  by_cases h : o = crcOf (bytes s)
  · rw [show (o == crcOf (bytes s)) = true by simp [h]]
    refine (open_yes (s ++ four o) w (by omega) (by omega) (by rw [hx, h]; rfl)).mono ?_
    rintro e w' ⟨rfl, hf⟩
    exact ⟨⟨_, rfl⟩, hf⟩
  · rw [show (o == crcOf (bytes s)) = false by simp [h]]
    refine (open_no (s ++ four o) w (by omega) (by omega) (by rw [hx]; exact fun e => h (four_inj (crcOf_lt s) ho (app_inj e)).symm)).mono ?_
    rintro e w' ⟨rfl, hf⟩
    exact ⟨⟨_, rfl⟩, hf⟩

theorem held_then {w w1 w2 : World} {A : Prop} (h : A ∧ Frm0 w w1) (hf : Frm0 w1 w2) : True ∧ Frm0 w w2 := ⟨trivial, h.2.trans hf⟩
theorem held_below {w w1 : World} {A : Prop} (h : A ∧ Frm0 w w1) : Below w.heap.size w w1 := h.2.below (fun _ _ h => h)
set_option maxHeartbeats 2000000 in
set_option maxRecDepth 100000 in
theorem texts_walk (s : ByteArray) (cut o : Nat) (w : World) (hs : s.size ≤ 9223372036854775807) (hc : cut < 65536) (ho : o < 4294967296) :
    Calls Try.prog 6 #[.string s, .int .u16 cut, .int .u32 o] w fun e w' => e = .returned (.bool true) ∧ Below w.heap.size w w' := by
  by_cases h2 : 300 < s.size
  · go_enter Try.func6, Try.ntmps6
    go_wp2_with (go_at_call 25; refine (cawake _).mono ?_; rintro e w1 ⟨rfl, hf1⟩)
    go_ret
    exact ⟨rfl, hf1.below (fun _ _ h => h)⟩
  · have hn := crcOf_lt s
    have hk : cut % (s.size + 1) ≤ s.size := by have := Nat.mod_lt cut (show 0 < s.size + 1 by omega); omega
    have hki : ((cut : Int) % ((s.size : Int) + 1)) = ((cut % (s.size + 1) : Nat) : Int) := by simp
    have HK := Lib.hid hki
    clear hki
    have HP := Lib.hid (crc_parts s (cut % (s.size + 1)))
    generalize cut % (s.size + 1) = k at *
    have HO := Lib.hid (show ∀ w, Calls Try.prog 29 #[.string s] w fun e w' => e = .returned (.int .u32 (crcOf (bytes s) : Nat)) ∧ w = w' from fun w => of_crc s w hs)
    have HR := Lib.hid (show ∀ w, Calls Try.prog 26 #[.string s] w fun e w' => e = .returned (.int .u32 (crcOf (bytes s) : Nat)) ∧ w = w' from fun w => rof_any s w hs)
    have HX := Lib.hid (show ∀ w, Calls Try.prog 27 #[.string (s ++ strOfNums [(o : Int) / 16777216, (o : Int) / 65536 % 256, (o : Int) / 256 % 256, (o : Int) % 256])] w fun e w' => (∃ t, e = .returned (.tuple #[.string t, .bool (o == crcOf (bytes s))])) ∧ Frm0 w w' from fun w => open_other s o w (by omega) ho)
    have hcast : ((o : Int) == ((crcOf (bytes s) : Nat) : Int)) = (o == crcOf (bytes s)) := by
      rw [Bool.eq_iff_iff]; simp; omega
    generalize crcOf (bytes s) = n at *
    have HN := Lib.hid (show ∀ w, Calls Try.prog 30 #[.int .u32 (crcOf (bytes (s.extract 0 k)) : Nat), .string (s.extract k s.size)] w fun e w' => e = .returned (.int .u32 (n : Nat)) ∧ w = w' from fun w => by
      have := next_crc (crcOf (bytes (s.extract 0 k))) (s.extract k s.size) w (crcOf_lt _) (by rw [ByteArray.size_extract]; omega)
      rwa [HP.out] at this)
    have hob : (o == n) = true ∨ (o == n) = false := by cases (o == n) <;> simp
    have HOB := Lib.hid hob
    have HCA := Lib.hid hcast
    clear hob hcast
    have hcv := conv4
    have hss : ∀ x0 x1 x2 x3 : Int, (strOfNums [x0, x1, x2, x3]).size = 4 := fun _ _ _ _ => rfl
    go_enter Try.func6, Try.ntmps6
    go_wp2_with fail
    refine (cawake _).mono ?_
    rintro e w1 ⟨rfl, hf1⟩
    go_wp2_with fail
    refine (HR.out _).mono ?_
    rintro e w2 ⟨rfl, rfl⟩
    go_wp2_with fail
    refine (seal_crc s _ (by omega)).mono ?_
    rintro e w2 ⟨rfl, hf2⟩
    go_wp2_with fail
    refine (open_sealed s _ (by omega)).mono ?_
    rintro e w3 ⟨rfl, hf3⟩
    go_wp2_with fail
    refine (HX.out _).mono ?_
    rintro e w4 ⟨⟨t, rfl⟩, hf4⟩
    go_wp2_with fail
    rw [HK.out]
    have hFF : Frm0 w w4 := ((hf1.trans hf2).trans hf3).trans (((Frm.refl _ _).alloc _).trans hf4)
    clear hcv hf1 hf2 hf3 hf4
    generalize w4 = w5 at *
    go_region_held3 (fun w' => True ∧ Frm0 w w')
      (first
        | exact ⟨trivial, hFF.drew⟩
        | exact held_then (by assumption) hf')
      (first
        | (go_at_call 29; with_reducible refine (HO.out _).mono ?_; rintro e w' ⟨rfl, rfl⟩)
        | (go_at_call 29; refine (of_crc (s.extract 0 k) _ (by rw [ByteArray.size_extract]; omega)).mono ?_; rintro e w' ⟨rfl, rfl⟩)
        | (go_at_call 30; refine (HN.out _).mono ?_; rintro e w' ⟨rfl, rfl⟩)
        | (go_at_call 28; refine (seal_crc _ _ (by omega)).mono ?_; rintro e w' ⟨rfl, hf'⟩)
        | (go_at_call 31; refine (rseal_any _ _ (by omega)).mono ?_; rintro e w' ⟨rfl, hf'⟩))
    go_wp2
    go_ret
    exact ⟨ret_bool (by rw [HCA.out]; simp), held_below (by assumption)⟩
theorem texts_walk' (s : ByteArray) (cut o : Int) (w : World) (hs : s.size ≤ 9223372036854775807) (hc : 0 ≤ cut ∧ cut ≤ 65535) (ho : 0 ≤ o ∧ o ≤ 4294967295) :
    Calls Try.prog 6 #[.string s, .int .u16 cut, .int .u32 o] w fun e w' => e = .returned (.bool true) ∧ Below w.heap.size w w' := by
  obtain ⟨c, rfl⟩ := Int.eq_ofNat_of_zero_le hc.1
  obtain ⟨o, rfl⟩ := Int.eq_ofNat_of_zero_le ho.1
  exact texts_walk s c o w hs (by omega) (by omega)
end Go.Proofs.Ytkmafgmlcocjiaa
