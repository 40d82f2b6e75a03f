/- SHA-256: the walk of ShaUnlike. -/
import Derived.Test.YtmpbgnopejeelaaShq
namespace Go.Proofs.Ytmpbgnopejeelaa
open Go.RowKit
set_option linter.unusedVariables false
set_option linter.unusedSimpArgs false
set_option maxRecDepth 100000
namespace Sh
theorem dig_len (b : List Nat) : (dig b).size = 32 := by
  unfold dig digB
  rw [txt_size, outB_len, blocks_len]
/-- Two functions of a text are one; its turned text and its longer one may have the same digest or not. -/
structure Calls2 (s d : ByteArray) : Prop where
  h1 : ∀ w, Calls Try.prog 31 #[.string s] w fun e w' => e = .returned (.string d) ∧ Frm0 w w'
  h2 : ∀ w, Calls Try.prog 32 #[.string s] w fun e w' => e = .returned (.string d) ∧ Frm0 w w'
theorem calls2 (s : ByteArray) (hs : s.size ≤ 1000) : Calls2 s (dig (bytes s)) := ⟨fun w => sha_sum s (by omega) w, fun w => rsum_any s (by omega) w⟩
set_option maxHeartbeats 4000000 in
theorem unlike_walk (s : ByteArray) (at_ by_ : Nat) (hat : at_ < 256) (hby : by_ < 256) (w : World) :
    Calls Try.prog 7 #[.string s, .int .u8 at_, .int .u8 by_] w fun e w' => e = .returned (.bool true) ∧ Below w.heap.size w w' := by
  by_cases hout : 200 < s.size ∨ s.size = 0 ∨ by_ = 0
  · have hb : (decide ((200 : Int) < (s.size : Int)) = true) ∨ (decide ((200 : Int) < (s.size : Int)) = false ∧ s.size = 0) ∨ (decide ((200 : Int) < (s.size : Int)) = false ∧ ((s.size : Int) == 0) = false ∧ by_ = 0) := by
      by_cases h1 : 200 < s.size
      · left; simp; omega
      · by_cases h2 : s.size = 0
        · right; left; exact ⟨by simp; omega, h2⟩
        · right; right; exact ⟨by simp; omega, beq_eq_false_iff_ne.2 (by omega), by omega⟩
    clear hout
    rcases hb with h1 | ⟨h1, h2⟩ | ⟨h1, h2, h3⟩
    · go_enter Try.func7, Try.ntmps7
      go_wp2_with fail
      refine (awake_any _).mono ?_
      rintro e w1 ⟨rfl, hf1⟩
      go_wp2
      go_ret
      exact ⟨rfl, hf1.below (fun _ _ h => h)⟩
    · have h3 : ((s.size : Int) == 0) = true := beq_iff_eq.2 (by omega)
      have h4 : (s.size : Int) = 0 := by omega
      have h5 : ¬ (200 : Int) < (s.size : Int) := by omega
      clear h2
      go_enter Try.func7, Try.ntmps7
      go_wp2_with fail
      refine (awake_any _).mono ?_
      rintro e w1 ⟨rfl, hf1⟩
      go_wp2
      go_ret
      exact ⟨rfl, hf1.below (fun _ _ h => h)⟩
    · subst h3
      have h4 : ¬ (s.size : Int) = 0 := by simpa using h2
      have h5 : ¬ (200 : Int) < (s.size : Int) := by simpa using h1
      go_enter Try.func7, Try.ntmps7
      go_wp2_with fail
      refine (awake_any _).mono ?_
      rintro e w1 ⟨rfl, hf1⟩
      go_wp2
      go_ret
      exact ⟨rfl, hf1.below (fun _ _ h => h)⟩
  have g1 : ¬ (200 : Int) < (s.size : Int) := by omega
  have g2 : ¬ (s.size : Int) = 0 := by omega
  have g2b : ((s.size : Int) == 0) = false := beq_eq_false_iff_ne.2 g2
  have g3 : ¬ (by_ : Int) = 0 := by omega
  have g3b : ((by_ : Int) == 0) = false := beq_eq_false_iff_ne.2 g3
  have g1d : decide ((200 : Int) < (s.size : Int)) = false := decide_eq_false g1
  have hs0 : 0 < s.size := by omega
  have hs200 : s.size ≤ 200 := by omega
  obtain ⟨k, hk⟩ : ∃ k, at_ % s.size = k := ⟨_, rfl⟩
  have hks : k < s.size := by rw [← hk]; exact Nat.mod_lt _ hs0
  have hki : (at_ : Int) % (s.size : Int) = (k : Int) := by omega
  have hki0 : (0 : Int) ≤ (k : Int) := by omega
  have hksi : (k : Int) < (s.size : Int) := by omega
  have hs0i : (0 : Int) < (s.size : Int) := by omega
  have hconv := fun w => Lib.run_convert_string_bytes (P := Try.prog) w 9 43 5 s Try.underlying9 Try.underlying43 Try.underlying5
  have C0 := Lib.hid (calls2 s (by omega))
  have hz0 : (dig (bytes s)).size = 32 := dig_len _
  have hb0 : (bytes s).length = s.size := bytes_len s
  have HB0 := Lib.hid hb0
  have hbl : (bytes s).getD k 0 < 256 := by rw [bget s k hks]; exact (s[k]'hks).toNat_lt
  obtain ⟨y, hy⟩ : ∃ y, (bytes s).getD k 0 ^^^ by_ = y := ⟨_, rfl⟩
  have hy256 : y < 256 := by rw [← hy]; exact Nat.xor_lt_two_pow (n := 8) hbl hby
  have hxr : bits .xor .u8 (((bytes s).getD k 0 : Nat) : Int) (by_ : Int) = (y : Int) := by rw [← hy]; exact u8_xor_nat _ _ hbl hby
  obtain ⟨x, hx⟩ : ∃ x, (bytes s).getD k 0 = x := ⟨_, rfl⟩
  rw [hx] at hxr
  have HX := Lib.hid hx
  clear hx
  have hlt : ∀ b ∈ (bytes s).set k y, b < 256 := fun b hb => by
    rcases List.mem_or_eq_of_mem_set hb with h | h
    · exact bytes_lt s b h
    · rw [h]; exact hy256
  obtain ⟨t, ht⟩ : ∃ t, txt ((bytes s).set k y) = t := ⟨_, rfl⟩
  have htz : t.size = s.size := by rw [← ht, txt_size, List.length_set, bytes_len]
  have C1 := Lib.hid (calls2 t (by omega))
  have hz2 : (s ++ { data := #[0] }).size = s.size + 1 := by rw [ByteArray.size_append]; rfl
  have C2 := Lib.hid (calls2 (s ++ { data := #[0] }) (by omega))
  have hsz1 : ¬ (9223372036854775807 : Int) < (s.size : Int) + 1 := by omega
  have hsz2 : ¬ 9223372036854775807 < s.size + 1 := by omega
  generalize dig (bytes s) = d at *
  generalize dig (bytes t) = d1 at *
  generalize dig (bytes (s ++ { data := #[0] })) = d2 at *
  have HT := Lib.hid ht
  have hz0i : (d.size : Int) = 32 := by omega
  have hz0b : ((d.size : Int) == 32) = true := beq_iff_eq.2 hz0i
  have HZ := Lib.hid hz0i
  clear hout hk hb0 hbl hy hy256 hlt ht htz hz2 hz0
  have h12 : (d1 = d ∨ d1 ≠ d) ∧ (d2 = d ∨ d2 ≠ d) := ⟨Classical.em _, Classical.em _⟩
  obtain ⟨hd1, hd2⟩ := h12
  have HD1 := Lib.hid hd1
  have HD2 := Lib.hid hd2
  clear hd1 hd2
  go_enter Try.func7, Try.ntmps7
  go_wp2_with fail
  refine (awake_any _).mono ?_
  rintro e w1 ⟨rfl, hf1⟩
  have hB := Bts.new w1 s
  have hF2 := hf1.trans (frm_bytes w1 5 s)
  have hc := hB.cell k (by rw [HB0.out]; exact hks)
  rw [HX.out] at hc
  have hr := hB.free k (by rw [HB0.out]; exact hks)
  go_wp2_with fail
  have hB3 := hB.set k y (by rw [HB0.out]; exact hks)
  have hg1 := hf1.size
  have hF3 := hF2.setCell ⟨w1.heap.size, k, none⟩ (fun h => absurd h (by show ¬ w1.heap.size < w.heap.size; omega)) (.int .u8 (y : Nat))
  clear hB hF2 hf1 hc hr hconv hxr
  generalize (Lib.bytesWorld w1 5 s).setCell ⟨w1.heap.size, k, none⟩ (.int .u8 (y : Nat)) = w3 at *
  generalize w1.heap.size = g at *
  refine (C0.out.h1 _).mono ?_
  rintro e w4 ⟨rfl, hf4⟩
  have hB4 := hB3.frm hf4 (fun h => h)
  have hF4 := hF3.trans hf4
  clear hB3 hF3 hf4
  have hcv : ∀ c, (convert 43 9 (.slice (some ⟨g, 0, none⟩) s.size c)).run Try.prog w4 = .ok (.string t) w4 := fun c => by rw [← HT.out]; exact hB4.conv (by rw [List.length_set, HB0.out]) c
  go_wp2_with fail
  clear hcv
  refine (C1.out.h1 _).mono ?_
  rintro e w5 ⟨rfl, hf5⟩
  have hB5 := hB4.frm hf5 (fun h => h)
  have hF5 := hF4.trans hf5
  clear hB4 hF4 hf5
  have hcv : ∀ c, (convert 43 9 (.slice (some ⟨g, 0, none⟩) s.size c)).run Try.prog w5 = .ok (.string t) w5 := fun c => by rw [← HT.out]; exact hB5.conv (by rw [List.length_set, HB0.out]) c
  rcases HD1.out with h1 | h1
  · subst h1
    go_wp2_with fail
    clear hcv
    refine (C1.out.h2 _).mono ?_
    rintro e w6 ⟨rfl, hf6⟩
    have hF6 := hF5.trans hf6
    clear hB5 hF5 hf6
    go_wp2_with fail
    refine (C0.out.h2 _).mono ?_
    rintro e w7 ⟨rfl, hf7⟩
    have hF7 := hF6.trans hf7
    clear hF6 hf7
    go_wp2_with fail
    refine (C2.out.h1 _).mono ?_
    rintro e w8 ⟨rfl, hf8⟩
    have hF8 := hF7.trans hf8
    clear hF7 hf8
    rcases HD2.out with h2 | h2
    · subst h2
      go_wp2_with fail
      refine (C2.out.h2 _).mono ?_
      rintro e w9 ⟨rfl, hf9⟩
      have hF9 := hF8.trans hf9
      clear hF8 hf9
      go_wp2_with fail
      refine (C0.out.h2 _).mono ?_
      rintro e wa ⟨rfl, hfa⟩
      have hFa := hF9.trans hfa
      clear hF9 hfa
      go_wp2_with fail
      go_ret
      exact ⟨rfl, hFa.below (fun _ _ h => h)⟩
    · have hn := str_ne h2
      have hnb : (d2.toList != ByteArray.toList _) = true := bne_iff_ne.2 (fun e => h2 (str_inj e))
      go_wp2_with fail
      go_ret
      exact ⟨rfl, hF8.below (fun _ _ h => h)⟩
  · have hn := str_ne h1
    have hnb : (d1.toList != d.toList) = true := bne_iff_ne.2 (fun e => h1 (str_inj e))
    go_wp2_with fail
    refine (C2.out.h1 _).mono ?_
    rintro e w8 ⟨rfl, hf8⟩
    have hF8 := hF5.trans hf8
    clear hF5 hf8 hn hnb hcv
    rcases HD2.out with h2 | h2
    · subst h2
      go_wp2_with fail
      refine (C2.out.h2 _).mono ?_
      rintro e w9 ⟨rfl, hf9⟩
      have hF9 := hF8.trans hf9
      clear hF8 hf9
      go_wp2_with fail
      refine (C0.out.h2 _).mono ?_
      rintro e wa ⟨rfl, hfa⟩
      have hFa := hF9.trans hfa
      clear hF9 hfa
      go_wp2_with fail
      go_ret
      exact ⟨rfl, hFa.below (fun _ _ h => h)⟩
    · have hn := str_ne h2
      have hnb : (d2.toList != d.toList) = true := bne_iff_ne.2 (fun e => h2 (str_inj e))
      go_wp2_with fail
      go_ret
      exact ⟨rfl, hF8.below (fun _ _ h => h)⟩
theorem unlike_u8 (s : ByteArray) (a b : Int) (w : World) (ha : 0 ≤ a ∧ a ≤ 255) (hb : 0 ≤ b ∧ b ≤ 255) : Calls Try.prog 7 #[.string s, .int .u8 a, .int .u8 b] w fun e w' => e = .returned (.bool true) ∧ Below w.heap.size w w' := by
  obtain ⟨a, rfl⟩ := Int.eq_ofNat_of_zero_le ha.1
  obtain ⟨b, rfl⟩ := Int.eq_ofNat_of_zero_le hb.1
  exact unlike_walk s a b (by omega) (by omega) w
end Sh
end Go.Proofs.Ytmpbgnopejeelaa
