/- Packed numbers: the opener's number, Num and Text. -/
import Derived.Test.YthggbohoedfkpaaPkd
namespace Go.Proofs.Ythggbohoedfkpaa
open Go.RowKit
set_option linter.unusedVariables false
set_option linter.unusedSimpArgs false
set_option maxRecDepth 100000
namespace Pk
/-- The first byte. -/
def b0 (s : ByteArray) : Nat := (bytes s).getD 0 0
theorem b0_lt (s : ByteArray) : b0 s < 256 := by
  unfold b0
  rw [List.getD_eq_getElem?_getD]
  cases h : (bytes s)[0]? with
  | none => decide
  | some x => exact bytes_lt s x (List.mem_of_getElem? h)
/-- A number is read: what is told (below 0: none), what is left, and did it fail? -/
def rd : Nat → Nat → Nat → ByteArray → Int × ByteArray × Bool
  | 0, _, _, s => (-1, s, false)
  | f + 1, k, n, s =>
    if s.size = 0 then (-1, ⟨#[]⟩, true)
    else if k = 0 ∧ b0 s = 128 then (-1, s.extract 1 s.size, false)
    else if b0 s < 128 then (((n * 128 + b0 s % 128 : Nat) : Int), s.extract 1 s.size, false)
    else rd f (k + 1) (n * 128 + b0 s % 128) (s.extract 1 s.size)
theorem rd_end {f k n : Nat} {s : ByteArray} (h : s.size = 0) : rd (f + 1) k n s = (-1, ⟨#[]⟩, true) := by unfold rd; rw [if_pos h]
theorem rd_no {f n : Nat} {s : ByteArray} (h : ¬ s.size = 0) (h1 : b0 s = 128) : rd (f + 1) 0 n s = (-1, s.extract 1 s.size, false) := by unfold rd; rw [if_neg h, if_pos ⟨rfl, h1⟩]
theorem rd_got {f k n : Nat} {s : ByteArray} (h : ¬ s.size = 0) (h2 : b0 s < 128) : rd (f + 1) k n s = (((n * 128 + b0 s % 128 : Nat) : Int), s.extract 1 s.size, false) := by unfold rd; rw [if_neg h, if_neg (by omega), if_pos h2]
theorem rd_more {f k n : Nat} {s : ByteArray} (h : ¬ s.size = 0) (h1 : ¬ (k = 0 ∧ b0 s = 128)) (h2 : ¬ b0 s < 128) : rd (f + 1) k n s = rd f (k + 1) (n * 128 + b0 s % 128) (s.extract 1 s.size) := by
  conv => lhs; unfold rd
  rw [if_neg h, if_neg h1, if_neg h2]
theorem low7u (b : Nat) (h : b < 256) : bits .and .u8 (b : Int) 127 = (b : Int) % 128 := by
  have := low7' b
  rwa [show (b : Int) % 256 = (b : Int) by omega] at this
theorem or7 (n b : Nat) (hn : n < 72057594037927936) : bits .or .i64 ((n : Int) * 128) ((b : Int) % 128) = (n : Int) * 128 + (b : Int) % 128 := by
  have h := (bits_nat .i64 63 (by decide) (fun n h0 h1 => IntWalk.i64_in _ (by omega)) (n * 128) (b % 128) (by omega) (by omega)).2
  have e1 : ((n * 128 : Nat) : Int) = (n : Int) * 128 := by omega
  have e2 : ((b % 128 : Nat) : Int) = (b : Int) % 128 := by omega
  rw [e1, e2] at h
  rw [h, nat_join 7 (n * 128) (b % 128) (by omega) (by omega)]
  omega
theorem bytes_get (x : ByteArray) (i : Nat) (h : i < x.size) : (bytes x).getD i 0 = (x[i]).toNat := by
  have hl : i < (bytes x).length := by rw [bytes_len]; exact h
  rw [List.getD_eq_getElem?_getD, List.getElem?_eq_getElem hl]
  simp [bytes]
  rfl
theorem one_byte (s : ByteArray) (h : ¬ s.size = 0) : ∃ x : ByteArray, s.extract 0 1 = x ∧ x.size = 1 ∧ ∀ hx : 0 < x.size, (x[0]).toNat = b0 s := by
  refine ⟨_, rfl, by rw [ByteArray.size_extract]; omega, fun hx => ?_⟩
  have h1 : 0 < (bytes s).length := by rw [bytes_len]; omega
  have h2 : (bytes (s.extract 0 1)).getD 0 0 = b0 s := by
    rw [bytes_extract]
    unfold b0
    simp only [List.drop_zero, Nat.sub_zero, List.getD_eq_getElem?_getD, List.getElem?_take]
    rw [if_pos (by omega)]
  rw [← h2]
  exact (bytes_get _ 0 hx).symm
set_option maxHeartbeats 2000000 in
set_option maxRecDepth 10000 in
theorem number_any (ob : Nat) (s : ByteArray) (w : World) (h : Op w ob s false) (hs : s.size ≤ 1000000) :
    Calls Try.prog 62 #[.pointer (some ⟨ob, 0, none⟩)] w fun e w' => e = .returned (.int .i64 (rd 9 0 0 s).1) ∧ Op w' ob (rd 9 0 0 s).2.1 (rd 9 0 0 s).2.2 ∧ Frm (fun k => k = ob) w w' := by
  obtain ⟨R, hR⟩ : ∃ R, rd 9 0 0 s = R := ⟨_, rfl⟩
  rw [hR]
  have HR := Lib.hid hR
  clear hR
  go_enter Try.func62, Try.ntmps62
  go_wp2_with fail
  go_loopw [3, 6] (fun x i wr => ∃ (k n : Nat) (t : ByteArray), k ≤ 9 ∧ i = .int .i64 k ∧ x = .int .i64 n ∧ n < 128 ^ k ∧ Op wr ob t false ∧ t.size ≤ 1000000 ∧ Hid (rd (9 - k) k n t = R) ∧ Frm (fun k => k = ob) w wr) (fun _ i _ => 9 - (intOf i).toNat)
  case atStart => exact ⟨0, 0, s, by omega, rfl, rfl, by decide, h, hs, HR.out, Frm.refl _ _⟩
  case round =>
    clear h
    obtain ⟨k, n, t, hk, rfl, rfl, hn, hO, ht, hrd, hF⟩ := hrel
    by_cases hk9 : k < 9
    · obtain ⟨f, hf⟩ : ∃ f, 9 - k = f + 1 := ⟨8 - k, by omega⟩
      rw [hf] at hrd
      have hki : (k : Int) < 9 := by omega
      have hn56 : n < 72057594037927936 := Nat.lt_of_lt_of_le hn (Nat.le_trans (Nat.pow_le_pow_right (by omega) (show k ≤ 8 by omega)) (by decide))
      by_cases h0 : t.size = 0
      · have e := hrd.out
        rw [rd_end h0] at e
        have HE := Lib.hid e
        clear e hf hrd hn hn56
        go_wp2_with fail
        refine (oraw_short 1 ob t _ hO (by rw [if_neg (by omega)]; omega)).mono ?_
        rintro e w1 ⟨rfl, h1, hf1⟩
        go_wp2
        go_ret
        have he := HE.out
        subst he
        exact ⟨rfl, h1, hF.trans hf1⟩
      · obtain ⟨x, hx, hx1, hxb⟩ := one_byte t h0
        have HX := Lib.hid hx
        have hb8 := b0_lt t
        have hpos : 0 < x.size := by omega
        have hxb := hxb hpos
        have e305 : 9 - (k + 1) = f := by omega
        have HRW := Lib.hid (fun w (h : Op w ob t false) => oraw_ok 1 1 ob t w h (by rw [if_neg (by omega)]; rfl) (by omega) (by omega))
        rw [hx] at HRW
        have ht' : (t.extract 1 t.size).size ≤ 1000000 := by rw [ByteArray.size_extract]; omega
        have hxi : (0 : Int) < (x.size : Int) := by omega
        have hne : x.toList.isEmpty = false := by
          cases he : x.toList.isEmpty with
          | false => rfl
          | true =>
            have e1 : x = ⟨#[]⟩ := str_inj (by rw [List.isEmpty_iff.1 he, ByteArray.toList_eq])
            rw [e1] at hpos
            exact absurd hpos (by decide)
        have l7 := low7u (b0 t) hb8
        have o7 := or7 n (b0 t) hn56
        have hn128 : n * 128 + b0 t % 128 < 128 ^ (k + 1) := by rw [Nat.pow_succ]; omega
        have HN128 := Lib.hid hn128
        have HN := Lib.hid hn
        have hrd0 := hrd.out
        by_cases hno : k = 0 ∧ b0 t = 128
        · obtain ⟨hk0, hb⟩ := hno
          subst hk0
          have hn0 : n = 0 := by simpa using hn
          rw [rd_no h0 hb] at hrd0
          have HE := Lib.hid hrd0
          have hb2 : ((b0 t : Int) == 128) = true := by rw [beq_iff_eq]; omega
          clear hrd0 hrd hf hn hn128 hb hx
          generalize b0 t = b at *
          go_wp2_with fail
          refine (HRW.out _ hO).mono ?_
          rintro e w1 ⟨rfl, h1, hf1⟩
          go_wp2
          go_ret
          have he := HE.out
          subst he
          exact ⟨rfl, h1, hF.trans hf1⟩
        · have hb2 : ((k : Int) == 0) = false ∨ (((k : Int) == 0) = true ∧ ((b0 t : Int) == 128) = false) := by
            by_cases e : k = 0
            · right
              exact ⟨by rw [beq_iff_eq]; omega, by rw [beq_eq_false_iff_ne]; omega⟩
            · left
              rw [beq_eq_false_iff_ne]; omega
          by_cases hlow : b0 t < 128
          · rw [rd_got h0 hlow] at hrd0
            have HE := Lib.hid hrd0
            have d1 : decide ((b0 t : Int) < 128) = true := decide_eq_true (by omega)
            clear hrd0 hrd hf hn hn128 hno hx
            generalize b0 t = b at *
            rcases hb2 with hb2 | ⟨hb2, hb3⟩
            all_goals
              go_wp2_with fail
              refine (HRW.out _ hO).mono ?_
              rintro e w1 ⟨rfl, h1, hf1⟩
              go_wp2
              go_ret
              have he := HE.out
              subst he
              exact ⟨ret_int (by simp), h1, hF.trans hf1⟩
          · rw [rd_more h0 hno hlow] at hrd0
            have HE := Lib.hid hrd0
            have d1 : decide ((b0 t : Int) < 128) = false := decide_eq_false (by omega)
            clear hrd0 hrd hf hn hn128 hno hx
            generalize b0 t = b at *
            rcases hb2 with hb2 | ⟨hb2, hb3⟩
            all_goals
              go_wp2_with fail
              refine (HRW.out _ hO).mono ?_
              rintro e w1 ⟨rfl, h1, hf1⟩
              go_wp2
              go_roundw
              case rel => exact ⟨k + 1, n * 128 + b % 128, _, by omega, by go_num, by go_num, HN128.out, h1, ht', by rw [e305]; exact HE.out, hF.trans hf1⟩
              case measure => simp [intOf]; omega
    · obtain rfl : k = 9 := by omega
      have e := hrd.out
      have HE : Hid ((-1, t, false) = R) := e
      go_wp2
      go_ret
      have he := HE.out
      subst he
      exact ⟨rfl, hO, hF⟩
end Pk
end Go.Proofs.Ythggbohoedfkpaa
