/- The reference's Num, Text; the opener's number read from what the packer lays. -/
import Derived.Test.YthggbohoedfkpaaPkf
namespace Go.Proofs.Ythggbohoedfkpaa
open Go.RowKit
set_option linter.unusedVariables false
set_option linter.unusedSimpArgs false
set_option maxRecDepth 100000
namespace Pk
theorem conv1 (x0 : Int) (w : World) : (convert 81 9 (.slice (some ⟨w.heap.size, 0, none⟩) 1 1)).run Try.prog (w.alloc (.cells #[.int .u8 x0] 5)) = .ok (.string (strOfNums [x0])) (w.alloc (.cells #[.int .u8 x0] 5)) := by
  refine run_convert_bytes_arg _ 81 5 Try.underlying81 Try.underlying5 _ 0 1 1 [x0] rfl (fun i hi => ?_) 9 Try.underlying9
  rw [Nat.zero_add, Bk.cell (Bk.new w _)]
  match i, hi with
  | 0, _ => rfl
theorem txt_app (a b : List Nat) : txt (a ++ b) = txt a ++ txt b := by
  refine bytes_inj ?_
  rw [bytes_append]
  unfold txt bytes
  rw [strOfNums_data, strOfNums_data, strOfNums_data]
  simp
theorem txt_bytes (s : ByteArray) : txt (bytes s) = s := bytes_inj (bytes_txt (bytes_lt s))
theorem txt_one (n : Nat) : strOfNums [(n : Int)] = txt [n] := rfl
theorem pre_len9 (n : Nat) (hn : n ≤ 9223372036854775807) : (pre n).length ≤ 9 := pre_len 9 n (by omega)
set_option maxHeartbeats 2000000 in
theorem rnum_any (n : Nat) (w : World) (hn : n ≤ 9223372036854775807) :
    Calls Try.prog 48 #[.int .i64 n] w fun e w' => e = .returned (.string (txt (numB n))) ∧ Frm0 w w' := by
  have HC := Lib.hid conv1
  obtain ⟨q, hq⟩ : ∃ q, n % 128 = q := ⟨_, rfl⟩
  have q1 : ((n : Int) % 128) = (q : Int) := by omega
  have q2 : (q : Int) % 256 = (q : Int) := by omega
  have hz0 : (txt [q]).size = 1 := by rw [txt_size]; rfl
  have E0 : strOfNums [(q : Int)] = txt [q] := txt_one q
  have hcv := HC.out (q : Int) w
  rw [E0] at hcv
  have HT0 := Lib.hid (rfl : txt [q] = txt [q])
  go_enter Try.func48, Try.ntmps48
  go_wp2_with fail
  go_loopw [0, 3] (fun i o wr => ∃ (m : Nat) (r : List Nat), i = .int .i64 m ∧ o = .string (txt r) ∧ m ≤ 9223372036854775807 ∧ Hid (pre m ++ r = numB n) ∧ Hid (m * 128 ^ r.length ≤ n) ∧ r.length ≤ 20 ∧ Frm0 w wr) (fun i _ _ => (intOf i).toNat)
  case atStart => exact ⟨n / 128, [q], by go_num, rfl, by omega, by rw [← hq]; rfl, show n / 128 * 128 ^ 1 ≤ n by omega, by simp, (Frm.refl _ _).alloc _⟩
  case round =>
    obtain ⟨m, r, rfl, rfl, hm, hpre, hbd, hr, hF⟩ := hrel
    by_cases h0 : 0 < m
    · have hr9 : r.length ≤ 9 := by
        rcases Nat.lt_or_ge 9 r.length with h | h
        · exfalso
          have h1 : 128 ^ 10 ≤ 128 ^ r.length := Nat.pow_le_pow_right (by omega) h
          have h2 : 128 ^ r.length ≤ m * 128 ^ r.length := Nat.le_mul_of_pos_left _ h0
          have h3 := hbd.out
          have h4 : (128 : Nat) ^ 10 = 1180591620717411303424 := by decide
          omega
        · exact h
      have hzr : (txt r).size = r.length := txt_size r
      obtain ⟨c, hc⟩ : ∃ c, m % 128 + 128 = c := ⟨_, rfl⟩
      have c1 : (m : Int) % 128 + 128 = (c : Int) := by omega
      have c2 : (c : Int) % 256 = (c : Int) := by omega
      have hcv := HC.out (c : Int) wr
      rw [txt_one] at hcv
      have hz1 : (txt [c]).size = 1 := by rw [txt_size]; rfl
      have HA : Hid (txt [c] ++ txt r = txt (c :: r)) := (txt_app [c] r).symm
      have hpre2 : Hid (pre (m / 128) ++ c :: r = numB n) := by
        have := hpre.out
        rw [pre_pos h0, hc] at this
        rw [← this]
        simp [Hid]
      have hbd2 : Hid (m / 128 * 128 ^ (c :: r).length ≤ n) := by
        have := hbd.out
        refine Nat.le_trans ?_ this
        rw [List.length_cons, Nat.pow_succ', ← Nat.mul_assoc]
        exact Nat.mul_le_mul_right _ (Nat.div_mul_le_self m 128)
      have hm2 : m / 128 ≤ 9223372036854775807 := by omega
      have hmi : ((m / 128 : Nat) : Int) = (m : Int) / 128 := by omega
      generalize txt [c] = C at *
      generalize txt r = R at *
      clear hpre hbd hq q1 q2 hz0
      go_wp2_with fail
      go_roundw
      case rel => exact ⟨m / 128, c :: r, by rw [hmi], by rw [HA.out], hm2, hpre2, hbd2, by simp; omega, hF.alloc _⟩
      case measure => simp [intOf]; omega
    · obtain rfl : m = 0 := by omega
      have e := hpre.out
      rw [pre_zero, List.nil_append] at e
      subst e
      go_wp2
      go_ret
      exact ⟨rfl, hF⟩
theorem rtext_any (s : ByteArray) (w : World) (hs : s.size ≤ 100000) :
    Calls Try.prog 49 #[.string s] w fun e w' => e = .returned (.string (txt (numB s.size) ++ s)) ∧ Frm0 w w' := by
  have HN := Lib.hid (rnum_any s.size w (by omega))
  have h9 : (numB s.size).length ≤ 10 := by
    have := pre_len9 (s.size / 128) (by omega)
    simp [numB]; omega
  have hz : (txt (numB s.size)).size ≤ 10 := by rw [txt_size]; exact h9
  generalize txt (numB s.size) = X at *
  go_enter Try.func49, Try.ntmps49
  go_wp2_with fail
  refine HN.out.mono ?_
  rintro e w1 ⟨rfl, hf1⟩
  go_wp2
  go_ret
  exact ⟨rfl, hf1⟩

/-! The number, read. -/
theorem b0_cons (b : Nat) (l : List Nat) (hb : b < 256) (hl : ∀ x ∈ l, x < 256) : b0 (txt (b :: l)) = b := by
  unfold b0
  rw [bytes_txt (by intro x hx; rcases List.mem_cons.1 hx with rfl | hx; exact hb; exact hl x hx)]
  rfl
theorem tail_cons (b : Nat) (l : List Nat) (hb : b < 256) (hl : ∀ x ∈ l, x < 256) : (txt (b :: l)).extract 1 (txt (b :: l)).size = txt l := by
  refine bytes_inj ?_
  rw [bytes_extract, bytes_txt (by intro x hx; rcases List.mem_cons.1 hx with rfl | hx; exact hb; exact hl x hx), bytes_txt hl, txt_size]
  simp
theorem rd_cons_more {f k n b : Nat} {l : List Nat} (hb : b < 256) (hl : ∀ x ∈ l, x < 256) (h1 : ¬ (k = 0 ∧ b = 128)) (h2 : ¬ b < 128) : rd (f + 1) k n (txt (b :: l)) = rd f (k + 1) (n * 128 + b % 128) (txt l) := by
  have e := b0_cons b l hb hl
  rw [rd_more (by rw [txt_size]; simp) (by rw [e]; exact h1) (by rw [e]; exact h2), e, tail_cons b l hb hl]
theorem rd_cons_got {f k n b : Nat} {l : List Nat} (hl : ∀ x ∈ l, x < 256) (h2 : b < 128) : rd (f + 1) k n (txt (b :: l)) = (((n * 128 + b % 128 : Nat) : Int), txt l, false) := by
  have hb : b < 256 := by omega
  have e := b0_cons b l hb hl
  rw [rd_got (by rw [txt_size]; simp) (by rw [e]; exact h2), e, tail_cons b l hb hl]
theorem rd_pre : ∀ (m : Nat), 0 < m → ∀ (f : Nat) (t : List Nat), (∀ x ∈ t, x < 256) → rd (f + (pre m).length) 0 0 (txt (pre m ++ t)) = rd f (pre m).length m (txt t) := by
  intro m
  induction m using Nat.strongRecOn with
  | _ m ih =>
    intro hm f t ht
    rw [pre_pos hm]
    by_cases h0 : m / 128 = 0
    · have hlt : m < 128 := by omega
      rw [h0, pre_zero, List.nil_append]
      show rd (f + 1) 0 0 (txt ((m % 128 + 128) :: t)) = rd f 1 m (txt t)
      rw [rd_cons_more (by omega) ht (by omega) (by omega)]
      congr 1
      omega
    · have h1 : 0 < m / 128 := by omega
      have i1 := ih (m / 128) (by omega) h1 (f + 1) ((m % 128 + 128) :: t) (by intro x hx; rcases List.mem_cons.1 hx with rfl | hx; omega; exact ht x hx)
      have hl : 0 < (pre (m / 128)).length := by rw [pre_pos h1]; simp
      rw [List.length_append, List.append_assoc]
      show rd (f + ((pre (m / 128)).length + 1)) 0 0 (txt (pre (m / 128) ++ (m % 128 + 128) :: t)) = _
      rw [show f + ((pre (m / 128)).length + 1) = f + 1 + (pre (m / 128)).length by omega, i1, rd_cons_more (by omega) ht (by omega) (by omega)]
      show rd f ((pre (m / 128)).length + 1) _ _ = rd f ((pre (m / 128)).length + 1) _ _
      congr 1
      omega
theorem rd_num (n : Nat) (hn : n ≤ 4611686018427387904) (t : List Nat) (ht : ∀ x ∈ t, x < 256) : rd 9 0 0 (txt (numB n ++ t)) = ((n : Int), txt t, false) := by
  unfold numB
  rw [List.append_assoc]
  show rd 9 0 0 (txt (pre (n / 128) ++ (n % 128) :: t)) = _
  have ht' : ∀ x ∈ (n % 128) :: t, x < 256 := by intro x hx; rcases List.mem_cons.1 hx with rfl | hx; omega; exact ht x hx
  by_cases h0 : n / 128 = 0
  · rw [h0, pre_zero, List.nil_append, rd_cons_got ht (by omega)]
    rw [show 0 * 128 + n % 128 % 128 = n by omega]
  · have hl := pre_len 8 (n / 128) (by omega)
    obtain ⟨f, hf⟩ : ∃ f, 9 = f + 1 + (pre (n / 128)).length := ⟨8 - (pre (n / 128)).length, by omega⟩
    rw [hf, rd_pre _ (by omega) _ _ ht', rd_cons_got ht (by omega)]
    rw [show n / 128 * 128 + n % 128 % 128 = n by omega]
end Pk
end Go.Proofs.Ythggbohoedfkpaa
