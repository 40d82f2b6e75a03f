/- Backoff: contracts of mark and Spread. -/
import Derived.Test.YtmpbgnopejeelaaBoa
namespace Go.Proofs.Ytmpbgnopejeelaa
open Go.RowKit Go.ChangeShapes Go.WideShapes
set_option linter.unusedVariables false
set_option linter.unusedSimpArgs false
set_option maxRecDepth 100000
namespace Bo
open Sh
def mkL (s : ByteArray) (q : Nat) : List Nat := Pk.numB s.size ++ bytes s ++ Pk.numB q
/-- A number that looks like chance. -/
def mk (s : ByteArray) (t : Int) : Nat := pw (bytes (dig (mkL s (nb t).toNat))) 0 4
theorem dig_size32 (b : List Nat) : (dig b).size = 32 := by
  unfold dig digB
  rw [txt_size, outB_len, blocks_len]
theorem mk_lt (s : ByteArray) (t : Int) : mk s t < 4294967296 := pw_lt (fun x hx => bytes_lt _ x hx) 0 4
theorem mkL_lt (s : ByteArray) (q : Nat) : ∀ b ∈ mkL s q, b < 256 := fun b hb => by
  rcases List.mem_append.1 hb with h | h
  · rcases List.mem_append.1 h with h | h
    · exact Pk.numB_lt _ b h
    · exact bytes_lt s b h
  · exact Pk.numB_lt _ b h
theorem mkL_len (s : ByteArray) (q : Nat) (hs : s.size ≤ 100) (hq : q ≤ 1073741824) : (mkL s q).length ≤ 1000 := by
  have h1 := Pk.num_len (n := s.size) (by omega)
  have h2 := Pk.num_len (n := q) (by omega)
  unfold mkL
  rw [List.length_append, List.length_append, bytes_len]
  omega
theorem or8 (n b : Nat) (hn : n < 16777216) (hb : b < 256) : bits .or .i64 ((n : Int) * 256) (b : Int) = (n : Int) * 256 + (b : Int) := by
  have h := (bits_nat .i64 63 (by decide) (fun n h0 h1 => IntWalk.i64_in _ (by omega)) (n * 256) b (by omega) (by omega)).2
  have e1 : ((n * 256 : Nat) : Int) = (n : Int) * 256 := by omega
  rw [e1] at h
  rw [h, nat_join 8 (n * 256) b (by omega) (by omega)]
  omega
theorem pow24 {k : Nat} (hk : k < 4) : 256 ^ k ≤ 16777216 := by
  have h : k = 0 ∨ k = 1 ∨ k = 2 ∨ k = 3 := by omega
  rcases h with rfl | rfl | rfl | rfl <;> decide
theorem pw24 {b : List Nat} (hb : ∀ x ∈ b, x < 256) {k : Nat} (hk : k < 4) : pw b 0 k < 16777216 := Nat.lt_of_lt_of_le (pw_lt hb 0 k) (pow24 hk)
set_option maxHeartbeats 4000000 in
theorem mark_any (s : ByteArray) (hs : s.size ≤ 100) (t : Int) (w : World) : Calls Try.prog 63 #[.string s, .int .i64 t] w fun e w' => e = .returned (.int .i64 (mk s t : Nat)) ∧ Frm0 w w' := by
  obtain ⟨x1, hx1⟩ : ∃ x, (if t < 0 then 0 else t) = x := ⟨_, rfl⟩
  obtain ⟨y1, hy1⟩ : ∃ y, (if (1073741824 : Int) < x1 then 1073741824 else x1) = y := ⟨_, rfl⟩
  have e1 : y1 = nb t := mm _ _ _ _ _ (by omega) hx1 hy1
  have m1 := max_is _ _ _ hx1
  have n1 := min_is _ _ _ hy1
  have hnb := nb_bd t
  rw [← e1] at hnb
  obtain ⟨q, rfl⟩ := Int.eq_ofNat_of_zero_le hnb.1
  have hq : q ≤ 1073741824 := by omega
  have hmk : mk s t = pw (bytes (dig (mkL s q))) 0 4 := by unfold mk; rw [← e1]; rfl
  obtain ⟨r, hr⟩ : ∃ r, mk s t = r := ⟨_, rfl⟩
  rw [hr] at hmk ⊢
  have HR := Lib.hid hmk
  have HL := Lib.hid (mkL_len s q hs hq)
  have HLL := Lib.hid (mkL_lt s q)
  have HT := Lib.hid (Pk.text_any s w.heap.size (.slice none 0 0) [] false _ (Pk.new_packer w) (by simp) (by omega))
  clear hx1 hy1 e1 hmk hr hnb
  go_enter Try.func63, Try.ntmps63
  go_wp2_with fail
  refine HT.out.mono ?_
  rintro e w1 ⟨v1, rfl, h1, hf1⟩
  have hF1 := ((Frm.refl (fun _ => False) w).alloc (.cells #[.slice none 0 0, .bool false] 89)).then_ hf1 (fun i hi e => by omega)
  clear hf1 HT
  go_wp2_with fail
  refine (Pk.num_any q _ v1 _ false w1 h1 (by omega) (by have := HL.out; unfold mkL at this; rw [List.length_append] at this; rw [List.nil_append]; omega)).mono ?_
  rintro e w2 ⟨v2, rfl, h2, _, hf2⟩
  have hF2 := hF1.then_ hf2 (fun i hi e => by
    rcases e with e | e
    · omega
    · have := (h1.own i e).1; omega)
  clear hf2 h1 hF1
  rw [List.nil_append] at h2
  have h2 : Pk.At w2 w.heap.size v2 (mkL s q) false := h2
  go_wp2_with fail
  refine (Pk.string_ok _ v2 (mkL s q) w2 h2 (by have := HL.out; omega)).mono ?_
  rintro e w3 ⟨rfl, rfl⟩
  clear h2
  go_wp2_with fail
  refine (sha_sum (txt (mkL s q)) (by rw [txt_size]; have := HL.out; omega) _).mono ?_
  rw [bytes_txt HLL.out]
  rintro e w4 ⟨rfl, hf4⟩
  have hF4 := hF2.trans hf4
  have hdz := dig_size32 (mkL s q)
  generalize dig (mkL s q) = d at *
  have HDZ := Lib.hid hdz
  clear hdz hf4 hF2
  go_wp2_with fail
  go_loop [7, 17] (fun n i => ∃ (k : Nat), k ≤ 4 ∧ i = .int .i64 k ∧ n = .int .i64 (pw (bytes d) 0 k : Nat)) (fun _ i => 4 - (intOf i).toNat)
  case atStart => exact ⟨0, by omega, rfl, rfl⟩
  case round =>
    obtain ⟨k, hk, rfl, rfl⟩ := hrel
    by_cases hlt : k < 4
    · have hki : (k : Int) < 4 := by omega
      have hkd : k < d.size := by have := HDZ.out; omega
      have hkdi : (k : Int) < (d.size : Int) := by omega
      have hp := pw24 (fun x hx => bytes_lt d x hx) hlt
      have hb := bget d k hkd
      have hsu : pw (bytes d) 0 (k + 1) = pw (bytes d) 0 k * 256 + (bytes d).getD k 0 := by
        show pw (bytes d) 0 k * 256 + (bytes d).getD (4 * 0 + k) 0 = _
        rw [Nat.mul_zero, Nat.zero_add]
      obtain ⟨x, hx⟩ : ∃ x, (d[k]'hkd).toNat = x := ⟨_, rfl⟩
      have hx256 : x < 256 := by rw [← hx]; exact (d[k]'hkd).toNat_lt
      rw [hb, hx] at hsu
      have HSU := Lib.hid hsu
      clear hb hsu
      generalize pw (bytes d) 0 k = n at *
      have ho := or8 n x hp hx256
      go_wp2_with fail
      go_round
      case rel => exact ⟨k + 1, by omega, by go_num, by rw [HSU.out]; go_num⟩
      case measure => simp [intOf]; omega
    · obtain rfl : k = 4 := by omega
      go_wp2_with fail
      go_ret
      exact ⟨ret_int (by rw [HR.out]), hF4⟩
/-- A wait, spread out. -/
def sprd (p : Wt) (s : ByteArray) (t : Int) : Int := wtp p t - wtp p t * bS p / 100 + (mk s t : Int) % (wtp p t * bS p / 100 + 1)
theorem share_bd (p : Wt) (t : Int) : 0 ≤ wtp p t * bS p ∧ wtp p t * bS p ≤ 107374182400 ∧ 0 ≤ wtp p t * bS p / 100 ∧ wtp p t * bS p / 100 ≤ wtp p t := by
  have h1 := wtp_bd p t
  have h2 := bS_bd p
  have h3 : wtp p t * bS p ≤ wtp p t * 100 := Int.mul_le_mul_of_nonneg_left h2.2 (by omega)
  have h4 : 0 ≤ wtp p t * bS p := Int.mul_nonneg (by omega) h2.1
  omega
theorem sprd_bd (p : Wt) (s : ByteArray) (t : Int) : wtp p t - wtp p t * bS p / 100 ≤ sprd p s t ∧ sprd p s t ≤ wtp p t := by
  have h := share_bd p t
  have h1 := Int.emod_nonneg (mk s t : Int) (show wtp p t * bS p / 100 + 1 ≠ 0 by omega)
  have h2 := Int.emod_lt_of_pos (mk s t : Int) (show 0 < wtp p t * bS p / 100 + 1 by omega)
  unfold sprd
  omega
theorem field2 (b m s : Int) (w : World) : (Instr.field 54 (.agg #[.int .i64 b, .int .i64 m, .int .i64 s]) 2).run Try.prog w = .ok (.int .i64 s) w := by kernel_rfl
set_option maxHeartbeats 4000000 in
theorem spread_any (p : Wt) (s : ByteArray) (hs : s.size ≤ 100) (t : Int) (ht : (Lit.int .i64 t).wf = true) (w : World) :
    Calls Try.prog 43 #[.agg #[.int .i64 p.base, .int .i64 p.most, .int .i64 p.spread], .string s, .int .i64 t] w fun e w' => e = .returned (.int .i64 (sprd p s t)) ∧ Frm0 w w' := by
  have HW := Lib.hid (fun w => wait_any p t ht w)
  have HB := Lib.hid (fun w => brought_any p w)
  have HM := Lib.hid (fun w => mark_any s hs t w)
  have hsh := share_bd p t
  have hwb := wtp_bd p t
  have hmk := mk_lt s t
  obtain ⟨r, hr⟩ : ∃ r, sprd p s t = r := ⟨_, rfl⟩
  have hrr : wtp p t - wtp p t * bS p / 100 + (mk s t : Int) % (wtp p t * bS p / 100 + 1) = r := hr
  rw [hr]
  have hfi := fun w => field2 (bB p) (bM p) (bS p) w
  generalize wtp p t = n at *
  generalize bS p = sp at *
  generalize bB p = b at *
  generalize bM p = m at *
  generalize mk s t = k at *
  obtain ⟨Q, hQ⟩ : ∃ Q, n * sp = Q := ⟨_, rfl⟩
  rw [hQ] at hsh hrr
  have e1 : IntKind.i64.wrap Q = Q := IntWalk.i64_in _ (by omega)
  have hq1 : (0 : Int) ≤ Q / 100 + 1 := by omega
  have hm0 := Int.emod_nonneg (k : Int) (show Q / 100 + 1 ≠ 0 by omega)
  have hm1 := Int.emod_lt_of_pos (k : Int) (show 0 < Q / 100 + 1 by omega)
  have hq2 : ¬ Q / 100 + 1 = 0 := by omega
  have e2 : IntKind.i64.wrap (Q / 100) = Q / 100 := IntWalk.i64_in _ (by omega)
  have e3 : IntKind.i64.wrap (n - Q / 100) = n - Q / 100 := IntWalk.i64_in _ (by omega)
  have e4 : IntKind.i64.wrap (Q / 100 + 1) = Q / 100 + 1 := IntWalk.i64_in _ (by omega)
  have e5 : IntKind.i64.wrap (n - Q / 100 + (k : Int) % (Q / 100 + 1)) = n - Q / 100 + (k : Int) % (Q / 100 + 1) := IntWalk.i64_in _ (by omega)
  have HRR := Lib.hid hrr
  have hal := (Frm.refl (fun _ => False) w).alloc (.cells #[.int .i64 p.base, .int .i64 p.most, .int .i64 p.spread] 54)
  have hP := Bk.new w (.cells #[.int .i64 p.base, .int .i64 p.most, .int .i64 p.spread] 54)
  clear hrr hr ht
  go_enter Try.func43, Try.ntmps43
  go_wp2_with fail
  refine (HW.out _).mono ?_
  rintro e w1 ⟨rfl, hf1⟩
  have hP1 := hf1.blk hP (fun h => h)
  have hF1 := hal.trans hf1
  clear hP hal hf1
  obtain ⟨c0, c1, c2⟩ := Bk.c3 hP1
  go_wp2_with fail
  refine (HB.out _).mono ?_
  rintro e w2 ⟨rfl, hf2⟩
  have hF2 := hF1.trans hf2
  clear hP1 hF1 hf2 c0 c1 c2
  go_wp2_with fail
  refine (HM.out _).mono ?_
  rintro e w3 ⟨rfl, hf3⟩
  have hF3 := hF2.trans hf3
  clear hF2 hf3
  go_wp2_with fail
  go_ret
  exact ⟨ret_int (by rw [← HRR.out]), hF3⟩
end Bo
end Go.Proofs.Ytmpbgnopejeelaa
