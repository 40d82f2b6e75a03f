/- Backoff: contracts of the reference's Spread, and of both Tries. -/
import Derived.Test.YtmpbgnopejeelaaBob
import Derived.WalkArith
namespace Go.Proofs.Ytmpbgnopejeelaa
open Go.RowKit Go.ChangeShapes Go.WideShapes
set_option linter.unusedVariables false
set_option linter.unusedSimpArgs false
set_option maxRecDepth 100000
namespace Bo
open Sh
set_option maxHeartbeats 4000000 in
theorem rspread_any (p : Wt) (s : ByteArray) (hs : s.size ≤ 100) (t : Int) (ht : (Lit.int .i64 t).wf = true) (w : World) :
    Calls Try.prog 44 #[.agg #[.int .i64 p.base, .int .i64 p.most, .int .i64 p.spread], .string s, .int .i64 t] w fun e w' => e = .returned (.int .i64 (sprd p s t)) ∧ Frm0 w w' := by
  have HW := Lib.hid (fun w => rwait_any p t ht w)
  have HB := Lib.hid (fun w => rbrought_any p w)
  have hsh := share_bd p t
  have hwb := wtp_bd p t
  have hmk := mk_lt s t
  obtain ⟨r, hr⟩ : ∃ r, sprd p s t = r := ⟨_, rfl⟩
  have hrr : wtp p t - wtp p t * bS p / 100 + (mk s t : Int) % (wtp p t * bS p / 100 + 1) = r := hr
  rw [hr]
  have hfi := fun w => field2 (bB p) (bM p) (bS p) w
  have hnb := nb_bd t
  obtain ⟨q, hq⟩ := Int.eq_ofNat_of_zero_le hnb.1
  have hqb : q ≤ 1073741824 := by omega
  have hmkr : mk s t = pw (bytes (dig (mkL s q))) 0 4 := by unfold mk; rw [hq]; rfl
  have HMK := Lib.hid hmkr
  have HN := Lib.hid (fun w => rnumber_to hq w)
  have HX := Lib.hid (fun w => Pk.rtext_any s w (by omega))
  have HU := Lib.hid (fun w => Pk.rnum_any q w (by omega))
  have hz1 : (txt (Pk.numB s.size) ++ s).size ≤ 200 := by rw [ByteArray.size_append, txt_size]; have := Pk.num_len (n := s.size) (by omega); omega
  have hz2 : (txt (Pk.numB q)).size ≤ 100 := by rw [txt_size]; have := Pk.num_len (n := q) (by omega); omega
  have hz3 : ¬ (9223372036854775807 : Int) < ((txt (Pk.numB s.size) ++ s).size : Int) + ((txt (Pk.numB q)).size : Int) := by omega
  have hz4 : ¬ 9223372036854775807 < (txt (Pk.numB s.size) ++ s).size + (txt (Pk.numB q)).size := by omega
  have hbts : bytes ((txt (Pk.numB s.size) ++ s) ++ txt (Pk.numB q)) = mkL s q := by
    rw [bytes_append, bytes_append, bytes_txt (Pk.numB_lt _), bytes_txt (Pk.numB_lt _)]
    rfl
  have hsz : ((txt (Pk.numB s.size) ++ s) ++ txt (Pk.numB q)).size ≤ 1000 := by rw [ByteArray.size_append]; omega
  have HS := Lib.hid (fun w => rsum_any ((txt (Pk.numB s.size) ++ s) ++ txt (Pk.numB q)) (by omega) w)
  rw [hbts] at HS
  generalize txt (Pk.numB s.size) ++ s = TA at *
  generalize txt (Pk.numB q) = TB at *
  generalize wtp p t = n at *
  generalize bS p = sp at *
  generalize bB p = b at *
  generalize bM p = m at *
  generalize mk s t = k at *
  obtain ⟨Q, hQ⟩ : ∃ Q, n * sp = Q := ⟨_, rfl⟩
  rw [hQ] at hsh hrr
  have e1 : IntKind.i64.wrap Q = Q := IntWalk.i64_in _ (by omega)
  have hq1 : (0 : Int) ≤ Q / 100 + 1 := by omega
  have hm0 := Int.emod_nonneg (k : Int) (show Q / 100 + 1 ≠ 0 by omega)
  have hm1 := Int.emod_lt_of_pos (k : Int) (show 0 < Q / 100 + 1 by omega)
  have hq2 : ¬ Q / 100 + 1 = 0 := by omega
  have e2 : IntKind.i64.wrap (Q / 100) = Q / 100 := IntWalk.i64_in _ (by omega)
  have e3 : IntKind.i64.wrap (n - Q / 100) = n - Q / 100 := IntWalk.i64_in _ (by omega)
  have e4 : IntKind.i64.wrap (Q / 100 + 1) = Q / 100 + 1 := IntWalk.i64_in _ (by omega)
  have e5 : IntKind.i64.wrap (n - Q / 100 + (k : Int) % (Q / 100 + 1)) = n - Q / 100 + (k : Int) % (Q / 100 + 1) := IntWalk.i64_in _ (by omega)
  have HRR := Lib.hid hrr
  have HM := Lib.hid (And.intro hq1 (And.intro hm0 (And.intro hm1 (And.intro hq2 (And.intro e3 (And.intro e4 e5))))))
  have hal := (Frm.refl (fun _ => False) w).alloc (.cells #[.int .i64 p.base, .int .i64 p.most, .int .i64 p.spread] 54)
  have hP := Bk.new w (.cells #[.int .i64 p.base, .int .i64 p.most, .int .i64 p.spread] 54)
  clear hrr hr ht hq hmkr hbts hsz hz1 hz2 e3 e4 e5 hm0 hm1 hq2 hnb
  go_enter Try.func44, Try.ntmps44
  go_wp2_with fail
  refine (HW.out _).mono ?_
  rintro e w1 ⟨rfl, hf1⟩
  have hP1 := hf1.blk hP (fun h => h)
  have hF1 := hal.trans hf1
  clear hP hal hf1
  obtain ⟨c0, c1, c2⟩ := Bk.c3 hP1
  go_wp2_with fail
  refine (HB.out _).mono ?_
  rintro e w2 ⟨rfl, hf2⟩
  have hF2 := hF1.trans hf2
  clear hP1 hF1 hf2 c0 c1 c2
  go_wp2_with fail
  refine (HX.out _).mono ?_
  rintro e w3 ⟨rfl, hf3⟩
  have hF3 := hF2.trans hf3
  clear hF2 hf3
  go_wp2_with fail
  refine (HN.out _).mono ?_
  rintro e w4 ⟨rfl, rfl⟩
  go_wp2_with fail
  refine (HU.out _).mono ?_
  rintro e w5 ⟨rfl, hf5⟩
  have hF5 := hF3.trans hf5
  clear hF3 hf5
  go_wp2_with fail
  refine (HS.out _).mono ?_
  rintro e w6 ⟨rfl, hf6⟩
  have hF6 := hF5.trans hf6
  have hdz := dig_size32 (mkL s q)
  generalize dig (mkL s q) = d at *
  have HDZ := Lib.hid hdz
  clear hdz hf6 hF5 hz3 hz4
  go_wp2_with fail
  go_loop [10, 11] (fun n i => ∃ (k : Nat), k ≤ 4 ∧ i = .int .i64 k ∧ n = .int .i64 (pw (bytes d) 0 k : Nat)) (fun _ i => 4 - (intOf i).toNat)
  case atStart => exact ⟨0, by omega, rfl, rfl⟩
  case round =>
    obtain ⟨j, hk, rfl, rfl⟩ := hrel
    by_cases hlt : j < 4
    · have hki : (j : Int) < 4 := by omega
      have hkd : j < d.size := by have := HDZ.out; omega
      have hkdi : (j : Int) < (d.size : Int) := by omega
      have hp := pw24 (fun x hx => bytes_lt d x hx) hlt
      have hb := bget d j hkd
      have hsu : pw (bytes d) 0 (j + 1) = pw (bytes d) 0 j * 256 + (bytes d).getD j 0 := by
        show pw (bytes d) 0 j * 256 + (bytes d).getD (4 * 0 + j) 0 = _
        rw [Nat.mul_zero, Nat.zero_add]
      obtain ⟨x, hx⟩ : ∃ x, (d[j]'hkd).toNat = x := ⟨_, rfl⟩
      have hx256 : x < 256 := by rw [← hx]; exact (d[j]'hkd).toNat_lt
      rw [hb, hx] at hsu
      have HSU := Lib.hid hsu
      clear hb hsu
      generalize pw (bytes d) 0 j = y at *
      go_wp2_with fail
      go_round
      case rel => exact ⟨j + 1, by omega, by go_num, by rw [HSU.out]; go_num⟩
      case measure => simp [intOf]; omega
    · obtain rfl : j = 4 := by omega
      rw [← HMK.out]
      obtain ⟨hq1, hm0, hm1, hq2, e3, e4, e5⟩ := HM.out
      go_wp2_with fail
      go_ret
      exact ⟨ret_int (by rw [← HRR.out]), hF6⟩
/-- How many tries end within what is left, from the n-th on. -/
def tri (p : Wt) : Nat → Nat → Int → Nat
  | 0, n, _ => n
  | f + 1, n, l => if l - wtp p n < 0 then n else tri p f (n + 1) (l - wtp p n)
def triesN (p : Wt) (span : Int) : Nat := tri p 1000 0 (nb span)
theorem wf_nat {n : Nat} (h : n ≤ 1000) : (Lit.int .i64 (n : Int)).wf = true := WalkArith.wf_i64 (by omega)
set_option maxHeartbeats 4000000 in
theorem tries_any (p : Wt) (t : Int) (w : World) :
    Calls Try.prog 48 #[.agg #[.int .i64 p.base, .int .i64 p.most, .int .i64 p.spread], .int .i64 t] w fun e w' => e = .returned (.int .i64 (triesN p t : Nat)) ∧ Frm0 w w' := by
  obtain ⟨x1, hx1⟩ : ∃ x, (if t < 0 then 0 else t) = x := ⟨_, rfl⟩
  obtain ⟨y1, hy1⟩ : ∃ y, (if (1073741824 : Int) < x1 then 1073741824 else x1) = y := ⟨_, rfl⟩
  have e1 : y1 = nb t := mm _ _ _ _ _ (by omega) hx1 hy1
  have m1 := max_is _ _ _ hx1
  have n1 := min_is _ _ _ hy1
  have hnb := nb_bd t
  rw [← e1] at hnb
  obtain ⟨r, hr⟩ : ∃ r, triesN p t = r := ⟨_, rfl⟩
  have hrr : tri p (1000 - 0) 0 y1 = r := by rw [e1]; exact hr
  have HR := Lib.hid hrr
  rw [hr]
  have hal := (Frm.refl (fun _ => False) w).alloc (.cells #[.int .i64 p.base, .int .i64 p.most, .int .i64 p.spread] 54)
  have hP := Bk.new w (.cells #[.int .i64 p.base, .int .i64 p.most, .int .i64 p.spread] 54)
  clear hr hrr hx1 hy1 e1
  go_enter Try.func48, Try.ntmps48
  go_wp2_with fail
  clear m1 n1
  generalize w.alloc (.cells #[.int .i64 p.base, .int .i64 p.most, .int .i64 p.spread] 54) = wa at *
  obtain ⟨P, hPe⟩ : ∃ P, w.heap.size = P := ⟨_, rfl⟩
  rw [hPe] at hP ⊢
  clear hPe
  go_loopw [5, 10] (fun l i wr => ∃ (n : Nat) (x : Int), n ≤ 1000 ∧ i = .int .i64 n ∧ l = .int .i64 x ∧ 0 ≤ x ∧ x ≤ 1073741824 ∧ Hid (tri p (1000 - n) n x = r) ∧ wr.heap[P]? = some (.cells #[.int .i64 p.base, .int .i64 p.most, .int .i64 p.spread] 54 (0, 0)) ∧ Frm0 w wr) (fun _ i _ => 1000 - (intOf i).toNat)
  case atStart => exact ⟨0, y1, by omega, rfl, rfl, by omega, by omega, HR, hP, hal⟩
  case round =>
    clear hP hal HR
    obtain ⟨n, x, hn, rfl, rfl, hx0, hx1, H, hP, hF⟩ := hrel
    obtain ⟨c0, c1, c2⟩ := Bk.c3 hP
    by_cases hlt : n < 1000
    · have hni : (n : Int) < 1000 := by omega
      have hwb := wtp_bd p n
      have hst : tri p (1000 - n) n x = if x - wtp p n < 0 then n else tri p (1000 - (n + 1)) (n + 1) (x - wtp p n) := by
        rw [show 1000 - n = (1000 - (n + 1)) + 1 by omega]
        rfl
      have HST := Lib.hid hst
      have HW := Lib.hid (fun w => wait_any p n (wf_nat hn) w)
      generalize wtp p n = y at *
      clear hst
      go_wp2_with fail
      refine (HW.out _).mono ?_
      rintro e w1 ⟨rfl, hf1⟩
      have hP1 := hf1.blk hP (fun h => h)
      have hF1 := hF.trans hf1
      clear hP hF hf1 c0 c1 c2
      by_cases hneg : x - y < 0
      · have hres : r = n := by rw [← H.out, HST.out, if_pos hneg]
        have hnd : decide (x - y < 0) = true := decide_eq_true hneg
        have hn2 : x < y := by omega
        have HRS := Lib.hid hres
        clear hres
        go_wp2_with fail
        go_ret
        exact ⟨ret_int (by rw [HRS.out]), hF1⟩
      · have hres : tri p (1000 - (n + 1)) (n + 1) (x - y) = r := by rw [← H.out, HST.out, if_neg hneg]
        have hnd : decide (x - y < 0) = false := decide_eq_false hneg
        have hn2 : ¬ x < y := by omega
        have HRS := Lib.hid hres
        clear hres
        go_wp2_with fail
        go_roundw
        case rel => exact ⟨n + 1, x - y, by omega, by go_num, rfl, by omega, by omega, HRS, hP1, hF1⟩
        case measure => simp [intOf]; omega
    · obtain rfl : n = 1000 := by omega
      have hres : r = 1000 := by rw [← H.out]; rfl
      have HRS := Lib.hid hres
      clear hres H
      go_wp2_with fail
      go_ret
      exact ⟨ret_int (by rw [HRS.out]; try rfl), hF⟩
set_option maxHeartbeats 4000000 in
theorem rtries_any (p : Wt) (t : Int) (w : World) :
    Calls Try.prog 49 #[.agg #[.int .i64 p.base, .int .i64 p.most, .int .i64 p.spread], .int .i64 t] w fun e w' => e = .returned (.int .i64 (triesN p t : Nat)) ∧ Frm0 w w' := by
  have hnb := nb_bd t
  obtain ⟨r, hr⟩ : ∃ r, triesN p t = r := ⟨_, rfl⟩
  have hrr : tri p (1000 - 0) 0 (nb t) = r := hr
  have HR := Lib.hid hrr
  rw [hr]
  have HN := Lib.hid (fun w => rnumber_any t w)
  generalize nb t = y1 at *
  have hal := (Frm.refl (fun _ => False) w).alloc (.cells #[.int .i64 p.base, .int .i64 p.most, .int .i64 p.spread] 54)
  have hP := Bk.new w (.cells #[.int .i64 p.base, .int .i64 p.most, .int .i64 p.spread] 54)
  clear hr hrr
  go_enter Try.func49, Try.ntmps49
  go_wp2_with fail
  refine (HN.out _).mono ?_
  rintro e w1 ⟨rfl, rfl⟩
  generalize w.alloc (.cells #[.int .i64 p.base, .int .i64 p.most, .int .i64 p.spread] 54) = wa at *
  obtain ⟨P, hPe⟩ : ∃ P, w.heap.size = P := ⟨_, rfl⟩
  rw [hPe] at hP ⊢
  clear hPe HN
  go_wp2_with fail
  go_loopw [1, 5] (fun l i wr => ∃ (n : Nat) (x : Int), n ≤ 1000 ∧ i = .int .i64 n ∧ l = .int .i64 x ∧ 0 ≤ x ∧ x ≤ 1073741824 ∧ Hid (tri p (1000 - n) n x = r) ∧ wr.heap[P]? = some (.cells #[.int .i64 p.base, .int .i64 p.most, .int .i64 p.spread] 54 (0, 0)) ∧ Frm0 w wr) (fun _ i _ => 1000 - (intOf i).toNat)
  case atStart => exact ⟨0, y1, by omega, rfl, rfl, by omega, by omega, HR, hP, hal⟩
  case round =>
    clear hP hal HR
    obtain ⟨n, x, hn, rfl, rfl, hx0, hx1, H, hP, hF⟩ := hrel
    obtain ⟨c0, c1, c2⟩ := Bk.c3 hP
    by_cases hlt : n < 1000
    · have hni : (n : Int) < 1000 := by omega
      have hwb := wtp_bd p n
      have hst : tri p (1000 - n) n x = if x - wtp p n < 0 then n else tri p (1000 - (n + 1)) (n + 1) (x - wtp p n) := by
        rw [show 1000 - n = (1000 - (n + 1)) + 1 by omega]
        rfl
      have HST := Lib.hid hst
      have HW := Lib.hid (fun w => rwait_any p n (wf_nat hn) w)
      generalize wtp p n = y at *
      clear hst
      go_wp2_with fail
      refine (HW.out _).mono ?_
      rintro e w1 ⟨rfl, hf1⟩
      have hP1 := hf1.blk hP (fun h => h)
      have hF1 := hF.trans hf1
      clear hP hF hf1 c0 c1 c2
      obtain ⟨c0, c1, c2⟩ := Bk.c3 hP1
      by_cases hneg : x - y < 0
      · have hres : r = n := by rw [← H.out, HST.out, if_pos hneg]
        have hn2 : ¬ y ≤ x := by omega
        have hnd : decide (y ≤ x) = false := decide_eq_false hn2
        have HRS := Lib.hid hres
        clear hres
        go_wp2_with fail
        go_ret
        exact ⟨ret_int (by rw [HRS.out]), hF1⟩
      · have hres : tri p (1000 - (n + 1)) (n + 1) (x - y) = r := by rw [← H.out, HST.out, if_neg hneg]
        have hn2 : y ≤ x := by omega
        have hnd : decide (y ≤ x) = true := decide_eq_true hn2
        have HRS := Lib.hid hres
        clear hres
        go_wp2_with fail
        refine (HW.out _).mono ?_
        rintro e w2 ⟨rfl, hf2⟩
        have hP2 := hf2.blk hP1 (fun h => h)
        have hF2 := hF1.trans hf2
        go_wp2_with fail
        go_roundw
        case rel => exact ⟨n + 1, x - y, by omega, by go_num, rfl, by omega, by omega, HRS, hP2, hF2⟩
        case measure => simp [intOf]; omega
    · obtain rfl : n = 1000 := by omega
      have hres : r = 1000 := by rw [← H.out]; rfl
      have HRS := Lib.hid hres
      clear hres H
      go_wp2_with fail
      go_ret
      exact ⟨ret_int (by rw [HRS.out]; try rfl), hF⟩
end Bo
end Go.Proofs.Ytmpbgnopejeelaa
