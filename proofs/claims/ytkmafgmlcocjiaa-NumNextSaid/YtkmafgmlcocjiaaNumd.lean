/- The walks of NumTimes and NumNext. -/
import Derived.Test.YtkmafgmlcocjiaaNumc
namespace Go.Proofs.Ytkmafgmlcocjiaa
open Go.RowKit
set_option linter.unusedVariables false

set_option maxHeartbeats 1000000 in
set_option maxRecDepth 100000 in
theorem times_walk (a b : Int) (w : World) : Calls Try.prog 4 #[.int .i64 a, .int .i64 b] w fun e w' => e = .returned (.bool true) ∧ Below w.heap.size w w' := by
  have hx := tm_bd a
  have hy := tm_bd b
  have hn := nb_bd b
  have hp := tm_bd (tm a + nb b)
  have hpx : tm a ≤ tm (tm a + nb b) := by
    by_cases h : tm a + nb b ≤ 1099511627776
    · rw [tm_id (by omega) h]; omega
    · rw [show tm (tm a + nb b) = 1099511627776 from bring_hi (by omega) (by omega)]; omega
  have HP := Lib.hid (show plus a b = tm (tm a + nb b) from rfl)
  have HL := Lib.hid (show lft a b = (if tm b ≤ tm a then 0 else tm b - tm a) from rfl)
  have HQ := Lib.hid (show pst a b = decide (tm b ≤ tm a) from rfl)
  have HPS := Lib.hid (show ∀ s, 0 ≤ s → s ≤ 1073741824 → plus a s = tm (tm a + s) from fun s h h' => by unfold plus; rw [nb_id h h'])
  have HPT := Lib.hid (show ∀ t, 0 ≤ t → t ≤ 1099511627776 → pst t b = decide (tm b ≤ t) from fun t h h' => by unfold pst; rw [tm_id h h'])
  have HXT := Lib.hid (show ∀ t, 0 ≤ t → t ≤ 1099511627776 → tm t = t from fun t h h' => tm_id h h')
  generalize hpp : tm (tm a + nb b) = p at *
  generalize hxx : tm a = x at *
  generalize hyy : tm b = y at *
  generalize hnn : nb b = n at *
  have hpp' := Lib.hid hpp
  have HX' := Lib.hid hxx
  have HY' := Lib.hid hyy
  have HN' := Lib.hid hnn
  clear hxx hyy hnn hpp
  go_enter Try.func4, Try.ntmps4
  go_wp2_with fail
  refine (nawake _).mono ?_
  rintro e w1 ⟨rfl, hf1⟩
  have hB := hf1.below (fun _ _ h => h)
  go_wp2_with fail
  refine (rtime_to HX'.out _).mono ?_
  rintro e w2 ⟨rfl, rfl⟩
  go_wp2_with fail
  refine (rtime_to HY'.out _).mono ?_
  rintro e w2 ⟨rfl, rfl⟩
  go_wp2_with fail
  refine (plus_to HP.out _).mono ?_
  rintro e w2 ⟨rfl, rfl⟩
  go_wp2_with fail
  refine (time_to HX'.out _).mono ?_
  rintro e w2 ⟨rfl, rfl⟩
  go_wp2_with fail
  refine (rnumber_to HN'.out _).mono ?_
  rintro e w2 ⟨rfl, rfl⟩
  go_wp2_with fail
  refine (rtime_to hpp'.out _).mono ?_
  rintro e w2 ⟨rfl, rfl⟩
  rcases (by omega : y < x ∨ y = x ∨ x < y) with hyx | hyx | hxy
  · skip
    have hl := Lib.hid (show lft a b = 0 by rw [HL.out, if_pos (by omega)])
    have hq := Lib.hid (show pst a b = true by rw [HQ.out, decide_eq_true (by omega)])
    have hpl := Lib.hid (show plus a 0 = x by rw [HPS.out 0 (by omega) (by omega), Int.add_zero, HXT.out x (by omega) (by omega)])
    have hpq := Lib.hid (show pst x b = true by rw [HPT.out x (by omega) (by omega), decide_eq_true (by omega)])
    go_wp2_with fail
    refine (left_num_to hl.out _).mono ?_
    rintro e w2 ⟨rfl, rfl⟩
    go_wp2_with fail
    refine (past_to hq.out _).mono ?_
    rintro e w2 ⟨rfl, rfl⟩
    go_wp2_with fail
    refine (left_num_to hl.out _).mono ?_
    rintro e w2 ⟨rfl, rfl⟩
    go_wp2_with fail
    refine (plus_to hpl.out _).mono ?_
    rintro e w2 ⟨rfl, rfl⟩
    go_wp2_with fail
    refine (past_to hpq.out _).mono ?_
    rintro e w2 ⟨rfl, rfl⟩
    go_wp2
    go_ret
    exact ⟨rfl, hB⟩
  · obtain rfl : y = x := hyx
    have hz : y - y = 0 := Int.sub_self y
    have hl := Lib.hid (show lft a b = 0 by rw [HL.out, if_pos (by omega)])
    have hq := Lib.hid (show pst a b = true by rw [HQ.out, decide_eq_true (by omega)])
    have hpl := Lib.hid (show plus a 0 = y by rw [HPS.out 0 (by omega) (by omega), Int.add_zero, HXT.out y (by omega) (by omega)])
    have hpq := Lib.hid (show pst y b = true by rw [HPT.out y (by omega) (by omega), decide_eq_true (by omega)])
    go_wp2_with fail
    refine (left_num_to hl.out _).mono ?_
    rintro e w2 ⟨rfl, rfl⟩
    go_wp2_with fail
    refine (past_to hq.out _).mono ?_
    rintro e w2 ⟨rfl, rfl⟩
    go_wp2_with fail
    refine (left_num_to hl.out _).mono ?_
    rintro e w2 ⟨rfl, rfl⟩
    go_wp2_with fail
    refine (plus_to hpl.out _).mono ?_
    rintro e w2 ⟨rfl, rfl⟩
    go_wp2_with fail
    refine (past_to hpq.out _).mono ?_
    rintro e w2 ⟨rfl, rfl⟩
    go_wp2
    go_ret
    exact ⟨rfl, hB⟩
  · have hl := Lib.hid (show lft a b = y - x by rw [HL.out, if_neg (by omega)])
    have hq := Lib.hid (show pst a b = false by rw [HQ.out, decide_eq_false (by omega)])
    go_wp2_with fail
    refine (left_num_to hl.out _).mono ?_
    rintro e w2 ⟨rfl, rfl⟩
    go_wp2_with fail
    refine (past_to hq.out _).mono ?_
    rintro e w2 ⟨rfl, rfl⟩
    by_cases hbig : 1073741824 < y - x
    · go_wp2
      go_ret
      exact ⟨by simp; omega, hB⟩
    · have hpl := Lib.hid (show plus a (y - x) = y by rw [HPS.out (y - x) (by omega) (by omega), show x + (y - x) = y by omega, HXT.out y (by omega) (by omega)])
      have hpq := Lib.hid (show pst y b = true by rw [HPT.out y (by omega) (by omega), decide_eq_true (by omega)])
      go_wp2_with fail
      refine (left_num_to hl.out _).mono ?_
      rintro e w2 ⟨rfl, rfl⟩
      go_wp2_with fail
      refine (plus_to hpl.out _).mono ?_
      rintro e w2 ⟨rfl, rfl⟩
      go_wp2_with fail
      refine (past_to hpq.out _).mono ?_
      rintro e w2 ⟨rfl, rfl⟩
      go_wp2
      go_ret
      exact ⟨by simp; omega, hB⟩

set_option maxHeartbeats 1000000 in
set_option maxRecDepth 100000 in
theorem next_walk (n by_ of_ : Int) (w : World) : Calls Try.prog 5 #[.int .i64 n, .int .i64 by_, .int .i64 of_] w fun e w' => e = .returned (.bool true) ∧ Below w.heap.size w w' := by
  have hmul := mul_nb n by_
  have hof := nb_bd of_
  have HS := Lib.hid (show scl n by_ of_ = nb (nb n * nb by_ / (if nb of_ < 1 then 1 else nb of_)) from rfl)
  generalize hnn : nb n = n' at *
  generalize hbb : nb by_ = b' at *
  generalize hoo : nb of_ = o' at *
  have HN := Lib.hid hnn
  have HB := Lib.hid hbb
  have HO := Lib.hid hoo
  clear hnn hbb hoo
  have hcase : (n < 0 ∨ (0 ≤ n ∧ 1073741824 ≤ n) ∨ (0 ≤ n ∧ n < 1073741824)) := by omega
  have hcase2 : (o' < 1 ∨ 1 ≤ o') := by omega
  have HX : nxt n = (if n < 0 then (0, 1) else if 1073741824 ≤ n then (0, 10) else (n + 1, 0)) := rfl
  have HX := Lib.hid HX
  go_enter Try.func5, Try.ntmps5
  go_wp2_with fail
  refine (nawake _).mono ?_
  rintro e w1 ⟨rfl, hf1⟩
  have hBel := hf1.below (fun _ _ h => h)
  rcases hcase with h0 | ⟨h0, h1⟩ | ⟨h0, h1⟩
  · have hx := Lib.hid (show nxt n = (0, 1) by rw [HX.out, if_pos h0])
    go_wp2_with fail
    refine (next_any n _).mono ?_
    rintro e w2 ⟨he, rfl⟩
    rw [hx.out] at he
    subst he
    go_wp2_with fail
    refine (scale_any _ _ _ _).mono ?_
    rintro e w2 ⟨rfl, rfl⟩
    rcases hcase2 with ho | ho
    · have hs := Lib.hid (show scl n by_ of_ = nb (n' * b' / 1) by rw [HS.out, if_pos ho])
      generalize scl n by_ of_ = r at *
      go_wp2_with fail
      refine (rnumber_to HN.out _).mono ?_
      rintro e w2 ⟨rfl, rfl⟩
      go_wp2_with fail
      refine (rnumber_to HB.out _).mono ?_
      rintro e w2 ⟨rfl, rfl⟩
      go_wp2_with fail
      refine (rnumber_to HO.out _).mono ?_
      rintro e w2 ⟨rfl, rfl⟩
      go_wp2_with fail
      refine (rnumber_any _ _).mono ?_
      rintro e w2 ⟨rfl, rfl⟩
      go_wp2
      go_ret
      exact ⟨ret_bool (by rw [hs.out]; simp), hBel⟩
    · have hs := Lib.hid (show scl n by_ of_ = nb (n' * b' / o') by rw [HS.out, if_neg (by omega)])
      generalize scl n by_ of_ = r at *
      go_wp2_with fail
      refine (rnumber_to HN.out _).mono ?_
      rintro e w2 ⟨rfl, rfl⟩
      go_wp2_with fail
      refine (rnumber_to HB.out _).mono ?_
      rintro e w2 ⟨rfl, rfl⟩
      go_wp2_with fail
      refine (rnumber_to HO.out _).mono ?_
      rintro e w2 ⟨rfl, rfl⟩
      go_wp2_with fail
      refine (rnumber_any _ _).mono ?_
      rintro e w2 ⟨rfl, rfl⟩
      go_wp2
      go_ret
      exact ⟨ret_bool (by rw [hs.out]; simp), hBel⟩
  · have hx := Lib.hid (show nxt n = (0, 10) by rw [HX.out, if_neg (by omega), if_pos h1])
    go_wp2_with fail
    refine (next_any n _).mono ?_
    rintro e w2 ⟨he, rfl⟩
    rw [hx.out] at he
    subst he
    go_wp2_with fail
    refine (scale_any _ _ _ _).mono ?_
    rintro e w2 ⟨rfl, rfl⟩
    rcases hcase2 with ho | ho
    · have hs := Lib.hid (show scl n by_ of_ = nb (n' * b' / 1) by rw [HS.out, if_pos ho])
      generalize scl n by_ of_ = r at *
      go_wp2_with fail
      refine (rnumber_to HN.out _).mono ?_
      rintro e w2 ⟨rfl, rfl⟩
      go_wp2_with fail
      refine (rnumber_to HB.out _).mono ?_
      rintro e w2 ⟨rfl, rfl⟩
      go_wp2_with fail
      refine (rnumber_to HO.out _).mono ?_
      rintro e w2 ⟨rfl, rfl⟩
      go_wp2_with fail
      refine (rnumber_any _ _).mono ?_
      rintro e w2 ⟨rfl, rfl⟩
      go_wp2
      go_ret
      exact ⟨ret_bool (by rw [hs.out]; simp), hBel⟩
    · have hs := Lib.hid (show scl n by_ of_ = nb (n' * b' / o') by rw [HS.out, if_neg (by omega)])
      generalize scl n by_ of_ = r at *
      go_wp2_with fail
      refine (rnumber_to HN.out _).mono ?_
      rintro e w2 ⟨rfl, rfl⟩
      go_wp2_with fail
      refine (rnumber_to HB.out _).mono ?_
      rintro e w2 ⟨rfl, rfl⟩
      go_wp2_with fail
      refine (rnumber_to HO.out _).mono ?_
      rintro e w2 ⟨rfl, rfl⟩
      go_wp2_with fail
      refine (rnumber_any _ _).mono ?_
      rintro e w2 ⟨rfl, rfl⟩
      go_wp2
      go_ret
      exact ⟨ret_bool (by rw [hs.out]; simp), hBel⟩
  · have hx := Lib.hid (show nxt n = (n + 1, 0) by rw [HX.out, if_neg (by omega), if_neg (by omega)])
    go_wp2_with fail
    refine (next_any n _).mono ?_
    rintro e w2 ⟨he, rfl⟩
    rw [hx.out] at he
    subst he
    go_wp2_with fail
    refine (scale_any _ _ _ _).mono ?_
    rintro e w2 ⟨rfl, rfl⟩
    rcases hcase2 with ho | ho
    · have hs := Lib.hid (show scl n by_ of_ = nb (n' * b' / 1) by rw [HS.out, if_pos ho])
      generalize scl n by_ of_ = r at *
      go_wp2_with fail
      refine (rnumber_to HN.out _).mono ?_
      rintro e w2 ⟨rfl, rfl⟩
      go_wp2_with fail
      refine (rnumber_to HB.out _).mono ?_
      rintro e w2 ⟨rfl, rfl⟩
      go_wp2_with fail
      refine (rnumber_to HO.out _).mono ?_
      rintro e w2 ⟨rfl, rfl⟩
      go_wp2_with fail
      refine (rnumber_any _ _).mono ?_
      rintro e w2 ⟨rfl, rfl⟩
      go_wp2
      go_ret
      exact ⟨ret_bool (by rw [hs.out]; simp), hBel⟩
    · have hs := Lib.hid (show scl n by_ of_ = nb (n' * b' / o') by rw [HS.out, if_neg (by omega)])
      generalize scl n by_ of_ = r at *
      go_wp2_with fail
      refine (rnumber_to HN.out _).mono ?_
      rintro e w2 ⟨rfl, rfl⟩
      go_wp2_with fail
      refine (rnumber_to HB.out _).mono ?_
      rintro e w2 ⟨rfl, rfl⟩
      go_wp2_with fail
      refine (rnumber_to HO.out _).mono ?_
      rintro e w2 ⟨rfl, rfl⟩
      go_wp2_with fail
      refine (rnumber_any _ _).mono ?_
      rintro e w2 ⟨rfl, rfl⟩
      go_wp2
      go_ret
      exact ⟨ret_bool (by rw [hs.out]; simp), hBel⟩
end Go.Proofs.Ytkmafgmlcocjiaa
