/- Backoff: awake, and the walks of the laws. -/
import Derived.Test.YtmpbgnopejeelaaBod
import Derived.Deep.RegionHeld3
namespace Go.Proofs.Ytmpbgnopejeelaa
open Go.RowKit Go.ChangeShapes Go.WideShapes
set_option linter.unusedVariables false
set_option linter.unusedSimpArgs false
set_option maxRecDepth 100000
namespace Bo
open Sh
def P0 : Wt := ⟨2, 9, 0⟩
theorem sprd0 (s : ByteArray) (t : Int) : sprd P0 s t = wtp P0 t := by
  have h : bS P0 = 0 := by decide
  unfold sprd
  rw [h, Int.mul_zero]
  omega
theorem ta3 (s : ByteArray) : ta P0 s 100 3 = 114 := by
  show plus (plus (plus (tm 100) (sprd P0 s ((0 : Nat) : Int))) (sprd P0 s ((1 : Nat) : Int))) (sprd P0 s ((2 : Nat) : Int)) = 114
  rw [sprd0, sprd0, sprd0]
  decide
theorem k_ok : ({ data := #[107] } : ByteArray).size ≤ 100 := by decide
set_option maxHeartbeats 4000000 in
theorem awake40 (w : World) : Calls Try.prog 40 #[] w fun e w' => e = .returned (.bool true) ∧ Frm0 w w' := by
  have H0 := Lib.hid (fun w => wait_any P0 0 (by decide) w)
  have H2 := Lib.hid (fun w => wait_any P0 2 (by decide) w)
  have H9 := Lib.hid (fun w => wait_any P0 9 (by decide) w)
  rw [show wtp P0 0 = 2 by decide] at H0
  rw [show wtp P0 2 = 8 by decide] at H2
  rw [show wtp P0 9 = 9 by decide] at H9
  have HR := Lib.hid (fun w => tries_any P0 14 w)
  rw [show ((triesN P0 14 : Nat) : Int) = 3 by decide +kernel] at HR
  have HT := Lib.hid (fun w => times_any P0 { data := #[107] } k_ok 100 3 w)
  rw [show (bring 3 0 100).toNat = 3 by decide] at HT
  have H3 := Lib.hid (show (wints (tl P0 { data := #[107] } 100 3))[2]? = some (.int .i64 114) by
    rw [wints_at _ 2 (by rw [tl_len]; omega)]
    show some (Value.int .i64 (ta P0 _ 100 3)) = _
    rw [ta3])
  have hal := (Frm.refl (fun _ => False) w).alloc (.cells #[.int .i64 2, .int .i64 9, .int .i64 0] 54)
  have hP := Bk.new w (.cells #[.int .i64 2, .int .i64 9, .int .i64 0] 54)
  go_enter Try.func40, Try.ntmps40
  go_wp2_with fail
  refine (HT.out _).mono ?_
  rintro e w1 ⟨v, rfl, hv, hf1⟩
  have hP1 := hf1.blk hP (fun h => h)
  have hF1 := hal.trans hf1
  obtain ⟨g, cap, rfl⟩ := owns_form hv
  have hc : w1.cell? ⟨g, 2, none⟩ = some (.int .i64 114) := by rw [hv.cellAt 2 (by omega), H3.out]
  generalize w.heap.size = P at *
  clear hP hal hf1 hv
  obtain ⟨c0, c1, c2⟩ := Bk.c3 hP1
  go_wp2_with fail
  refine (H0.out _).mono ?_
  rintro e w2 ⟨rfl, hf2⟩
  obtain ⟨c0, c1, c2⟩ := Bk.c3 (hf2.blk hP1 (fun h => h))
  go_wp2_with fail
  refine (H2.out _).mono ?_
  rintro e w3 ⟨rfl, hf3⟩
  obtain ⟨c0, c1, c2⟩ := Bk.c3 (hf3.blk (hf2.blk hP1 (fun h => h)) (fun h => h))
  go_wp2_with fail
  refine (H9.out _).mono ?_
  rintro e w4 ⟨rfl, hf4⟩
  have hP4 := hf4.blk (hf3.blk (hf2.blk hP1 (fun h => h)) (fun h => h)) (fun h => h)
  obtain ⟨c0, c1, c2⟩ := Bk.c3 hP4
  have hc4 := hf4.cell (hf3.cell (hf2.cell hc (fun h => h)) (fun h => h)) (fun h => h)
  go_wp2_with fail
  refine (HR.out _).mono ?_
  rintro e w5 ⟨rfl, hf5⟩
  go_wp2_with fail
  go_ret
  exact ⟨rfl, (((hF1.trans hf2).trans hf3).trans hf4).trans hf5⟩
set_option maxHeartbeats 4000000 in
theorem waits_walk (p : Wt) (s : ByteArray) (t : Int) (ht : (Lit.int .i64 t).wf = true) (w : World) :
    Calls Try.prog 10 #[.agg #[.int .i64 p.base, .int .i64 p.most, .int .i64 p.spread], .string s, .int .i64 t] w fun e w' => e = .returned (.bool true) ∧ Below w.heap.size w w' := by
  by_cases hs : 100 < s.size
  · go_enter Try.func10, Try.ntmps10
    go_wp2_with fail
    refine (awake40 _).mono ?_
    rintro e w1 ⟨rfl, hf1⟩
    have hF := ((Frm.refl (fun _ => False) w).alloc (.cells #[.int .i64 p.base, .int .i64 p.most, .int .i64 p.spread] 54)).trans hf1
    go_wp2
    go_ret
    exact ⟨rfl, hF.below (fun _ _ h => h)⟩
  have hsi : ¬ (100 : Int) < (s.size : Int) := by omega
  have HW := Lib.hid (fun w => wait_any p t ht w)
  have HRW := Lib.hid (fun w => rwait_any p t ht w)
  have HS := Lib.hid (fun w => spread_any p s (by omega) t ht w)
  have HRS := Lib.hid (fun w => rspread_any p s (by omega) t ht w)
  generalize wtp p t = x at *
  generalize sprd p s t = y at *
  have hal := (Frm.refl (fun _ => False) w).alloc (.cells #[.int .i64 p.base, .int .i64 p.most, .int .i64 p.spread] 54)
  have hP := Bk.new w (.cells #[.int .i64 p.base, .int .i64 p.most, .int .i64 p.spread] 54)
  clear ht
  go_enter Try.func10, Try.ntmps10
  go_wp2_with fail
  refine (awake40 _).mono ?_
  rintro e w1 ⟨rfl, hf1⟩
  have hP1 := hf1.blk hP (fun h => h)
  have hF1 := hal.trans hf1
  obtain ⟨P, hPe⟩ : ∃ P, w.heap.size = P := ⟨_, rfl⟩
  have HPE := Lib.hid hPe
  rw [hPe] at hP1 ⊢
  clear hPe hP hal hf1
  go_wp2_with fail
  refine wp_region_held_drew (S := fun w9 => w9.heap[P]? = some (.cells #[.int .i64 p.base, .int .i64 p.most, .int .i64 p.spread] 54 (0, 0))) (by kernel_rfl) (hP1) (fun hHeld => ?_)
  skip
  refine wpAnyH_take (i := 0) (v := ?_) rfl (by kernel_rfl) (by kernel_rfl) (by kernel_rfl) (fun _ _ _ h => h) (Or.inl ⟨by rfl, ?_⟩) (by assumption) ?_
  rotate_left 1
  focus (intro w hSw; (try dsimp only at hSw); obtain ⟨c0, c1, c2⟩ := Bk.c3 hSw; go_simp; (try with_reducible rfl))
  (try simp only [Act.put, List.getElem_toArray, List.getElem_cons_succ, List.getElem_cons_zero, List.setIfInBounds_toArray, List.set_cons_zero, List.set_cons_succ])
  refine wpAnyH_take (i := 1) (v := ?_) rfl (by kernel_rfl) (by kernel_rfl) (by kernel_rfl) (fun _ _ _ h => h) (Or.inl ⟨by rfl, ?_⟩) (by assumption) ?_
  rotate_left 1
  focus (intro w hSw; (try dsimp only at hSw); obtain ⟨c0, c1, c2⟩ := Bk.c3 hSw; go_simp; (try with_reducible rfl))
  (try simp only [Act.put, List.getElem_toArray, List.getElem_cons_succ, List.getElem_cons_zero, List.setIfInBounds_toArray, List.set_cons_zero, List.set_cons_succ])
  refine wpAnyH_take (i := 3) (v := ?_) rfl (by kernel_rfl) (by kernel_rfl) (by kernel_rfl) (fun _ _ _ h => h) (Or.inl ⟨by rfl, ?_⟩) (by assumption) ?_
  rotate_left 1
  focus (intro w hSw; (try dsimp only at hSw); obtain ⟨c0, c1, c2⟩ := Bk.c3 hSw; go_simp; (try with_reducible rfl))
  (try simp only [Act.put, List.getElem_toArray, List.getElem_cons_succ, List.getElem_cons_zero, List.setIfInBounds_toArray, List.set_cons_zero, List.set_cons_succ])
  refine wpAnyH_take (i := 4) (v := ?_) rfl (by kernel_rfl) (by kernel_rfl) (by kernel_rfl) (fun _ _ _ h => h) (Or.inl ⟨by rfl, ?_⟩) (by assumption) ?_
  rotate_left 1
  focus (intro w hSw; (try dsimp only at hSw); obtain ⟨c0, c1, c2⟩ := Bk.c3 hSw; go_simp; (try with_reducible rfl))
  (try simp only [Act.put, List.getElem_toArray, List.getElem_cons_succ, List.getElem_cons_zero, List.setIfInBounds_toArray, List.set_cons_zero, List.set_cons_succ])
  refine wpAnyH_ready (rs := [2]) (by kernel_rfl) (by simp) ?_
  refine AllReadyH.cons rfl (fun K hK => ?_) AllReadyH.nil
  go_simp
  (with_reducible refine (HW.out _).mono ?_)
  rintro e wa ⟨rfl, hfwa⟩
  (try go_wp2_with fail)
  refine hK.out _ _ ?_ (fun hHeld => ?_)
  focus (exact hfwa.blk (by assumption) (fun h => h))
  clear hK K
  (try simp only [Act.put, List.getElem_toArray, List.getElem_cons_succ, List.getElem_cons_zero, List.setIfInBounds_toArray, List.set_cons_zero, List.set_cons_succ])
  refine wpAnyH_ready (rs := [5]) (by kernel_rfl) (by simp) ?_
  refine AllReadyH.cons rfl (fun K hK => ?_) AllReadyH.nil
  go_simp
  (with_reducible refine (HRW.out _).mono ?_)
  rintro e wb ⟨rfl, hfwb⟩
  (try go_wp2_with fail)
  refine hK.out _ _ ?_ (fun hHeld => ?_)
  focus (exact hfwb.blk (by assumption) (fun h => h))
  clear hK K
  (try simp only [Act.put, List.getElem_toArray, List.getElem_cons_succ, List.getElem_cons_zero, List.setIfInBounds_toArray, List.set_cons_zero, List.set_cons_succ])
  refine wpAnyH_take (i := 6) (v := ?_) rfl (by kernel_rfl) (by kernel_rfl) (by kernel_rfl) (fun _ _ _ h => h) (Or.inl ⟨by rfl, ?_⟩) (by assumption) ?_
  rotate_left 1
  focus (intro w hSw; (try dsimp only at hSw); go_simp; (try with_reducible rfl))
  (try simp only [Act.put, List.getElem_toArray, List.getElem_cons_succ, List.getElem_cons_zero, List.setIfInBounds_toArray, List.set_cons_zero, List.set_cons_succ])
  refine wpAnyH_take (i := 7) (v := ?_) rfl (by kernel_rfl) (by kernel_rfl) (by kernel_rfl) (fun _ _ _ h => h) (Or.inl ⟨by rfl, ?_⟩) (by assumption) ?_
  rotate_left 1
  focus (intro w hSw; (try dsimp only at hSw); go_simp; (try with_reducible rfl))
  (try simp only [Act.put, List.getElem_toArray, List.getElem_cons_succ, List.getElem_cons_zero, List.setIfInBounds_toArray, List.set_cons_zero, List.set_cons_succ])
  refine wpAnyH_take (i := 8) (v := ?_) rfl (by kernel_rfl) (by kernel_rfl) (by kernel_rfl) (fun _ _ _ h => h) (Or.inl ⟨by rfl, ?_⟩) (by assumption) ?_
  rotate_left 1
  focus (intro w hSw; (try dsimp only at hSw); obtain ⟨c0, c1, c2⟩ := Bk.c3 hSw; go_simp; (try with_reducible rfl))
  (try simp only [Act.put, List.getElem_toArray, List.getElem_cons_succ, List.getElem_cons_zero, List.setIfInBounds_toArray, List.set_cons_zero, List.set_cons_succ])
  refine wpAnyH_take (i := 9) (v := ?_) rfl (by kernel_rfl) (by kernel_rfl) (by kernel_rfl) (fun _ _ _ h => h) (Or.inl ⟨by rfl, ?_⟩) (by assumption) ?_
  rotate_left 1
  focus (intro w hSw; (try dsimp only at hSw); obtain ⟨c0, c1, c2⟩ := Bk.c3 hSw; go_simp; (try with_reducible rfl))
  (try simp only [Act.put, List.getElem_toArray, List.getElem_cons_succ, List.getElem_cons_zero, List.setIfInBounds_toArray, List.set_cons_zero, List.set_cons_succ])
  refine wpAnyH_take (i := 10) (v := ?_) rfl (by kernel_rfl) (by kernel_rfl) (by kernel_rfl) (fun _ _ _ h => h) (Or.inl ⟨by rfl, ?_⟩) (by assumption) ?_
  rotate_left 1
  focus (intro w hSw; (try dsimp only at hSw); obtain ⟨c0, c1, c2⟩ := Bk.c3 hSw; go_simp; (try with_reducible rfl))
  (try simp only [Act.put, List.getElem_toArray, List.getElem_cons_succ, List.getElem_cons_zero, List.setIfInBounds_toArray, List.set_cons_zero, List.set_cons_succ])
  refine wpAnyH_take (i := 12) (v := ?_) rfl (by kernel_rfl) (by kernel_rfl) (by kernel_rfl) (fun _ _ _ h => h) (Or.inl ⟨by rfl, ?_⟩) (by assumption) ?_
  rotate_left 1
  focus (intro w hSw; (try dsimp only at hSw); obtain ⟨c0, c1, c2⟩ := Bk.c3 hSw; go_simp; (try with_reducible rfl))
  (try simp only [Act.put, List.getElem_toArray, List.getElem_cons_succ, List.getElem_cons_zero, List.setIfInBounds_toArray, List.set_cons_zero, List.set_cons_succ])
  refine wpAnyH_take (i := 13) (v := ?_) rfl (by kernel_rfl) (by kernel_rfl) (by kernel_rfl) (fun _ _ _ h => h) (Or.inl ⟨by rfl, ?_⟩) (by assumption) ?_
  rotate_left 1
  focus (intro w hSw; (try dsimp only at hSw); obtain ⟨c0, c1, c2⟩ := Bk.c3 hSw; go_simp; (try with_reducible rfl))
  (try simp only [Act.put, List.getElem_toArray, List.getElem_cons_succ, List.getElem_cons_zero, List.setIfInBounds_toArray, List.set_cons_zero, List.set_cons_succ])
  refine wpAnyH_take (i := 14) (v := ?_) rfl (by kernel_rfl) (by kernel_rfl) (by kernel_rfl) (fun _ _ _ h => h) (Or.inl ⟨by rfl, ?_⟩) (by assumption) ?_
  rotate_left 1
  focus (intro w hSw; (try dsimp only at hSw); obtain ⟨c0, c1, c2⟩ := Bk.c3 hSw; go_simp; (try with_reducible rfl))
  (try simp only [Act.put, List.getElem_toArray, List.getElem_cons_succ, List.getElem_cons_zero, List.setIfInBounds_toArray, List.set_cons_zero, List.set_cons_succ])
  refine wpAnyH_ready (rs := [11]) (by kernel_rfl) (by simp) ?_
  refine AllReadyH.cons rfl (fun K hK => ?_) AllReadyH.nil
  go_simp
  (with_reducible refine (HS.out _).mono ?_)
  rintro e wc ⟨rfl, hfwc⟩
  (try go_wp2_with fail)
  refine hK.out _ _ ?_ (fun hHeld => ?_)
  focus (exact hfwc.blk (by assumption) (fun h => h))
  clear hK K
  (try simp only [Act.put, List.getElem_toArray, List.getElem_cons_succ, List.getElem_cons_zero, List.setIfInBounds_toArray, List.set_cons_zero, List.set_cons_succ])
  refine wpAnyH_ready (rs := [15]) (by kernel_rfl) (by simp) ?_
  refine AllReadyH.cons rfl (fun K hK => ?_) AllReadyH.nil
  go_simp
  (with_reducible refine (HRS.out _).mono ?_)
  rintro e wd ⟨rfl, hfwd⟩
  (try go_wp2_with fail)
  refine hK.out _ _ ?_ (fun hHeld => ?_)
  focus (exact hfwd.blk (by assumption) (fun h => h))
  clear hK K
  (try simp only [Act.put, List.getElem_toArray, List.getElem_cons_succ, List.getElem_cons_zero, List.setIfInBounds_toArray, List.set_cons_zero, List.set_cons_succ])
  refine wpAnyH_take (i := 16) (v := ?_) rfl (by kernel_rfl) (by kernel_rfl) (by kernel_rfl) (fun _ _ _ h => h) (Or.inl ⟨by rfl, ?_⟩) (by assumption) ?_
  rotate_left 1
  focus (intro w hSw; (try dsimp only at hSw); go_simp; (try with_reducible rfl))
  (try simp only [Act.put, List.getElem_toArray, List.getElem_cons_succ, List.getElem_cons_zero, List.setIfInBounds_toArray, List.set_cons_zero, List.set_cons_succ])
  refine wpAnyH_take (i := 17) (v := ?_) rfl (by kernel_rfl) (by kernel_rfl) (by kernel_rfl) (fun _ _ _ h => h) (Or.inl ⟨by rfl, ?_⟩) (by assumption) ?_
  rotate_left 1
  focus (intro w hSw; (try dsimp only at hSw); go_simp; (try with_reducible rfl))
  (try simp only [Act.put, List.getElem_toArray, List.getElem_cons_succ, List.getElem_cons_zero, List.setIfInBounds_toArray, List.set_cons_zero, List.set_cons_succ])
  refine wpAnyH_take (i := 18) (v := ?_) rfl (by kernel_rfl) (by kernel_rfl) (by kernel_rfl) (fun _ _ _ h => h) (Or.inl ⟨by rfl, ?_⟩) (by assumption) ?_
  rotate_left 1
  focus (intro w hSw; (try dsimp only at hSw); go_simp; (try with_reducible rfl))
  (try simp only [Act.put, List.getElem_toArray, List.getElem_cons_succ, List.getElem_cons_zero, List.setIfInBounds_toArray, List.set_cons_zero, List.set_cons_succ])
  refine wpAnyH_done (by kernel_rfl) ?_ _
  have hF := (((hF1.drew.trans hfwa).trans hfwb).trans hfwc).trans hfwd
  go_wp2_with fail
  go_ret
  exact ⟨rfl, hF.below (fun _ _ h => h)⟩
theorem owns_form' {w : World} {base : Nat} {e : TypeId} {A : Option Addr} {c : Nat} {n : Nat} {xs : List Value} (h : w.ownsRow base e 1 (.slice A n c) n xs) : ∀ k, k < n → ∃ g cp, Value.slice A n c = .slice (some ⟨g, 0, none⟩) n cp ∧ w.cell? ⟨g, k, none⟩ = xs[k]? := fun k hk => by
  rcases h.2 with ⟨_, h0⟩ | ⟨g, cap, cur, he, hx⟩
  · omega
  · cases he
    exact ⟨g, _, rfl, h.cellAt k (by omega)⟩
theorem next_nat (p : Wt) (n : Nat) : wtp p n ≤ wtp p ((n : Int) + 1) ∧ (wtp p ((n : Int) + 1) = bM p ∨ wtp p ((n : Int) + 1) = 2 * wtp p n) := by
  have h1 := bB_bd p
  have h2 := bM_bd p
  have h := wt_step h1.1 h2.1 n
  unfold wtp
  rw [show ((n : Int) + 1).toNat = n + 1 by omega, show ((n : Int)).toNat = n by omega]
  exact h
set_option maxHeartbeats 4000000 in
theorem bounds_walk (p : Wt) (s : ByteArray) (n : Nat) (hn : n < 256) (w : World) :
    Calls Try.prog 11 #[.agg #[.int .i64 p.base, .int .i64 p.most, .int .i64 p.spread], .string s, .int .u8 n] w fun e w' => e = .returned (.bool true) ∧ Below w.heap.size w w' := by
  by_cases hs : 100 < s.size
  · go_enter Try.func11, Try.ntmps11
    go_wp2_with fail
    refine (awake40 _).mono ?_
    rintro e w1 ⟨rfl, hf1⟩
    have hF := ((Frm.refl (fun _ => False) w).alloc (.cells #[.int .i64 p.base, .int .i64 p.most, .int .i64 p.spread] 54)).trans hf1
    go_wp2
    go_ret
    exact ⟨rfl, hF.below (fun _ _ h => h)⟩
  have hsi : ¬ (100 : Int) < (s.size : Int) := by omega
  have HB := Lib.hid (fun w => rbrought_any p w)
  have HW0 := Lib.hid (fun w => wait_any p n (WalkArith.wf_i64 (n := (n : Int)) (by omega)) w)
  have HW1 := Lib.hid (fun w => wait_any p ((n : Int) + 1) (WalkArith.wf_i64 (n := (n : Int) + 1) (by omega)) w)
  have HS := Lib.hid (fun w => spread_any p s (by omega) n (WalkArith.wf_i64 (n := (n : Int)) (by omega)) w)
  have hnx := next_nat p n
  have hsb := sprd_bd p s n
  have hsh := share_bd p n
  have hwb := wtp_bd p n
  have hwc := wtp_bd p ((n : Int) + 1)
  have hbm := bM_bd p
  generalize wtp p ((n : Int) + 1) = y at *
  generalize sprd p s n = z at *
  generalize wtp p n = x at *
  generalize bS p = sp at *
  generalize bB p = b at *
  generalize bM p = m at *
  obtain ⟨Q, hQ⟩ : ∃ Q, x * sp = Q := ⟨_, rfl⟩
  rw [hQ] at hsb hsh
  have HNX := Lib.hid hnx
  have HQ := Lib.hid hQ
  have hxy := hnx.1
  have hal := (Frm.refl (fun _ => False) w).alloc (.cells #[.int .i64 p.base, .int .i64 p.most, .int .i64 p.spread] 54)
  have hP := Bk.new w (.cells #[.int .i64 p.base, .int .i64 p.most, .int .i64 p.spread] 54)
  clear hnx hQ
  go_enter Try.func11, Try.ntmps11
  go_wp2_with fail
  refine (awake40 _).mono ?_
  rintro e w1 ⟨rfl, hf1⟩
  have hP1 := hf1.blk hP (fun h => h)
  have hF1 := hal.trans hf1
  obtain ⟨P, hPe⟩ : ∃ P, w.heap.size = P := ⟨_, rfl⟩
  have HPE := Lib.hid hPe
  rw [hPe] at hP1 ⊢
  clear hPe hP hal hf1
  obtain ⟨c0, c1, c2⟩ := Bk.c3 hP1
  go_wp2_with fail
  refine (HB.out _).mono ?_
  rintro e w2 ⟨rfl, hf2⟩
  have hP1 := hf2.blk hP1 (fun h => h)
  have hF2 := hF1.trans hf2
  clear c0 c1 c2
  go_upto_region 6 with (fail)
  have hB := Bk.new w2 (.cells #[.int .i64 b, .int .i64 m, .int .i64 sp] 54)
  have hP1 := Bk.alloc hP1 (.cells #[.int .i64 b, .int .i64 m, .int .i64 sp] 54)
  have hF2 := hF2.alloc (.cells #[.int .i64 b, .int .i64 m, .int .i64 sp] 54)
  generalize w2.alloc (.cells #[.int .i64 b, .int .i64 m, .int .i64 sp] 54) = w3 at *
  generalize w2.heap.size = B at *
  clear hF1 hf2
  have hni : (n : Int) < 256 := by omega
  have w0 : IntKind.i64.wrap (n : Int) = (n : Int) := IntWalk.i64_in _ (by omega)
  have w1 : IntKind.i64.wrap ((n : Int) + 1) = (n : Int) + 1 := IntWalk.i64_in _ (by omega)
  refine wp_region_held_drew (S := fun w9 => w9.heap[P]? = some (.cells #[.int .i64 p.base, .int .i64 p.most, .int .i64 p.spread] 54 (0, 0))) (by kernel_rfl) (hP1) (fun hHeld => ?_)
  skip
  refine wpAnyH_take (i := 0) (v := ?_) rfl (by kernel_rfl) (by kernel_rfl) (by kernel_rfl) (fun _ _ _ h => h) (Or.inl ⟨by rfl, ?_⟩) (by assumption) ?_
  rotate_left 1
  focus (intro w hSw; (try dsimp only at hSw); obtain ⟨c0, c1, c2⟩ := Bk.c3 hSw; go_simp; (try with_reducible rfl))
  (try simp only [Act.put, List.getElem_toArray, List.getElem_cons_succ, List.getElem_cons_zero, List.setIfInBounds_toArray, List.set_cons_zero, List.set_cons_succ])
  refine wpAnyH_take (i := 1) (v := ?_) rfl (by kernel_rfl) (by kernel_rfl) (by kernel_rfl) (fun _ _ _ h => h) (Or.inl ⟨by rfl, ?_⟩) (by assumption) ?_
  rotate_left 1
  focus (intro w hSw; (try dsimp only at hSw); obtain ⟨c0, c1, c2⟩ := Bk.c3 hSw; go_simp; (try with_reducible rfl))
  (try simp only [Act.put, List.getElem_toArray, List.getElem_cons_succ, List.getElem_cons_zero, List.setIfInBounds_toArray, List.set_cons_zero, List.set_cons_succ])
  refine wpAnyH_take (i := 2) (v := ?_) rfl (by kernel_rfl) (by kernel_rfl) (by kernel_rfl) (fun _ _ _ h => h) (Or.inl ⟨by rfl, ?_⟩) (by assumption) ?_
  rotate_left 1
  focus (intro w hSw; (try dsimp only at hSw); obtain ⟨c0, c1, c2⟩ := Bk.c3 hSw; go_simp; (try with_reducible rfl))
  (try simp only [Act.put, List.getElem_toArray, List.getElem_cons_succ, List.getElem_cons_zero, List.setIfInBounds_toArray, List.set_cons_zero, List.set_cons_succ])
  refine wpAnyH_take (i := 4) (v := ?_) rfl (by kernel_rfl) (by kernel_rfl) (by kernel_rfl) (fun _ _ _ h => h) (Or.inl ⟨by rfl, ?_⟩) (by assumption) ?_
  rotate_left 1
  focus (intro w hSw; (try dsimp only at hSw); obtain ⟨c0, c1, c2⟩ := Bk.c3 hSw; go_simp; (try with_reducible rfl))
  (try simp only [Act.put, List.getElem_toArray, List.getElem_cons_succ, List.getElem_cons_zero, List.setIfInBounds_toArray, List.set_cons_zero, List.set_cons_succ])
  refine wpAnyH_take (i := 5) (v := ?_) rfl (by kernel_rfl) (by kernel_rfl) (by kernel_rfl) (fun _ _ _ h => h) (Or.inl ⟨by rfl, ?_⟩) (by assumption) ?_
  rotate_left 1
  focus (intro w hSw; (try dsimp only at hSw); obtain ⟨c0, c1, c2⟩ := Bk.c3 hSw; go_simp; (try with_reducible rfl))
  (try simp only [Act.put, List.getElem_toArray, List.getElem_cons_succ, List.getElem_cons_zero, List.setIfInBounds_toArray, List.set_cons_zero, List.set_cons_succ])
  refine wpAnyH_take (i := 6) (v := ?_) rfl (by kernel_rfl) (by kernel_rfl) (by kernel_rfl) (fun _ _ _ h => h) (Or.inl ⟨by rfl, ?_⟩) (by assumption) ?_
  rotate_left 1
  focus (intro w hSw; (try dsimp only at hSw); obtain ⟨c0, c1, c2⟩ := Bk.c3 hSw; go_simp; (try with_reducible rfl))
  (try simp only [Act.put, List.getElem_toArray, List.getElem_cons_succ, List.getElem_cons_zero, List.setIfInBounds_toArray, List.set_cons_zero, List.set_cons_succ])
  refine wpAnyH_take (i := 7) (v := ?_) rfl (by kernel_rfl) (by kernel_rfl) (by kernel_rfl) (fun _ _ _ h => h) (Or.inl ⟨by rfl, ?_⟩) (by assumption) ?_
  rotate_left 1
  focus (intro w hSw; (try dsimp only at hSw); obtain ⟨c0, c1, c2⟩ := Bk.c3 hSw; go_simp; (try with_reducible rfl))
  (try simp only [Act.put, List.getElem_toArray, List.getElem_cons_succ, List.getElem_cons_zero, List.setIfInBounds_toArray, List.set_cons_zero, List.set_cons_succ])
  refine wpAnyH_ready (rs := [3]) (by kernel_rfl) (by simp) ?_
  refine AllReadyH.cons rfl (fun K hK => ?_) AllReadyH.nil
  go_simp
  (with_reducible refine (HW0.out _).mono ?_)
  rintro e wa ⟨rfl, hfwa⟩
  (try go_wp2_with fail)
  refine hK.out _ _ ?_ (fun hHeld => ?_)
  focus (exact hfwa.blk (by assumption) (fun h => h))
  clear hK K
  (try simp only [Act.put, List.getElem_toArray, List.getElem_cons_succ, List.getElem_cons_zero, List.setIfInBounds_toArray, List.set_cons_zero, List.set_cons_succ])
  refine wpAnyH_ready (rs := [8]) (by kernel_rfl) (by simp) ?_
  refine AllReadyH.cons rfl (fun K hK => ?_) AllReadyH.nil
  go_simp
  (with_reducible refine (HW1.out _).mono ?_)
  rintro e wb ⟨rfl, hfwb⟩
  (try go_wp2_with fail)
  refine hK.out _ _ ?_ (fun hHeld => ?_)
  focus (exact hfwb.blk (by assumption) (fun h => h))
  clear hK K
  (try simp only [Act.put, List.getElem_toArray, List.getElem_cons_succ, List.getElem_cons_zero, List.setIfInBounds_toArray, List.set_cons_zero, List.set_cons_succ])
  refine wpAnyH_take (i := 9) (v := ?_) rfl (by kernel_rfl) (by kernel_rfl) (by kernel_rfl) (fun _ _ _ h => h) (Or.inl ⟨by rfl, ?_⟩) (by assumption) ?_
  rotate_left 1
  focus (intro w hSw; (try dsimp only at hSw); go_simp; (try with_reducible rfl))
  (try simp only [Act.put, List.getElem_toArray, List.getElem_cons_succ, List.getElem_cons_zero, List.setIfInBounds_toArray, List.set_cons_zero, List.set_cons_succ])
  refine wpAnyH_take (i := 10) (v := ?_) rfl (by kernel_rfl) (by kernel_rfl) (by kernel_rfl) (fun _ _ _ h => h) (Or.inl ⟨by rfl, ?_⟩) (by assumption) ?_
  rotate_left 1
  focus (intro w hSw; (try dsimp only at hSw); go_simp; (try with_reducible rfl))
  (try simp only [Act.put, List.getElem_toArray, List.getElem_cons_succ, List.getElem_cons_zero, List.setIfInBounds_toArray, List.set_cons_zero, List.set_cons_succ])
  refine wpAnyH_done (by kernel_rfl) ?_ _
  have hF3 := (hF2.drew.trans hfwa).trans hfwb
  have hP3 : wb.heap[P]? = some (.cells #[.int .i64 p.base, .int .i64 p.most, .int .i64 p.spread] 54 (0, 0)) := by assumption
  obtain ⟨c0, c1, c2⟩ := Bk.c3 hP3
  have hB3 := hfwb.blk (hfwa.blk (show w3.drew.heap[B]? = _ from hB) (fun h => h)) (fun h => h)
  clear hfwa hfwb
  go_wp2_with fail
  refine (HS.out _).mono ?_
  rintro e wc ⟨rfl, hf4⟩
  have hF4 := hF3.trans hf4
  obtain ⟨b0, b1, b2⟩ := Bk.c3 (hf4.blk hB3 (fun h => h))
  clear hf4 hF3 hP3 hB3 c0 c1 c2
  have hQ := HQ.out
  have e1 : IntKind.i64.wrap Q = Q := IntWalk.i64_in _ (by omega)
  have e2 : IntKind.i64.wrap (Q / 100) = Q / 100 := IntWalk.i64_in _ (by omega)
  have e3 : IntKind.i64.wrap (x - Q / 100) = x - Q / 100 := IntWalk.i64_in _ (by omega)
  have e4 : IntKind.i64.wrap (2 * x) = 2 * x := IntWalk.i64_in _ (by omega)
  have d1 : b ≤ x := hwb.2.1
  have d2 : y ≤ m := hwc.2.2.1
  have d3 : z ≤ x := hsb.2
  have d4 : x - Q / 100 ≤ z := hsb.1
  have d5 : (0 : Int) ≤ Q := hsh.1
  by_cases hym : y = m
  · subst hym
    go_wp2_with fail
    go_ret
    exact ⟨rfl, hF4.below (fun _ _ h => h)⟩
  · have hy2 : y = 2 * x := HNX.out.2.resolve_left hym
    have f1 : (y == m) = false := beq_eq_false_iff_ne.2 hym
    have f2 : (y == 2 * x) = true := beq_iff_eq.2 hy2
    have HY := Lib.hid hy2
    clear hy2
    go_wp2_with fail
    go_ret
    exact ⟨rfl, hF4.below (fun _ _ h => h)⟩
theorem bounds_u8 (p : Wt) (s : ByteArray) (n : Int) (w : World) (hn : 0 ≤ n ∧ n ≤ 255) :
    Calls Try.prog 11 #[.agg #[.int .i64 p.base, .int .i64 p.most, .int .i64 p.spread], .string s, .int .u8 n] w fun e w' => e = .returned (.bool true) ∧ Below w.heap.size w w' := by
  obtain ⟨n, rfl⟩ := Int.eq_ofNat_of_zero_le hn.1
  exact bounds_walk p s n (by omega) w
set_option maxHeartbeats 4000000 in
theorem times_walk (p : Wt) (s : ByteArray) (n0 n1 n2 : Int) (h1 : (Lit.int .i64 n1).wf = true) (w : World) :
    Calls Try.prog 12 #[.agg #[.int .i64 p.base, .int .i64 p.most, .int .i64 p.spread], .string s, .agg #[.int .i64 n0, .int .i64 n1, .int .i64 n2]] w fun e w' => e = .returned (.bool true) ∧ Below w.heap.size w w' := by
  by_cases hs : 100 < s.size
  · go_enter Try.func12, Try.ntmps12
    go_wp2_with fail
    refine (awake40 _).mono ?_
    rintro e w1 ⟨rfl, hf1⟩
    have hF := (((Frm.refl (fun _ => False) w).alloc (.cells #[.int .i64 p.base, .int .i64 p.most, .int .i64 p.spread] 54)).alloc (.cells #[.int .i64 n0, .int .i64 n1, .int .i64 n2] 60)).trans hf1
    go_wp2
    go_ret
    exact ⟨rfl, hF.below (fun _ _ h => h)⟩
  have hsi : ¬ (100 : Int) < (s.size : Int) := by omega
  have HT := Lib.hid (fun w => times_any p s (by omega) n0 n1 w)
  have HRT := Lib.hid (fun w => rtimes_any p s (by omega) n0 n1 h1 w)
  have HTR := Lib.hid (fun w => tries_any p n2 w)
  have HRTR := Lib.hid (fun w => rtries_any p n2 w)
  generalize ((triesN p n2 : Nat) : Int) = tr at *
  have hql : (tl p s n0 (bring n1 0 100).toNat).length = (bring n1 0 100).toNat := tl_len _ _ _ _
  have hqb : (bring n1 0 100).toNat ≤ 100 := by have := cnt_bd n1; omega
  generalize (bring n1 0 100).toNat = q at *
  generalize tl p s n0 q = L at *
  have HQL := Lib.hid hql
  have hal := ((Frm.refl (fun _ => False) w).alloc (.cells #[.int .i64 p.base, .int .i64 p.most, .int .i64 p.spread] 54)).alloc (.cells #[.int .i64 n0, .int .i64 n1, .int .i64 n2] 60)
  have hP := Bk.alloc (Bk.new w (.cells #[.int .i64 p.base, .int .i64 p.most, .int .i64 p.spread] 54)) (.cells #[.int .i64 n0, .int .i64 n1, .int .i64 n2] 60)
  have hN := new_second w (.cells #[.int .i64 p.base, .int .i64 p.most, .int .i64 p.spread] 54) (.cells #[.int .i64 n0, .int .i64 n1, .int .i64 n2] 60)
  clear hql h1
  go_enter Try.func12, Try.ntmps12
  go_wp2_with fail
  refine (awake40 _).mono ?_
  rintro e w1 ⟨rfl, hf1⟩
  have hP1 := hf1.blk hP (fun h => h)
  have hN1 := hf1.blk hN (fun h => h)
  have hF1 := hal.trans hf1
  obtain ⟨P, hPe⟩ : ∃ P, w.heap.size = P := ⟨_, rfl⟩
  obtain ⟨N, hNe⟩ : ∃ N, w.heap.size + 1 = N := ⟨_, rfl⟩
  have HPE := Lib.hid hPe
  rw [hNe] at hN1 ⊢
  rw [hPe] at hP1 ⊢
  clear hPe hNe hP hN hal hf1
  go_wp2_with fail
  refine wp_region_held_drew (S := fun w9 => w9.heap[P]? = some (.cells #[.int .i64 p.base, .int .i64 p.most, .int .i64 p.spread] 54 (0, 0)) ∧ w9.heap[N]? = some (.cells #[.int .i64 n0, .int .i64 n1, .int .i64 n2] 60 (0, 0))) (by kernel_rfl) (⟨hP1, hN1⟩) (fun hHeld => ?_)
  skip
  refine wpAnyH_take (i := 0) (v := ?_) rfl (by kernel_rfl) (by kernel_rfl) (by kernel_rfl) (fun _ _ _ h => h) (Or.inl ⟨by rfl, ?_⟩) (by assumption) ?_
  rotate_left 1
  focus (intro w hSw; (try dsimp only at hSw); obtain ⟨c0, c1, c2⟩ := Bk.c3 hSw.1; obtain ⟨d0, d1, d2⟩ := Bk.c3 hSw.2; go_simp; (try with_reducible rfl))
  (try simp only [Act.put, List.getElem_toArray, List.getElem_cons_succ, List.getElem_cons_zero, List.setIfInBounds_toArray, List.set_cons_zero, List.set_cons_succ])
  refine wpAnyH_take (i := 1) (v := ?_) rfl (by kernel_rfl) (by kernel_rfl) (by kernel_rfl) (fun _ _ _ h => h) (Or.inl ⟨by rfl, ?_⟩) (by assumption) ?_
  rotate_left 1
  focus (intro w hSw; (try dsimp only at hSw); obtain ⟨c0, c1, c2⟩ := Bk.c3 hSw.1; obtain ⟨d0, d1, d2⟩ := Bk.c3 hSw.2; go_simp; (try with_reducible rfl))
  (try simp only [Act.put, List.getElem_toArray, List.getElem_cons_succ, List.getElem_cons_zero, List.setIfInBounds_toArray, List.set_cons_zero, List.set_cons_succ])
  refine wpAnyH_take (i := 2) (v := ?_) rfl (by kernel_rfl) (by kernel_rfl) (by kernel_rfl) (fun _ _ _ h => h) (Or.inl ⟨by rfl, ?_⟩) (by assumption) ?_
  rotate_left 1
  focus (intro w hSw; (try dsimp only at hSw); obtain ⟨c0, c1, c2⟩ := Bk.c3 hSw.1; obtain ⟨d0, d1, d2⟩ := Bk.c3 hSw.2; go_simp; (try with_reducible rfl))
  (try simp only [Act.put, List.getElem_toArray, List.getElem_cons_succ, List.getElem_cons_zero, List.setIfInBounds_toArray, List.set_cons_zero, List.set_cons_succ])
  refine wpAnyH_take (i := 3) (v := ?_) rfl (by kernel_rfl) (by kernel_rfl) (by kernel_rfl) (fun _ _ _ h => h) (Or.inl ⟨by rfl, ?_⟩) (by assumption) ?_
  rotate_left 1
  focus (intro w hSw; (try dsimp only at hSw); obtain ⟨c0, c1, c2⟩ := Bk.c3 hSw.1; obtain ⟨d0, d1, d2⟩ := Bk.c3 hSw.2; go_simp; (try with_reducible rfl))
  (try simp only [Act.put, List.getElem_toArray, List.getElem_cons_succ, List.getElem_cons_zero, List.setIfInBounds_toArray, List.set_cons_zero, List.set_cons_succ])
  refine wpAnyH_take (i := 4) (v := ?_) rfl (by kernel_rfl) (by kernel_rfl) (by kernel_rfl) (fun _ _ _ h => h) (Or.inl ⟨by rfl, ?_⟩) (by assumption) ?_
  rotate_left 1
  focus (intro w hSw; (try dsimp only at hSw); obtain ⟨c0, c1, c2⟩ := Bk.c3 hSw.1; obtain ⟨d0, d1, d2⟩ := Bk.c3 hSw.2; go_simp; (try with_reducible rfl))
  (try simp only [Act.put, List.getElem_toArray, List.getElem_cons_succ, List.getElem_cons_zero, List.setIfInBounds_toArray, List.set_cons_zero, List.set_cons_succ])
  refine wpAnyH_take (i := 5) (v := ?_) rfl (by kernel_rfl) (by kernel_rfl) (by kernel_rfl) (fun _ _ _ h => h) (Or.inl ⟨by rfl, ?_⟩) (by assumption) ?_
  rotate_left 1
  focus (intro w hSw; (try dsimp only at hSw); obtain ⟨c0, c1, c2⟩ := Bk.c3 hSw.1; obtain ⟨d0, d1, d2⟩ := Bk.c3 hSw.2; go_simp; (try with_reducible rfl))
  (try simp only [Act.put, List.getElem_toArray, List.getElem_cons_succ, List.getElem_cons_zero, List.setIfInBounds_toArray, List.set_cons_zero, List.set_cons_succ])
  refine wpAnyH_take (i := 7) (v := ?_) rfl (by kernel_rfl) (by kernel_rfl) (by kernel_rfl) (fun _ _ _ h => h) (Or.inl ⟨by rfl, ?_⟩) (by assumption) ?_
  rotate_left 1
  focus (intro w hSw; (try dsimp only at hSw); obtain ⟨c0, c1, c2⟩ := Bk.c3 hSw.1; obtain ⟨d0, d1, d2⟩ := Bk.c3 hSw.2; go_simp; (try with_reducible rfl))
  (try simp only [Act.put, List.getElem_toArray, List.getElem_cons_succ, List.getElem_cons_zero, List.setIfInBounds_toArray, List.set_cons_zero, List.set_cons_succ])
  refine wpAnyH_take (i := 8) (v := ?_) rfl (by kernel_rfl) (by kernel_rfl) (by kernel_rfl) (fun _ _ _ h => h) (Or.inl ⟨by rfl, ?_⟩) (by assumption) ?_
  rotate_left 1
  focus (intro w hSw; (try dsimp only at hSw); obtain ⟨c0, c1, c2⟩ := Bk.c3 hSw.1; obtain ⟨d0, d1, d2⟩ := Bk.c3 hSw.2; go_simp; (try with_reducible rfl))
  (try simp only [Act.put, List.getElem_toArray, List.getElem_cons_succ, List.getElem_cons_zero, List.setIfInBounds_toArray, List.set_cons_zero, List.set_cons_succ])
  refine wpAnyH_take (i := 9) (v := ?_) rfl (by kernel_rfl) (by kernel_rfl) (by kernel_rfl) (fun _ _ _ h => h) (Or.inl ⟨by rfl, ?_⟩) (by assumption) ?_
  rotate_left 1
  focus (intro w hSw; (try dsimp only at hSw); obtain ⟨c0, c1, c2⟩ := Bk.c3 hSw.1; obtain ⟨d0, d1, d2⟩ := Bk.c3 hSw.2; go_simp; (try with_reducible rfl))
  (try simp only [Act.put, List.getElem_toArray, List.getElem_cons_succ, List.getElem_cons_zero, List.setIfInBounds_toArray, List.set_cons_zero, List.set_cons_succ])
  refine wpAnyH_take (i := 10) (v := ?_) rfl (by kernel_rfl) (by kernel_rfl) (by kernel_rfl) (fun _ _ _ h => h) (Or.inl ⟨by rfl, ?_⟩) (by assumption) ?_
  rotate_left 1
  focus (intro w hSw; (try dsimp only at hSw); obtain ⟨c0, c1, c2⟩ := Bk.c3 hSw.1; obtain ⟨d0, d1, d2⟩ := Bk.c3 hSw.2; go_simp; (try with_reducible rfl))
  (try simp only [Act.put, List.getElem_toArray, List.getElem_cons_succ, List.getElem_cons_zero, List.setIfInBounds_toArray, List.set_cons_zero, List.set_cons_succ])
  refine wpAnyH_take (i := 11) (v := ?_) rfl (by kernel_rfl) (by kernel_rfl) (by kernel_rfl) (fun _ _ _ h => h) (Or.inl ⟨by rfl, ?_⟩) (by assumption) ?_
  rotate_left 1
  focus (intro w hSw; (try dsimp only at hSw); obtain ⟨c0, c1, c2⟩ := Bk.c3 hSw.1; obtain ⟨d0, d1, d2⟩ := Bk.c3 hSw.2; go_simp; (try with_reducible rfl))
  (try simp only [Act.put, List.getElem_toArray, List.getElem_cons_succ, List.getElem_cons_zero, List.setIfInBounds_toArray, List.set_cons_zero, List.set_cons_succ])
  refine wpAnyH_take (i := 12) (v := ?_) rfl (by kernel_rfl) (by kernel_rfl) (by kernel_rfl) (fun _ _ _ h => h) (Or.inl ⟨by rfl, ?_⟩) (by assumption) ?_
  rotate_left 1
  focus (intro w hSw; (try dsimp only at hSw); obtain ⟨c0, c1, c2⟩ := Bk.c3 hSw.1; obtain ⟨d0, d1, d2⟩ := Bk.c3 hSw.2; go_simp; (try with_reducible rfl))
  (try simp only [Act.put, List.getElem_toArray, List.getElem_cons_succ, List.getElem_cons_zero, List.setIfInBounds_toArray, List.set_cons_zero, List.set_cons_succ])
  refine wpAnyH_ready (rs := [6]) (by kernel_rfl) (by simp) ?_
  refine AllReadyH.cons rfl (fun K hK => ?_) AllReadyH.nil
  go_simp
  refine (HT.out _).mono ?_
  rintro e wa ⟨va, rfl, hva, hfwa⟩
  (try go_wp2_with fail)
  refine hK.out _ _ ?_ (fun hHeld => ?_)
  focus (exact ⟨hfwa.blk (And.left (by assumption)) (fun h => h), hfwa.blk (And.right (by assumption)) (fun h => h)⟩)
  clear hK K
  (try simp only [Act.put, List.getElem_toArray, List.getElem_cons_succ, List.getElem_cons_zero, List.setIfInBounds_toArray, List.set_cons_zero, List.set_cons_succ])
  refine wpAnyH_ready (rs := [13]) (by kernel_rfl) (by simp) ?_
  refine AllReadyH.cons rfl (fun K hK => ?_) AllReadyH.nil
  go_simp
  refine (HRT.out _).mono ?_
  rintro e wb ⟨vb, rfl, hvb, hfwb⟩
  (try go_wp2_with fail)
  refine hK.out _ _ ?_ (fun hHeld => ?_)
  focus (exact ⟨hfwb.blk (And.left (by assumption)) (fun h => h), hfwb.blk (And.right (by assumption)) (fun h => h)⟩)
  clear hK K
  (try simp only [Act.put, List.getElem_toArray, List.getElem_cons_succ, List.getElem_cons_zero, List.setIfInBounds_toArray, List.set_cons_zero, List.set_cons_succ])
  refine wpAnyH_take (i := 14) (v := ?_) rfl (by kernel_rfl) (by kernel_rfl) (by kernel_rfl) (fun _ _ _ h => h) (Or.inl ⟨by rfl, ?_⟩) (by assumption) ?_
  rotate_left 1
  focus (intro w hSw; (try dsimp only at hSw); go_simp; (try with_reducible rfl))
  (try simp only [Act.put, List.getElem_toArray, List.getElem_cons_succ, List.getElem_cons_zero, List.setIfInBounds_toArray, List.set_cons_zero, List.set_cons_succ])
  refine wpAnyH_take (i := 15) (v := ?_) rfl (by kernel_rfl) (by kernel_rfl) (by kernel_rfl) (fun _ _ _ h => h) (Or.inl ⟨by rfl, ?_⟩) (by assumption) ?_
  rotate_left 1
  focus (intro w hSw; (try dsimp only at hSw); go_simp; (try with_reducible rfl))
  (try simp only [Act.put, List.getElem_toArray, List.getElem_cons_succ, List.getElem_cons_zero, List.setIfInBounds_toArray, List.set_cons_zero, List.set_cons_succ])
  refine wpAnyH_done (by kernel_rfl) ?_ _
  have hPN : wb.heap[P]? = some (.cells #[.int .i64 p.base, .int .i64 p.most, .int .i64 p.spread] 54 (0, 0)) ∧ wb.heap[N]? = some (.cells #[.int .i64 n0, .int .i64 n1, .int .i64 n2] 60 (0, 0)) := by assumption
  have hva := owns_frm0 hva hfwb
  have hF2 := (hF1.drew.trans hfwa).trans hfwb
  obtain ⟨hP2, hN2⟩ := hPN
  obtain ⟨A1, cp1, rfl⟩ := owns_form0 hva
  obtain ⟨A2, cp2, rfl⟩ := owns_form0 hvb
  clear hfwa hfwb hF1
  go_wp2_with fail
  refine wp_region_held_drew (S := fun w9 => w9.heap[P]? = some (.cells #[.int .i64 p.base, .int .i64 p.most, .int .i64 p.spread] 54 (0, 0)) ∧ w9.heap[N]? = some (.cells #[.int .i64 n0, .int .i64 n1, .int .i64 n2] 60 (0, 0))) (by kernel_rfl) (⟨hP2, hN2⟩) (fun hHeld => ?_)
  skip
  refine wpAnyH_take (i := 0) (v := ?_) rfl (by kernel_rfl) (by kernel_rfl) (by kernel_rfl) (fun _ _ _ h => h) (Or.inl ⟨by rfl, ?_⟩) (by assumption) ?_
  rotate_left 1
  focus (intro w hSw; (try dsimp only at hSw); go_simp; (try with_reducible rfl))
  (try simp only [Act.put, List.getElem_toArray, List.getElem_cons_succ, List.getElem_cons_zero, List.setIfInBounds_toArray, List.set_cons_zero, List.set_cons_succ])
  refine wpAnyH_take (i := 1) (v := ?_) rfl (by kernel_rfl) (by kernel_rfl) (by kernel_rfl) (fun _ _ _ h => h) (Or.inl ⟨by rfl, ?_⟩) (by assumption) ?_
  rotate_left 1
  focus (intro w hSw; (try dsimp only at hSw); go_simp; (try with_reducible rfl))
  (try simp only [Act.put, List.getElem_toArray, List.getElem_cons_succ, List.getElem_cons_zero, List.setIfInBounds_toArray, List.set_cons_zero, List.set_cons_succ])
  refine wpAnyH_take (i := 2) (v := ?_) rfl (by kernel_rfl) (by kernel_rfl) (by kernel_rfl) (fun _ _ _ h => h) (Or.inl ⟨by rfl, ?_⟩) (by assumption) ?_
  rotate_left 1
  focus (intro w hSw; (try dsimp only at hSw); go_simp; (try with_reducible rfl))
  (try simp only [Act.put, List.getElem_toArray, List.getElem_cons_succ, List.getElem_cons_zero, List.setIfInBounds_toArray, List.set_cons_zero, List.set_cons_succ])
  refine wpAnyH_take (i := 3) (v := ?_) rfl (by kernel_rfl) (by kernel_rfl) (by kernel_rfl) (fun _ _ _ h => h) (Or.inl ⟨by rfl, ?_⟩) (by assumption) ?_
  rotate_left 1
  focus (intro w hSw; (try dsimp only at hSw); go_simp; (try with_reducible rfl))
  (try simp only [Act.put, List.getElem_toArray, List.getElem_cons_succ, List.getElem_cons_zero, List.setIfInBounds_toArray, List.set_cons_zero, List.set_cons_succ])
  refine wpAnyH_take (i := 4) (v := ?_) rfl (by kernel_rfl) (by kernel_rfl) (by kernel_rfl) (fun _ _ _ h => h) (Or.inl ⟨by rfl, ?_⟩) (by assumption) ?_
  rotate_left 1
  focus (intro w hSw; (try dsimp only at hSw); go_simp; (try with_reducible rfl))
  (try simp only [Act.put, List.getElem_toArray, List.getElem_cons_succ, List.getElem_cons_zero, List.setIfInBounds_toArray, List.set_cons_zero, List.set_cons_succ])
  refine wpAnyH_take (i := 5) (v := ?_) rfl (by kernel_rfl) (by kernel_rfl) (by kernel_rfl) (fun _ _ _ h => h) (Or.inl ⟨by rfl, ?_⟩) (by assumption) ?_
  rotate_left 1
  focus (intro w hSw; (try dsimp only at hSw); go_simp; (try with_reducible rfl))
  (try simp only [Act.put, List.getElem_toArray, List.getElem_cons_succ, List.getElem_cons_zero, List.setIfInBounds_toArray, List.set_cons_zero, List.set_cons_succ])
  refine wpAnyH_take (i := 6) (v := ?_) rfl (by kernel_rfl) (by kernel_rfl) (by kernel_rfl) (fun _ _ _ h => h) (Or.inl ⟨by rfl, ?_⟩) (by assumption) ?_
  rotate_left 1
  focus (intro w hSw; (try dsimp only at hSw); obtain ⟨c0, c1, c2⟩ := Bk.c3 hSw.1; obtain ⟨d0, d1, d2⟩ := Bk.c3 hSw.2; go_simp; (try with_reducible rfl))
  (try simp only [Act.put, List.getElem_toArray, List.getElem_cons_succ, List.getElem_cons_zero, List.setIfInBounds_toArray, List.set_cons_zero, List.set_cons_succ])
  refine wpAnyH_take (i := 7) (v := ?_) rfl (by kernel_rfl) (by kernel_rfl) (by kernel_rfl) (fun _ _ _ h => h) (Or.inl ⟨by rfl, ?_⟩) (by assumption) ?_
  rotate_left 1
  focus (intro w hSw; (try dsimp only at hSw); obtain ⟨c0, c1, c2⟩ := Bk.c3 hSw.1; obtain ⟨d0, d1, d2⟩ := Bk.c3 hSw.2; go_simp; (try with_reducible rfl))
  (try simp only [Act.put, List.getElem_toArray, List.getElem_cons_succ, List.getElem_cons_zero, List.setIfInBounds_toArray, List.set_cons_zero, List.set_cons_succ])
  refine wpAnyH_take (i := 8) (v := ?_) rfl (by kernel_rfl) (by kernel_rfl) (by kernel_rfl) (fun _ _ _ h => h) (Or.inl ⟨by rfl, ?_⟩) (by assumption) ?_
  rotate_left 1
  focus (intro w hSw; (try dsimp only at hSw); obtain ⟨c0, c1, c2⟩ := Bk.c3 hSw.1; obtain ⟨d0, d1, d2⟩ := Bk.c3 hSw.2; go_simp; (try with_reducible rfl))
  (try simp only [Act.put, List.getElem_toArray, List.getElem_cons_succ, List.getElem_cons_zero, List.setIfInBounds_toArray, List.set_cons_zero, List.set_cons_succ])
  refine wpAnyH_take (i := 10) (v := ?_) rfl (by kernel_rfl) (by kernel_rfl) (by kernel_rfl) (fun _ _ _ h => h) (Or.inl ⟨by rfl, ?_⟩) (by assumption) ?_
  rotate_left 1
  focus (intro w hSw; (try dsimp only at hSw); obtain ⟨c0, c1, c2⟩ := Bk.c3 hSw.1; obtain ⟨d0, d1, d2⟩ := Bk.c3 hSw.2; go_simp; (try with_reducible rfl))
  (try simp only [Act.put, List.getElem_toArray, List.getElem_cons_succ, List.getElem_cons_zero, List.setIfInBounds_toArray, List.set_cons_zero, List.set_cons_succ])
  refine wpAnyH_take (i := 11) (v := ?_) rfl (by kernel_rfl) (by kernel_rfl) (by kernel_rfl) (fun _ _ _ h => h) (Or.inl ⟨by rfl, ?_⟩) (by assumption) ?_
  rotate_left 1
  focus (intro w hSw; (try dsimp only at hSw); obtain ⟨c0, c1, c2⟩ := Bk.c3 hSw.1; obtain ⟨d0, d1, d2⟩ := Bk.c3 hSw.2; go_simp; (try with_reducible rfl))
  (try simp only [Act.put, List.getElem_toArray, List.getElem_cons_succ, List.getElem_cons_zero, List.setIfInBounds_toArray, List.set_cons_zero, List.set_cons_succ])
  refine wpAnyH_take (i := 12) (v := ?_) rfl (by kernel_rfl) (by kernel_rfl) (by kernel_rfl) (fun _ _ _ h => h) (Or.inl ⟨by rfl, ?_⟩) (by assumption) ?_
  rotate_left 1
  focus (intro w hSw; (try dsimp only at hSw); obtain ⟨c0, c1, c2⟩ := Bk.c3 hSw.1; obtain ⟨d0, d1, d2⟩ := Bk.c3 hSw.2; go_simp; (try with_reducible rfl))
  (try simp only [Act.put, List.getElem_toArray, List.getElem_cons_succ, List.getElem_cons_zero, List.setIfInBounds_toArray, List.set_cons_zero, List.set_cons_succ])
  refine wpAnyH_ready (rs := [9]) (by kernel_rfl) (by simp) ?_
  refine AllReadyH.cons rfl (fun K hK => ?_) AllReadyH.nil
  go_simp
  refine (HTR.out _).mono ?_
  rintro e wc ⟨rfl, hfwc⟩
  (try go_wp2_with fail)
  refine hK.out _ _ ?_ (fun hHeld => ?_)
  focus (exact ⟨hfwc.blk (And.left (by assumption)) (fun h => h), hfwc.blk (And.right (by assumption)) (fun h => h)⟩)
  clear hK K
  (try simp only [Act.put, List.getElem_toArray, List.getElem_cons_succ, List.getElem_cons_zero, List.setIfInBounds_toArray, List.set_cons_zero, List.set_cons_succ])
  refine wpAnyH_ready (rs := [13]) (by kernel_rfl) (by simp) ?_
  refine AllReadyH.cons rfl (fun K hK => ?_) AllReadyH.nil
  go_simp
  refine (HRTR.out _).mono ?_
  rintro e wd ⟨rfl, hfwd⟩
  (try go_wp2_with fail)
  refine hK.out _ _ ?_ (fun hHeld => ?_)
  focus (exact ⟨hfwd.blk (And.left (by assumption)) (fun h => h), hfwd.blk (And.right (by assumption)) (fun h => h)⟩)
  clear hK K
  (try simp only [Act.put, List.getElem_toArray, List.getElem_cons_succ, List.getElem_cons_zero, List.setIfInBounds_toArray, List.set_cons_zero, List.set_cons_succ])
  refine wpAnyH_take (i := 14) (v := ?_) rfl (by kernel_rfl) (by kernel_rfl) (by kernel_rfl) (fun _ _ _ h => h) (Or.inl ⟨by rfl, ?_⟩) (by assumption) ?_
  rotate_left 1
  focus (intro w hSw; (try dsimp only at hSw); go_simp; (try with_reducible rfl))
  (try simp only [Act.put, List.getElem_toArray, List.getElem_cons_succ, List.getElem_cons_zero, List.setIfInBounds_toArray, List.set_cons_zero, List.set_cons_succ])
  refine wpAnyH_take (i := 15) (v := ?_) rfl (by kernel_rfl) (by kernel_rfl) (by kernel_rfl) (fun _ _ _ h => h) (Or.inl ⟨by rfl, ?_⟩) (by assumption) ?_
  rotate_left 1
  focus (intro w hSw; (try dsimp only at hSw); go_simp; (try with_reducible rfl))
  (try simp only [Act.put, List.getElem_toArray, List.getElem_cons_succ, List.getElem_cons_zero, List.setIfInBounds_toArray, List.set_cons_zero, List.set_cons_succ])
  refine wpAnyH_done (by kernel_rfl) ?_ _
  have hva := owns_frm0 (owns_frm0 (owns_frm0 hva (Frm.refl (fun _ => False) wb).drew) hfwc) hfwd
  have hvb := owns_frm0 (owns_frm0 (owns_frm0 hvb (Frm.refl (fun _ => False) wb).drew) hfwc) hfwd
  have hF4 := (hF2.drew.trans hfwc).trans hfwd
  clear hfwc hfwd hF2 hP2 hN2
  have HVA := Lib.hid hva
  have HVB := Lib.hid hvb
  have hfa := owns_form' hva
  have hfb := owns_form' hvb
  clear hva hvb
  go_wp2_with fail
  go_loopw [47] (fun i wr => ∃ (k : Nat), k ≤ q ∧ i = .int .i64 k ∧ Frm0 wd wr) (fun i _ => q - (intOf i).toNat)
  case atStart => exact ⟨0, by omega, rfl, Frm.refl _ _⟩
  case round =>
    obtain ⟨k, hk, rfl, hF⟩ := hrel
    by_cases hlt : k < q
    · have hki : (k : Int) < (q : Int) := by omega
      obtain ⟨g1, cc1, he1, hc1⟩ := hfa k hlt
      obtain ⟨g2, cc2, he2, hc2⟩ := hfb k hlt
      cases he1
      cases he2
      have hcell : (wints L)[k]? = some (.int .i64 (L[k]'(by rw [HQL.out]; exact hlt))) := wints_at L k _
      rw [hcell] at hc1 hc2
      have hc1 := hF.cell hc1 (fun h => h)
      have hc2 := hF.cell hc2 (fun h => h)
      generalize L[k]'(by rw [HQL.out]; exact hlt) = y at *
      have hki0 : (0 : Int) ≤ (k : Int) := by omega
      clear hcell
      go_wp2_with fail
      go_quiet (fail)
      go_wp2_with fail
      go_roundw
      case rel => first
        | exact ⟨k + 1, by omega, by go_num, hF.drewN _⟩
        | ((repeat apply Exists.intro); refine And.intro ?_ rfl; exact ⟨k + 1, by omega, by go_num, hF.drewN _⟩)
      case measure => simp [intOf]; omega
    · obtain rfl : k = q := by omega
      go_wp2_with fail
      go_ret
      exact ⟨rfl, (hF4.trans hF).below (fun _ _ h => h)⟩
end Bo
end Go.Proofs.Ytmpbgnopejeelaa
