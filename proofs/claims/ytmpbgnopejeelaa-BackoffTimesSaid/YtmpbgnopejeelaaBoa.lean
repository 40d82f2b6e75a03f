/- Backoff: plans and waits: plain words, and the contracts of brought and Wait. -/
import Derived.Test.YtmpbgnopejeelaaNum
import Derived.Test.YtmpbgnopejeelaaPkh
import Derived.Test.YtmpbgnopejeelaaShl
import Derived.Test.YtmpbgnopejeelaaS
import Derived.Test.YtmpbgnopejeelaaR
namespace Go.Proofs.Ytmpbgnopejeelaa
open Go.RowKit Go.ChangeShapes Go.WideShapes
set_option linter.unusedVariables false
set_option linter.unusedSimpArgs false
set_option maxRecDepth 100000
structure Wt where
  base : Int
  most : Int
  spread : Int
def Wt.cells (x : Wt) : List Value := [.int .i64 x.base, .int .i64 x.most, .int .i64 x.spread]
structure Wt.Good (x : Wt) : Prop where
  base : (Lit.int .i64 x.base).wf = true
  most : (Lit.int .i64 x.most).wf = true
  spread : (Lit.int .i64 x.spread).wf = true
theorem Wt.cells_len (x : Wt) : x.cells.length = 3 := rfl
theorem parse_Wt : (∃ fs, Try.prog.underlying 54 = some (.struct fs)) ∧ Try.prog.cellsOf 54 = 3 ∧ ∀ {H : Type} {enc : TypeId × Value → H} {w : World} {base : Nat} {spare : Nat → Bool} {held : Bool} n cs x, cs.length = 3 → DataW.trod enc Try.prog w base spare held n 54 cs = some x →
    ∃ a : Wt, cs = a.cells ∧ a.Good := by
  refine ⟨⟨_, Try.underlying54⟩, by kernel_rfl, fun n cs x hl h => ?_⟩
  have hc0 : Try.prog.cellsOf 3 = 1 := by kernel_rfl
  match cs, hl with
  | [c0, c1, c2], _ =>
    obtain ⟨xs, m, rfl, hx, _, hxl, hf⟩ := DataW.trod_struct Try.underlying54 h
    match xs, hxl with
    | [x0, x1, x2], _ =>
      have h0 := hf 0 _ rfl
      have h1 := hf 1 _ rfl
      have h2 := hf 2 _ rfl
      clear hf
      simp [hc0] at h0
      simp [hc0] at h1
      simp [hc0] at h2
      obtain ⟨a0, e0, _, g0⟩ := DataW.trod_int Try.underlying3 h0
      simp at e0
      subst e0
      obtain ⟨a1, e1, _, g1⟩ := DataW.trod_int Try.underlying3 h1
      simp at e1
      subst e1
      obtain ⟨a2, e2, _, g2⟩ := DataW.trod_int Try.underlying3 h2
      simp at e2
      subst e2
      exact ⟨⟨a0, a1, a2⟩, rfl, ⟨g0, g1, g2⟩⟩


namespace Bo
theorem max_is (a b c : Int) (h : (if a < b then b else a) = c) : ∀ ats ty, Builtin.max_ ats ty #[.int .i64 a, .int .i64 b] = pure (.int .i64 c) := fun ats ty => by
  subst h; simp only [Builtin.max_, List.foldlM_cons, List.foldlM_nil, Builtin.max2]; rfl
theorem min_is (a b c : Int) (h : (if b < a then b else a) = c) : ∀ ats ty, Builtin.min_ ats ty #[.int .i64 a, .int .i64 b] = pure (.int .i64 c) := fun ats ty => by
  subst h; simp only [Builtin.min_, List.foldlM_cons, List.foldlM_nil, Builtin.min2]; rfl
def bB (p : Wt) : Int := bring p.base 1 1073741824
def bM (p : Wt) : Int := bring p.most (bB p) 1073741824
def bS (p : Wt) : Int := bring p.spread 0 100
theorem bB_bd (p : Wt) : 1 ≤ bB p ∧ bB p ≤ 1073741824 := bring_bd _ (by omega)
theorem bM_bd (p : Wt) : bB p ≤ bM p ∧ bM p ≤ 1073741824 := bring_bd _ (bB_bd p).2
theorem bS_bd (p : Wt) : 0 ≤ bS p ∧ bS p ≤ 100 := bring_bd _ (by omega)
theorem mm (a lo hi x y : Int) (h : lo ≤ hi) (hx : (if a < lo then lo else a) = x) (hy : (if hi < x then hi else x) = y) : y = bring a lo hi := by
  unfold bring
  split at hx <;> split at hy <;> (try split) <;> omega
/-- The wait of a try. -/
def wt (b m : Int) : Nat → Int
  | 0 => b
  | i + 1 => if wt b m i < m then (if 2 * wt b m i < m then 2 * wt b m i else m) else wt b m i
theorem wt_bd {b m : Int} (hb : 1 ≤ b) (hm : b ≤ m) : ∀ i, b ≤ wt b m i ∧ wt b m i ≤ m
  | 0 => ⟨Int.le_refl _, hm⟩
  | i + 1 => by
    have := wt_bd hb hm i
    unfold wt
    split
    · split <;> omega
    · omega
theorem wt_up {b m : Int} {i : Nat} (h : wt b m i < m) : wt b m (i + 1) = if 2 * wt b m i < m then 2 * wt b m i else m := by rw [wt, if_pos h]
theorem wt_top {b m : Int} {i : Nat} (h : ¬ wt b m i < m) : wt b m (i + 1) = wt b m i := by rw [wt, if_neg h]
theorem wt_stay {b m : Int} {i : Nat} (h : ¬ wt b m i < m) : ∀ j, wt b m (i + j) = wt b m i
  | 0 => rfl
  | j + 1 => by
    have ih := wt_stay h j
    rw [← Nat.add_assoc, wt_top (by rw [ih]; exact h), ih]
theorem wt_step {b m : Int} (hb : 1 ≤ b) (hm : b ≤ m) (i : Nat) : wt b m i ≤ wt b m (i + 1) ∧ (wt b m (i + 1) = m ∨ wt b m (i + 1) = 2 * wt b m i) := by
  have := wt_bd hb hm i
  by_cases h : wt b m i < m
  · rw [wt_up h]
    split <;> omega
  · rw [wt_top h]
    omega
def wtp (p : Wt) (t : Int) : Int := wt (bB p) (bM p) t.toNat
theorem wtp_bd (p : Wt) (t : Int) : 1 ≤ wtp p t ∧ bB p ≤ wtp p t ∧ wtp p t ≤ bM p ∧ wtp p t ≤ 1073741824 := by
  have h1 := bB_bd p
  have h2 := bM_bd p
  have h3 := wt_bd h1.1 h2.1 t.toNat
  unfold wtp
  omega
theorem iP : (Try.prog.info? 54).map (·.size) = some 3 := by kernel_rfl
set_option maxHeartbeats 1000000 in
theorem brought_any (p : Wt) (w : World) : Calls Try.prog 62 #[.agg #[.int .i64 p.base, .int .i64 p.most, .int .i64 p.spread]] w fun e w' => e = .returned (.agg #[.int .i64 (bB p), .int .i64 (bM p), .int .i64 (bS p)]) ∧ Frm0 w w' := by
  obtain ⟨x1, hx1⟩ : ∃ x, (if p.base < 1 then 1 else p.base) = x := ⟨_, rfl⟩
  obtain ⟨y1, hy1⟩ : ∃ y, (if (1073741824 : Int) < x1 then 1073741824 else x1) = y := ⟨_, rfl⟩
  have e1 : y1 = bB p := mm _ _ _ _ _ (by omega) hx1 hy1
  obtain ⟨x2, hx2⟩ : ∃ x, (if p.most < y1 then y1 else p.most) = x := ⟨_, rfl⟩
  obtain ⟨y2, hy2⟩ : ∃ y, (if (1073741824 : Int) < x2 then 1073741824 else x2) = y := ⟨_, rfl⟩
  have e2 : y2 = bM p := by
    have := mm _ _ _ _ _ (by rw [e1]; exact (bB_bd p).2) hx2 hy2
    rw [this, e1]
    rfl
  obtain ⟨x3, hx3⟩ : ∃ x, (if p.spread < 0 then 0 else p.spread) = x := ⟨_, rfl⟩
  obtain ⟨y3, hy3⟩ : ∃ y, (if (100 : Int) < x3 then 100 else x3) = y := ⟨_, rfl⟩
  have e3 : y3 = bS p := mm _ _ _ _ _ (by omega) hx3 hy3
  have m1 := max_is _ _ _ hx1
  have n1 := min_is _ _ _ hy1
  have m2 := max_is _ _ _ hx2
  have n2 := min_is _ _ _ hy2
  have m3 := max_is _ _ _ hx3
  have n3 := min_is _ _ _ hy3
  rw [← e1, ← e2, ← e3]
  clear hx1 hy1 hx2 hy2 hx3 hy3 e1 e2 e3
  go_enter Try.func62, Try.ntmps62
  go_wp2_with fail
  go_returns
  exact ⟨rfl, ((Frm.refl _ w).alloc _).alloc _⟩
set_option maxHeartbeats 1000000 in
theorem rbrought_any (p : Wt) (w : World) : Calls Try.prog 45 #[.agg #[.int .i64 p.base, .int .i64 p.most, .int .i64 p.spread]] w fun e w' => e = .returned (.agg #[.int .i64 (bB p), .int .i64 (bM p), .int .i64 (bS p)]) ∧ Frm0 w w' := by
  have H1 := Lib.hid (fun w => rbring_any p.base 1 1073741824 w)
  have H2 := Lib.hid (fun w => rbring_any p.most (bB p) 1073741824 w)
  have H3 := Lib.hid (fun w => rbring_any p.spread 0 100 w)
  rw [show bring p.base 1 1073741824 = bB p from rfl] at H1
  rw [show bring p.most (bB p) 1073741824 = bM p from rfl] at H2
  rw [show bring p.spread 0 100 = bS p from rfl] at H3
  generalize bB p = b at *
  generalize bM p = m at *
  generalize bS p = s at *
  go_enter Try.func45, Try.ntmps45
  go_wp2_with fail
  refine (H1.out _).mono ?_
  rintro e w1 ⟨rfl, rfl⟩
  go_wp2_with fail
  refine (H2.out _).mono ?_
  rintro e w1 ⟨rfl, rfl⟩
  go_wp2_with fail
  refine (H3.out _).mono ?_
  rintro e w1 ⟨rfl, rfl⟩
  go_wp2_with fail
  go_returns
  exact ⟨rfl, ((Frm.refl _ w).alloc _).alloc _⟩
set_option maxHeartbeats 2000000 in
theorem wait_any (p : Wt) (t0 : Int) (ht0 : (Lit.int .i64 t0).wf = true) (w : World) : Calls Try.prog 41 #[.agg #[.int .i64 p.base, .int .i64 p.most, .int .i64 p.spread], .int .i64 t0] w fun e w' => e = .returned (.int .i64 (wtp p t0)) ∧ Frm0 w w' := by
  have hbt := bounds_i64 ht0
  have hb := bB_bd p
  have hm := bM_bd p
  have HB := Lib.hid (fun w => brought_any p w)
  obtain ⟨rv, hrv⟩ : ∃ rv, wtp p t0 = rv := ⟨_, rfl⟩
  have hW : rv = wt (bB p) (bM p) t0.toNat := hrv.symm
  have HW := Lib.hid hW
  rw [hrv]
  clear hrv hW
  have hal := (Frm.refl (fun _ => False) w).alloc (.cells #[.int .i64 p.base, .int .i64 p.most, .int .i64 p.spread] 54)
  have hP := Bk.new w (.cells #[.int .i64 p.base, .int .i64 p.most, .int .i64 p.spread] 54)
  clear ht0
  go_enter Try.func41, Try.ntmps41
  go_wp2_with fail
  refine (HB.out _).mono ?_
  rintro e w1 ⟨rfl, hf1⟩
  generalize bB p = b at *
  generalize bM p = m at *
  generalize bS p = sp at *
  have hP1 := hf1.blk hP (fun h => h)
  have hF1 := hal.trans hf1
  have hw1 := hF1.size
  clear hP hal hf1
  go_wp2_with (refine wpList_store_blk rfl 54 (.tmp 2) (.tmp 7) rfl hP1 rfl rfl iP (us := #[.int .i64 b, .int .i64 m, .int .i64 sp]) rfl rfl rfl ?_; intro w2 hb2 hf2; obtain ⟨c0, c1, c2⟩ := Bk.c3 hb2)
  have hF2 := hF1.then_ hf2 (fun i hi e => by omega)
  clear hP1 hF1 hf2 c0 c2 hb2
  go_loop [1, 5] (fun t n => ∃ (tv x : Int) (j : Nat), t = .int .i64 tv ∧ n = .int .i64 x ∧ tv = t0 - (j : Int) ∧ (j = 0 ∨ 0 ≤ tv) ∧ Hid (wt b m j = x) ∧ b ≤ x ∧ x ≤ m) (fun _ n => (m - intOf n).toNat)
  case atStart => exact ⟨t0, b, 0, rfl, rfl, by omega, .inl rfl, Lib.hid rfl, by omega, by omega⟩
  case round =>
    obtain ⟨tv, x, j, rfl, rfl, htv, hj, HX, hx1, hx2⟩ := hrel
    by_cases ht : 0 < tv
    · by_cases hx : x < m
      · obtain ⟨y, hy⟩ : ∃ y, (if m < 2 * x then m else 2 * x) = y := ⟨_, rfl⟩
        have n1 := min_is (2 * x) m y hy
        have hy2 : wt b m (j + 1) = y := by
          rw [wt_up (by rw [HX.out]; exact hx), HX.out, ← hy]
          split <;> split <;> omega
        have hyb : x < y ∧ y ≤ m := by rw [← hy]; split <;> omega
        have HY := Lib.hid hy2
        have HTV := Lib.hid htv
        have htb : tv ≤ 9223372036854775807 := by omega
        have e1 : IntKind.i64.wrap (2 * x) = 2 * x := IntWalk.i64_in _ (by omega)
        clear hy hy2 htv hj
        go_wp2_with fail
        go_round
        case rel => exact ⟨tv - 1, y, j + 1, rfl, rfl, by have := HTV.out; omega, .inr (by omega), HY, by omega, by omega⟩
        case measure => simp [intOf]; omega
      · have hn : wt b m t0.toNat = x := by
          have := wt_stay (b := b) (m := m) (i := j) (by rw [HX.out]; exact hx) (t0.toNat - j)
          rw [show j + (t0.toNat - j) = t0.toNat by omega] at this
          rw [this, HX.out]
        have HN := Lib.hid hn
        clear hn htv hj
        go_wp2_with fail
        go_ret
        exact ⟨ret_int (by rw [HW.out, HN.out]), hF2⟩
    · have hn : wt b m t0.toNat = x := by
        rw [show t0.toNat = j by omega]
        exact HX.out
      have HN := Lib.hid hn
      have hd : decide (0 < tv) = false := decide_eq_false ht
      clear hn htv hj
      go_wp2_with fail
      go_ret
      exact ⟨ret_int (by rw [HW.out, HN.out]), hF2⟩
set_option maxHeartbeats 2000000 in
theorem rwait_any (p : Wt) (t0 : Int) (ht0 : (Lit.int .i64 t0).wf = true) (w : World) : Calls Try.prog 42 #[.agg #[.int .i64 p.base, .int .i64 p.most, .int .i64 p.spread], .int .i64 t0] w fun e w' => e = .returned (.int .i64 (wtp p t0)) ∧ Frm0 w w' := by
  have hbt := bounds_i64 ht0
  have hb := bB_bd p
  have hm := bM_bd p
  have HB := Lib.hid (fun w => rbrought_any p w)
  obtain ⟨rv, hrv⟩ : ∃ rv, wtp p t0 = rv := ⟨_, rfl⟩
  have hW : rv = wt (bB p) (bM p) t0.toNat := hrv.symm
  have HW := Lib.hid hW
  rw [hrv]
  clear hrv hW
  have hal := (Frm.refl (fun _ => False) w).alloc (.cells #[.int .i64 p.base, .int .i64 p.most, .int .i64 p.spread] 54)
  have hP := Bk.new w (.cells #[.int .i64 p.base, .int .i64 p.most, .int .i64 p.spread] 54)
  clear ht0
  go_enter Try.func42, Try.ntmps42
  go_wp2_with fail
  refine (HB.out _).mono ?_
  rintro e w1 ⟨rfl, hf1⟩
  generalize bB p = b at *
  generalize bM p = m at *
  generalize bS p = sp at *
  have hP1 := hf1.blk hP (fun h => h)
  have hF1 := hal.trans hf1
  have hw1 := hF1.size
  clear hP hal hf1
  go_wp2_with (refine wpList_store_blk rfl 54 (.tmp 2) (.tmp 8) rfl hP1 rfl rfl iP (us := #[.int .i64 b, .int .i64 m, .int .i64 sp]) rfl rfl rfl ?_; intro w2 hb2 hf2; obtain ⟨c0, c1, c2⟩ := Bk.c3 hb2)
  have hF2 := hF1.then_ hf2 (fun i hi e => by omega)
  clear hP1 hF1 hf2 c0 c2 hb2
  go_loop [5, 6] (fun n i => ∃ (x : Int) (j : Nat), i = .int .i64 j ∧ n = .int .i64 x ∧ (j = 0 ∨ (j : Int) ≤ t0) ∧ Hid (wt b m j = if x < m then x else m) ∧ b ≤ x ∧ x ≤ 2 * m) (fun n _ => (m - intOf n).toNat)
  case atStart => exact ⟨b, 0, rfl, rfl, .inl rfl, Lib.hid (by show b = _; split <;> omega), by omega, by omega⟩
  case round =>
    obtain ⟨x, j, rfl, rfl, hj, HX, hx1, hx2⟩ := hrel
    by_cases ht : (j : Int) < t0
    · by_cases hx : x < m
      · have hwj : wt b m j = x := by rw [HX.out, if_pos hx]
        have hy2 : wt b m (j + 1) = if 2 * x < m then 2 * x else m := by rw [wt_up (by rw [hwj]; exact hx), hwj]
        have HY := Lib.hid hy2
        have e1 : IntKind.i64.wrap (x * 2) = x * 2 := IntWalk.i64_in _ (by omega)
        clear hy2 hj hwj
        go_wp2_with fail
        go_round
        case rel => exact ⟨x * 2, j + 1, by go_num, rfl, .inr (by omega), Lib.hid (by rw [HY.out, Int.mul_comm]), by omega, by omega⟩
        case measure => simp [intOf]; omega
      · have hwj : wt b m j = m := by rw [HX.out, if_neg hx]
        have hn : wt b m t0.toNat = m := by
          have := wt_stay (b := b) (m := m) (i := j) (by rw [hwj]; omega) (t0.toNat - j)
          rw [show j + (t0.toNat - j) = t0.toNat by omega] at this
          rw [this, hwj]
        have HN := Lib.hid hn
        clear hn hj hwj
        by_cases hxm : m < x
        · go_wp2_with fail
          go_ret
          exact ⟨ret_int (by rw [HW.out, HN.out]), hF2⟩
        · obtain rfl : x = m := by omega
          go_wp2_with fail
          go_ret
          exact ⟨ret_int (by rw [HW.out, HN.out]), hF2⟩
    · have hn : wt b m t0.toNat = if x < m then x else m := by
        rw [show t0.toNat = j by omega]
        exact HX.out
      have HN := Lib.hid hn
      have hd : decide ((j : Int) < t0) = false := decide_eq_false ht
      clear hn hj
      by_cases hxm : m < x
      · go_wp2_with fail
        go_ret
        exact ⟨ret_int (by rw [HW.out, HN.out, if_neg (by omega)]), hF2⟩
      · go_wp2_with fail
        go_ret
        exact ⟨ret_int (by rw [HW.out, HN.out]; split <;> omega), hF2⟩
end Bo
end Go.Proofs.Ytmpbgnopejeelaa
