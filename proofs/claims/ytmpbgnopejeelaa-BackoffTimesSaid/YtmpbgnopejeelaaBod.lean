/- Backoff: contracts of both Times. -/
import Derived.Test.YtmpbgnopejeelaaBoc
namespace Go.Proofs.Ytmpbgnopejeelaa
open Go.RowKit Go.ChangeShapes Go.WideShapes
set_option linter.unusedVariables false
set_option linter.unusedSimpArgs false
set_option maxRecDepth 100000
namespace Bo
open Sh
/-- Times, one behind the other. -/
def ta (p : Wt) (s : ByteArray) (a : Int) : Nat → Int
  | 0 => tm a
  | k + 1 => plus (ta p s a k) (sprd p s k)
def tl (p : Wt) (s : ByteArray) (a : Int) (k : Nat) : List Int := (List.range k).map (fun i => ta p s a (i + 1))
theorem tl_len (p : Wt) (s : ByteArray) (a : Int) (k : Nat) : (tl p s a k).length = k := by unfold tl; rw [List.length_map, List.length_range]
theorem tl_succ (p : Wt) (s : ByteArray) (a : Int) (k : Nat) : tl p s a (k + 1) = tl p s a k ++ [ta p s a (k + 1)] := by unfold tl; rw [List.range_succ, List.map_append]; rfl
theorem ta_bd (p : Wt) (s : ByteArray) (a : Int) : ∀ k, 0 ≤ ta p s a k ∧ ta p s a k ≤ 1099511627776
  | 0 => tm_bd a
  | k + 1 => tm_bd _
theorem ta_ref (p : Wt) (s : ByteArray) (a : Int) (k : Nat) : tm (ta p s a k + sprd p s k) = ta p s a (k + 1) := by
  have h1 := ta_bd p s a k
  have h2 := sprd_bd p s k
  have h3 := wtp_bd p k
  have h4 := share_bd p k
  show _ = plus _ _
  unfold plus
  rw [tm_id h1.1 h1.2, nb_id (by omega) (by omega)]
/-- A row of the call's own is returned. -/
def Nrow (w : World) (l : List Int) (n : Nat) (e : Ending) (w' : World) : Prop := ∃ v, e = .returned v ∧ w'.ownsRow w.heap.size 3 1 v n (wints l) ∧ Frm0 w w'
theorem owns_form0 {w : World} {base : Nat} {e : TypeId} {size : Nat} {v : Value} {n : Nat} {xs : List Value} (h : w.ownsRow base e size v n xs) : ∃ A c, v = .slice A n c := by
  rcases h.2 with ⟨h, hn⟩ | ⟨g, cap, cur, he, _⟩
  · exact ⟨none, 0, by rw [h, hn]⟩
  · exact ⟨_, _, he⟩
theorem cnt_bd (n : Int) : 0 ≤ bring n 0 100 ∧ bring n 0 100 ≤ 100 := bring_bd n (by omega)
set_option maxHeartbeats 4000000 in
theorem times_any (p : Wt) (s : ByteArray) (hs : s.size ≤ 100) (a n : Int) (w : World) :
    Calls Try.prog 46 #[.agg #[.int .i64 p.base, .int .i64 p.most, .int .i64 p.spread], .string s, .int .i64 a, .int .i64 n] w (Nrow w (tl p s a (bring n 0 100).toNat) (bring n 0 100).toNat) := by
  obtain ⟨x1, hx1⟩ : ∃ x, (if n < 0 then 0 else n) = x := ⟨_, rfl⟩
  obtain ⟨y1, hy1⟩ : ∃ y, (if (100 : Int) < x1 then 100 else x1) = y := ⟨_, rfl⟩
  have e1 : y1 = bring n 0 100 := mm _ _ _ _ _ (by omega) hx1 hy1
  have m1 := max_is _ _ _ hx1
  have n1 := min_is _ _ _ hy1
  have hcb := cnt_bd n
  rw [← e1] at hcb ⊢
  obtain ⟨q, rfl⟩ := Int.eq_ofNat_of_zero_le hcb.1
  have hq : q ≤ 100 := by omega
  rw [show ((q : Nat) : Int).toNat = q from rfl]
  have HT := Lib.hid (fun w => time_any a w)
  rw [show tm a = ta p s a 0 from rfl] at HT
  have hal := (Frm.refl (fun _ => False) w).alloc (.cells #[.int .i64 p.base, .int .i64 p.most, .int .i64 p.spread] 54)
  have hP := Bk.new w (.cells #[.int .i64 p.base, .int .i64 p.most, .int .i64 p.spread] 54)
  clear hx1 hy1 e1 hcb
  go_enter Try.func46, Try.ntmps46
  go_wp2_with fail
  refine (HT.out _).mono ?_
  rintro e w1 ⟨rfl, rfl⟩
  go_wp2_with fail
  clear m1 n1 HT
  generalize w.alloc (.cells #[.int .i64 p.base, .int .i64 p.most, .int .i64 p.spread] 54) = wa at *
  obtain ⟨P, hPe⟩ : ∃ P, w.heap.size = P := ⟨_, rfl⟩
  have HPE := Lib.hid hPe
  rw [hPe] at hP ⊢
  clear hPe
  go_loopw [9, 10, 17] (fun u x i wr => ∃ (k : Nat), k ≤ q ∧ i = .int .i64 k ∧ x = .int .i64 (ta p s a k) ∧ wr.ownsRow w.heap.size 3 1 u k (wints (tl p s a k)) ∧ wr.heap[P]? = some (.cells #[.int .i64 p.base, .int .i64 p.most, .int .i64 p.spread] 54 (0, 0)) ∧ Hid (u.ownBlock ≠ some P) ∧ Frm0 w wr) (fun _ _ i _ => q - (intOf i).toNat)
  case atStart => exact ⟨0, by omega, rfl, rfl, World.ownsRow_nil _ _ _ _, hP, (by intro h; cases h), hal⟩
  case round =>
    clear hP hal
    obtain ⟨k, hk, rfl, rfl, hown, hP, hnp, hF⟩ := hrel
    obtain ⟨c0, c1, c2⟩ := Bk.c3 hP
    obtain ⟨A, c, rfl⟩ := owns_form0 hown
    by_cases hlt : k < q
    · have hki : (k : Int) < (q : Int) := by omega
      have HS := Lib.hid (fun w => spread_any p s hs k (WalkArith.wf_i64 (n := (k : Int)) (by omega)) w)
      have HL := Lib.hid (fun w => plus_to (show plus (ta p s a k) (sprd p s k) = ta p s a (k + 1) from rfl) w)
      have HTS := Lib.hid (tl_succ p s a k)
      have HTL := Lib.hid (tl_len p s a k)
      obtain ⟨y, hy⟩ : ∃ y, ta p s a (k + 1) = y := ⟨_, rfl⟩
      rw [hy] at HL HTS
      have HY := Lib.hid hy
      clear hy
      generalize ta p s a k = x at *
      generalize sprd p s k = z at *
      go_wp2_with fail
      refine (HS.out _).mono ?_
      rintro e w1 ⟨rfl, hf1⟩
      have hP1 := hf1.blk hP (fun h => h)
      have hF1 := hF.trans hf1
      have hown1 := owns_frm0 hown hf1
      clear hP hF hf1 hown c0 c1 c2
      go_wp2_with fail
      refine (HL.out _).mono ?_
      rintro e w2 ⟨rfl, rfl⟩
      go_wp2_with (at_builtin; refine wpList_append_sl rfl (.tmp 26) (.tmp 28) rfl Ewin w.heap.size (.slice A k c) (.slice (some ⟨w1.heap.size, 0, none⟩) 1 1) k 1 (wints (tl p s a k)) (wints [y]) rfl rfl (hown1.alloc _) (Sl.new _ _ _ 1 (by decide) (by omega)) rfl (wints_one _) (by unfold maxLen; omega) (by omega) (by have := hF1.size; simp; omega) ?_; intro v2 w3 hown2 hf2 hat2)
      have hP3 := hf2.blk (Bk.alloc hP1 (.cells #[.int .i64 y] 3)) hnp.out
      have hPl := Bk.lt hP1
      have HNP := Lib.hid (show v2.ownBlock ≠ some P from fun e => by
        rcases hat2 with h | h
        · rw [h] at e
          exact hnp.out e
        · rw [h] at e
          simp at e
          omega)
      go_roundw
      case rel =>
        have h1 : w3.ownsRow w.heap.size 3 1 v2 (k + 1) (wints (tl p s a k) ++ [.int .i64 y]) := hown2
        rw [← wints_app, ← HTS.out] at h1
        exact ⟨k + 1, by omega, by go_num, by rw [HY.out], h1, hP3, HNP, (hF1.alloc _).then_ hf2 (fun i hi e => by have := (World.ownsRow.lt hown1 i e).1; omega)⟩
      case measure => simp [intOf]; omega
    · obtain rfl : k = q := by omega
      go_wp2_with fail
      go_ret
      exact ⟨_, rfl, hown, hF⟩
set_option maxHeartbeats 4000000 in
theorem rtimes_any (p : Wt) (s : ByteArray) (hs : s.size ≤ 100) (a n : Int) (hn : (Lit.int .i64 n).wf = true) (w : World) :
    Calls Try.prog 47 #[.agg #[.int .i64 p.base, .int .i64 p.most, .int .i64 p.spread], .string s, .int .i64 a, .int .i64 n] w (Nrow w (tl p s a (bring n 0 100).toNat) (bring n 0 100).toNat) := by
  obtain ⟨q, hqe⟩ : ∃ q, (bring n 0 100).toNat = q := ⟨_, rfl⟩
  have hq : q ≤ 100 ∧ (∀ k : Nat, k < q → (k : Int) < n ∧ (k : Int) < 100) ∧ (¬ (q : Int) < n ∨ q = 100) := by
    have hcb := cnt_bd n
    unfold bring at hqe hcb
    split at hqe <;> (try split at hqe) <;> refine ⟨by omega, fun k hk => by omega, by omega⟩
  rw [hqe]
  have hnb := bounds_i64 hn
  have HT := Lib.hid (fun w => rtime_any a w)
  rw [show tm a = ta p s a 0 from rfl] at HT
  have hal := (Frm.refl (fun _ => False) w).alloc (.cells #[.int .i64 p.base, .int .i64 p.most, .int .i64 p.spread] 54)
  have hP := Bk.new w (.cells #[.int .i64 p.base, .int .i64 p.most, .int .i64 p.spread] 54)
  have HQ := Lib.hid hq
  have hq100 := hq.1
  clear hqe hn hq
  go_enter Try.func47, Try.ntmps47
  go_wp2_with fail
  refine (HT.out _).mono ?_
  rintro e w1 ⟨rfl, rfl⟩
  go_wp2_with fail
  clear HT
  generalize w.alloc (.cells #[.int .i64 p.base, .int .i64 p.most, .int .i64 p.spread] 54) = wa at *
  obtain ⟨P, hPe⟩ : ∃ P, w.heap.size = P := ⟨_, rfl⟩
  have HPE := Lib.hid hPe
  rw [hPe] at hP ⊢
  clear hPe
  go_loopw [9, 10, 11] (fun u x i wr => ∃ (k : Nat), k ≤ q ∧ i = .int .i64 k ∧ x = .int .i64 (ta p s a k) ∧ wr.ownsRow w.heap.size 3 1 u k (wints (tl p s a k)) ∧ wr.heap[P]? = some (.cells #[.int .i64 p.base, .int .i64 p.most, .int .i64 p.spread] 54 (0, 0)) ∧ Hid (u.ownBlock ≠ some P) ∧ Frm0 w wr) (fun _ _ i _ => q - (intOf i).toNat)
  case atStart => exact ⟨0, by omega, rfl, rfl, World.ownsRow_nil _ _ _ _, hP, (by intro h; cases h), hal⟩
  case round =>
    clear hP hal
    obtain ⟨k, hk, rfl, rfl, hown, hP, hnp, hF⟩ := hrel
    obtain ⟨c0, c1, c2⟩ := Bk.c3 hP
    obtain ⟨A, c, rfl⟩ := owns_form0 hown
    by_cases hlt : k < q
    · obtain ⟨hki, hk100⟩ := HQ.out.2.1 k hlt
      have HS := Lib.hid (fun w => rspread_any p s hs k (WalkArith.wf_i64 (n := (k : Int)) (by omega)) w)
      have HL := Lib.hid (fun w => rtime_to (ta_ref p s a k) w)
      have HTS := Lib.hid (tl_succ p s a k)
      have HTL := Lib.hid (tl_len p s a k)
      have hxb := ta_bd p s a k
      have hzb := sprd_bd p s k
      have hzb2 := share_bd p k
      have hzb3 := wtp_bd p k
      obtain ⟨y, hy⟩ : ∃ y, ta p s a (k + 1) = y := ⟨_, rfl⟩
      rw [hy] at HL HTS
      have HY := Lib.hid hy
      clear hy
      generalize ta p s a k = x at *
      generalize sprd p s k = z at *
      generalize wtp p k * bS p = Q at *
      generalize wtp p k = n2 at *
      have e1 : IntKind.i64.wrap (x + z) = x + z := IntWalk.i64_in _ (by omega)
      clear hzb hzb2 hzb3 hxb
      go_wp2_with fail
      refine (HS.out _).mono ?_
      rintro e w1 ⟨rfl, hf1⟩
      have hP1 := hf1.blk hP (fun h => h)
      have hF1 := hF.trans hf1
      have hown1 := owns_frm0 hown hf1
      clear hP hF hf1 hown c0 c1 c2
      go_wp2_with fail
      refine (HL.out _).mono ?_
      rintro e w2 ⟨rfl, rfl⟩
      clear e1
      go_wp2_with (at_builtin; refine wpList_append_sl rfl (.tmp 30) (.tmp 32) rfl Ewin w.heap.size (.slice A k c) (.slice (some ⟨w1.heap.size, 0, none⟩) 1 1) k 1 (wints (tl p s a k)) (wints [y]) rfl rfl (hown1.alloc _) (Sl.new _ _ _ 1 (by decide) (by omega)) rfl (wints_one _) (by unfold maxLen; omega) (by omega) (by have := hF1.size; simp; omega) ?_; intro v2 w3 hown2 hf2 hat2)
      have hP3 := hf2.blk (Bk.alloc hP1 (.cells #[.int .i64 y] 3)) hnp.out
      have hPl := Bk.lt hP1
      have HNP := Lib.hid (show v2.ownBlock ≠ some P from fun e => by
        rcases hat2 with h | h
        · rw [h] at e
          exact hnp.out e
        · rw [h] at e
          simp at e
          omega)
      go_roundw
      case rel =>
        have h1 : w3.ownsRow w.heap.size 3 1 v2 (k + 1) (wints (tl p s a k) ++ [.int .i64 y]) := hown2
        rw [← wints_app, ← HTS.out] at h1
        exact ⟨k + 1, by omega, by go_num, by rw [HY.out], h1, hP3, HNP, (hF1.alloc _).then_ hf2 (fun i hi e => by have := (World.ownsRow.lt hown1 i e).1; omega)⟩
      case measure => simp [intOf]; omega
    · obtain rfl : k = q := by omega
      rcases HQ.out.2.2 with h | h
      · have hd : decide ((k : Int) < n) = false := decide_eq_false (by omega)
        go_wp2_with fail
        go_ret
        exact ⟨_, rfl, hown, hF⟩
      · subst h
        by_cases hd : (100 : Int) < n
        · have hd2 : decide ((100 : Int) < n) = true := decide_eq_true hd
          go_wp2_with fail
          go_ret
          exact ⟨_, rfl, hown, hF⟩
        · have hd2 : decide ((100 : Int) < n) = false := decide_eq_false hd
          go_wp2_with fail
          go_ret
          exact ⟨_, rfl, hown, hF⟩
end Bo
end Go.Proofs.Ytmpbgnopejeelaa
