/- The walks of FrameCut and FrameRot. -/
import Derived.Test.YthmhihmbciigdaaFrj
import Derived.Test.YthmhihmbciigdaaBts
namespace Go.Proofs.Ythmhihmbciigdaa
open Go.RowKit CrcMath
set_option linter.unusedVariables false
set_option linter.unusedSimpArgs false

theorem strs_take (l : List ByteArray) (k : Nat) : (strs l).take k = strs (l.take k) := by simp [strs]

theorem Sl.cap {w : World} {A : Option Addr} {n m c : Nat} {cs : List Value} (h : Sl w (.slice A n c) m cs) : m ≤ c := by
  rcases h with ⟨A', c', he, hn, _⟩ | ⟨b, o, c', he, h0, h1, h2, _, hc⟩
  · omega
  · cases he; exact h1

set_option maxHeartbeats 1000000 in
theorem fcut_walk (l : List ByteArray) (left : Int) (v : Value) (w : World) (hs : Sl w v l.length (strs l)) (hsz : ∀ x ∈ l, x.size ≤ 9223372036854775807) :
    Calls Try.prog 6 #[v, .int .i64 left] w fun e w' => e = .returned (.bool true) ∧ Below w.heap.size w w' := by
  have HW := Lib.hid (fun w (h : Sl w v l.length (strs l)) => whole_any l v w h hsz)
  by_cases hfew : ¬ Few l
  · obtain ⟨A, c, rfl⟩ := hs.form
    have HN := Lib.hid hfew
    clear hfew
    go_enter Try.func6, Try.ntmps6
    go_wp2_with fail
    refine (fawake _).mono ?_
    rintro e w1 ⟨rfl, hf1⟩
    go_wp2_with fail
    refine (HW.out _ (hs.frm0 hf1)).mono ?_
    rintro e w2 (⟨_, rfl, hf2⟩ | ⟨hno, _⟩)
    · go_wp2
      go_ret
      exact ⟨rfl, (hf1.trans hf2).below (fun _ _ h => h)⟩
    · exact absurd hno HN.out
  have hf := Classical.not_not.1 hfew
  have hlen := hs.len
  have h20 := hf.1
  have HN := Lib.hid hf
  clear hf hfew
  have hall : (cat l).size ≤ 210 * l.length := by rw [cat_size]; exact csize_le HN.out.2
  have hcz := Lib.hid (cat_size l)
  by_cases hbad : left < 0 ∨ ((cat l).size : Int) < left
  · obtain ⟨A, c, rfl⟩ := hs.form
    have hb1 : decide (left < 0) = true ∨ (decide (left < 0) = false ∧ decide (((cat l).size : Int) < left) = true) := by
      simp only [decide_eq_true_eq, decide_eq_false_iff_not]; omega
    generalize cat l = all at *
    rcases hb1 with hd | ⟨hd, hd2⟩
    all_goals
      go_enter Try.func6, Try.ntmps6
      go_wp2_with fail
      refine (fawake _).mono ?_
      rintro e w1 ⟨rfl, hf1⟩
      go_wp2_with fail
      refine (HW.out _ (hs.frm0 hf1)).mono ?_
      rintro e w2 (⟨hno, _⟩ | ⟨_, v', rfl, hown, hf2⟩)
      · exact absurd HN.out hno
      go_wp2
      go_ret
      exact ⟨rfl, (hf1.trans hf2).below (fun _ _ h => h)⟩
  obtain ⟨n, rfl⟩ := Int.eq_ofNat_of_zero_le (show 0 ≤ left by omega)
  have hn : n ≤ (cat l).size := by omega
  have hd1 : decide ((n : Int) < 0) = false := by simp
  have hd2 : decide (((cat l).size : Int) < (n : Int)) = false := by simp; omega
  have HL := Lib.hid (fun k h0 h1 h3 => cut_law l (fun x hx => by have := HN.out.2 x hx; omega) k n h0 h1 hn h3)
  have HT := Lib.hid (fun k (hk : k ≤ l.length) (w : World) (h : Sl w v l.length (strs l)) => show ∃ A c, v = .slice A l.length c ∧ Sl w (.slice A k c) k (strs (l.take k)) from by
    rcases h with ⟨A, c, rfl, h0, h1⟩ | ⟨b, o, c, rfl, h0, h1, h2, h3, h4⟩
    · have e : l = [] := List.eq_nil_of_length_eq_zero h0
      subst e
      have : k = 0 := by simpa using hk
      subst this
      exact ⟨A, c, rfl, .inl ⟨_, _, rfl, rfl, rfl⟩⟩
    · exact ⟨_, c, rfl, by rw [← strs_take]; exact Sl.take1 (.inr ⟨b, o, c, rfl, h0, h1, h2, h3, h4⟩) k hk⟩)
  obtain ⟨A, c, rfl⟩ := hs.form
  have hcap := hs.cap
  have HCL := Lib.hid (csize_take l)
  have HC0 := Lib.hid (show csize (l.take l.length) = (cat l).size by rw [List.take_length, cat_size])
  have HS := Lib.hid (fun x n e0 w (h : splits ((cat l).extract 0 n) 0 = (x, e0)) => split_to (w := w) (s := (cat l).extract 0 n) (l := x) (n := e0.1) (e0 := e0.2) (by rw [ByteArray.size_extract]; omega) h)
  generalize cat l = all at *
  go_enter Try.func6, Try.ntmps6
  go_wp2_with fail
  refine (fawake _).mono ?_
  rintro e w1 ⟨rfl, hf1⟩
  go_wp2_with fail
  refine (HW.out _ (hs.frm0 hf1)).mono ?_
  rintro e w2 (⟨hno, _⟩ | ⟨_, v', rfl, hown, hf2⟩)
  · exact absurd HN.out hno
  have hF2 := hf1.trans hf2
  clear hf1 hf2
  have hends := Sl.of_own hown
  have hec : ∀ k (hk : k < l.length), ∃ b c, v' = .slice (some ⟨b, 0, none⟩) l.length c ∧ w2.cell? ⟨b, k, none⟩ = some (.int .i64 (csize (l.take (k + 1)) : Nat)) := by
    intro k hk
    rcases hown.2 with ⟨rfl, h⟩ | ⟨g, cap, cur, rfl, hb, hg, hnc, hcm, hsz', htk⟩
    · omega
    · refine ⟨g, cap, rfl, ?_⟩
      have := hown.cellAt k (by rw [Nat.mul_one]; omega)
      rw [this, wints_at _ k (by rw [ends_len]; exact hk), ends_at]
  have HEC := Lib.hid hec
  clear hec
  obtain ⟨A', c', rfl⟩ := hends.form
  go_wp2
  go_loopw [8, 9] (fun i z wr => ∃ (k : Nat), k ≤ l.length ∧ i = .int .i64 k ∧ z = .int .i64 (csize (l.take k) : Nat) ∧ csize (l.take k) ≤ n ∧ Frm0 w2 wr) (fun i _ _ => l.length - (intOf i).toNat)
  case atStart => exact ⟨0, Nat.zero_le _, rfl, rfl, Nat.zero_le _, Frm.refl _ _⟩
  case round =>
    obtain ⟨k, hk, rfl, rfl, hkn, hF⟩ := hrel
    by_cases hgo : k < l.length ∧ csize (l.take (k + 1)) ≤ n
    · obtain ⟨hlt, hle⟩ := hgo
      obtain ⟨b, c9, he, hc⟩ := HEC.out k hlt
      cases he
      have hck := hF.cell hc (fun h => h)
      have hi1 : decide ((k : Int) < (l.length : Int)) = true := by simp; omega
      have hi1' : (k : Int) < (l.length : Int) := by omega
      have hi2 : decide (((csize (l.take (k + 1)) : Nat) : Int) ≤ (n : Int)) = true := by simp; omega
      generalize hg : csize (l.take (k + 1)) = z1 at *
      have HG := Lib.hid hg
      clear hg
      go_wp2
      go_roundw
      case rel => exact ⟨k + 1, by omega, by go_num, by rw [HG.out], by rw [HG.out]; exact hle, hF⟩
      case measure => simp [intOf]; omega
    · have h3 : k = l.length ∨ n < csize (l.take (k + 1)) := by omega
      have hlaw := HL.out k hk hkn h3
      have hcont : ∀ wr, Frm0 w2 wr → True := fun _ _ => trivial
      have hexit : (k = l.length ∧ decide ((k : Int) < (l.length : Int)) = false) ∨ (k < l.length ∧ n < csize (l.take (k + 1))) := by
        by_cases e : k = l.length
        · exact .inl ⟨e, by simp; omega⟩
        · exact .inr ⟨by omega, by omega⟩
      have HSP := Lib.hid (fun w => HS.out _ n _ w hlaw)
      have HKN := Lib.hid h3
      clear hlaw h3 hgo
      generalize hzg : csize (l.take k) = z at *
      have HZ := Lib.hid hzg
      clear hzg
      have hnn : (n : Int) ≤ (all.size : Int) := by omega
      have hkk : (k : Int) ≤ (l.length : Int) := by omega
      have hkc : k ≤ c := by omega
      have hkc' : (k : Int) ≤ (c : Int) := by omega
      have hzn : (if z = n then (0 : Nat) else 3) = 0 ∧ (z : Int) = (n : Int) ∨ (if z = n then (0 : Nat) else 3) = 3 ∧ ¬ (z : Int) = (n : Int) := by
        by_cases e : z = n
        · exact .inl ⟨by rw [if_pos e], by omega⟩
        · exact .inr ⟨by rw [if_neg e], by omega⟩
      generalize (if z = n then (0 : Nat) else 3) = e0 at *
      rcases hexit with ⟨hkl, hi1⟩ | ⟨hlt, hle⟩
      · subst hkl
        rcases hzn with ⟨rfl, hzz⟩ | ⟨rfl, hzz⟩
        all_goals
          go_wp2_with fail
          with_reducible refine (HSP.out _).mono ?_
          rintro e w3 ⟨u, rfl, hown3, hf3⟩
          obtain ⟨A9, c9, he9, hsl9⟩ := HT.out _ hk w3 (hs.frm0 ((hF2.trans hF).trans hf3))
          cases he9
          have hs1 := Sl.of_own hown3
          go_wp2_with fail
          with_reducible refine (same_to hs1 rfl hsl9 (by rw [List.length_take, Nat.min_eq_left hk]) (decide_eq_true rfl)).mono ?_
          rintro e w4 ⟨rfl, hf4⟩
          go_wp2
          go_ret
          exact ⟨rfl, ((hF2.trans hF).trans (hf3.trans hf4)).below (fun _ _ h => h)⟩
      · obtain ⟨b, c9, he, hc⟩ := HEC.out k hlt
        cases he
        have hck := hF.cell hc (fun h => h)
        have hi1 : decide ((k : Int) < (l.length : Int)) = true := by simp; omega
        have hi1' : (k : Int) < (l.length : Int) := by omega
        have hi2 : decide (((csize (l.take (k + 1)) : Nat) : Int) ≤ (n : Int)) = false := by simp; omega
        generalize csize (l.take (k + 1)) = z1 at *
        rcases hzn with ⟨rfl, hzz⟩ | ⟨rfl, hzz⟩
        all_goals
          go_wp2_with fail
          with_reducible refine (HSP.out _).mono ?_
          rintro e w3 ⟨u, rfl, hown3, hf3⟩
          obtain ⟨A9, c9, he9, hsl9⟩ := HT.out _ hk w3 (hs.frm0 ((hF2.trans hF).trans hf3))
          cases he9
          have hs1 := Sl.of_own hown3
          go_wp2_with fail
          with_reducible refine (same_to hs1 rfl hsl9 (by rw [List.length_take, Nat.min_eq_left hk]) (decide_eq_true rfl)).mono ?_
          rintro e w4 ⟨rfl, hf4⟩
          go_wp2
          go_ret
          exact ⟨rfl, ((hF2.trans hF).trans (hf3.trans hf4)).below (fun _ _ h => h)⟩
end Go.Proofs.Ythmhihmbciigdaa
