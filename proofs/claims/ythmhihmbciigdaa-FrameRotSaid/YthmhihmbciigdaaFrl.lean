/- The walk of FrameRot. -/
import Derived.Test.YthmhihmbciigdaaFrk
import Derived.Laws.BitsAllLaws
namespace Go.Proofs.Ythmhihmbciigdaa
open Go.RowKit CrcMath
set_option linter.unusedVariables false
set_option linter.unusedSimpArgs false

theorem xor_ne {x b : Nat} (hb : b ≠ 0) : x ^^^ b ≠ x := by
  intro h
  have h5 := congrArg (fun y => x ^^^ y) h
  simp only [← Nat.xor_assoc, Nat.xor_self, Nat.zero_xor] at h5
  exact hb h5
set_option maxHeartbeats 1000000 in
theorem frot_walk (l : List ByteArray) (at_ : Int) (b : Nat) (v : Value) (w : World) (hs : Sl w v l.length (strs l)) (hsz : ∀ x ∈ l, x.size ≤ 9223372036854775807) (hb8 : b < 256) :
    Calls Try.prog 7 #[v, .int .i64 at_, .int .u8 b] w fun e w' => e = .returned (.bool true) ∧ Below w.heap.size w w' := by
  have HW := Lib.hid (fun w (h : Sl w v l.length (strs l)) => whole_any l v w h hsz)
  by_cases hfew : ¬ Few l
  · obtain ⟨A, c, rfl⟩ := hs.form
    have HN := Lib.hid hfew
    clear hfew
    go_enter Try.func7, Try.ntmps7
    go_wp2_with fail
    refine (fawake _).mono ?_
    rintro e w1 ⟨rfl, hf1⟩
    go_wp2_with fail
    refine (HW.out _ (hs.frm0 hf1)).mono ?_
    rintro e w2 (⟨_, rfl, hf2⟩ | ⟨hno, _⟩)
    · go_wp2
      go_ret
      exact ⟨rfl, (hf1.trans hf2).below (fun _ _ h => h)⟩
    · exact absurd hno HN.out
  have hf := Classical.not_not.1 hfew
  have hlen := hs.len
  have h20 := hf.1
  have HN := Lib.hid hf
  clear hf hfew
  have hall : (cat l).size ≤ 210 * l.length := by rw [cat_size]; exact csize_le HN.out.2
  by_cases hbad : at_ < 0 ∨ ((cat l).size : Int) ≤ at_ ∨ b = 0
  · obtain ⟨A, c, rfl⟩ := hs.form
    have hb1 : decide (at_ < 0) = true ∨ (decide (at_ < 0) = false ∧ decide (((cat l).size : Int) ≤ at_) = true) ∨ (decide (at_ < 0) = false ∧ decide (((cat l).size : Int) ≤ at_) = false ∧ ((b : Int) == 0) = true) := by
      simp only [decide_eq_true_eq, decide_eq_false_iff_not, beq_iff_eq]; omega
    generalize cat l = all at *
    rcases hb1 with hd | ⟨hd, hd2⟩ | ⟨hd, hd2, hd3⟩
    all_goals
      go_enter Try.func7, Try.ntmps7
      go_wp2_with fail
      refine (fawake _).mono ?_
      rintro e w1 ⟨rfl, hf1⟩
      go_wp2_with fail
      refine (HW.out _ (hs.frm0 hf1)).mono ?_
      rintro e w2 (⟨hno, _⟩ | ⟨_, v', rfl, hown, hf2⟩)
      · exact absurd HN.out hno
      go_wp2
      go_ret
      exact ⟨rfl, (hf1.trans hf2).below (fun _ _ h => h)⟩
  obtain ⟨n, rfl⟩ := Int.eq_ofNat_of_zero_le (show 0 ≤ at_ by omega)
  have hn : n < (cat l).size := by omega
  have hb0 : b ≠ 0 := by omega
  have hd1 : decide ((n : Int) < 0) = false := by simp
  have hd2 : decide (((cat l).size : Int) ≤ (n : Int)) = false := by simp; omega
  have hd3 : ((b : Int) == 0) = false := by rw [beq_eq_false_iff_ne]; omega
  have hbl := bytes_len (cat l)
  have hnb : n < (bytes (cat l)).length := by omega
  have hgx : (bytes (cat l)).getD n 0 = (bytes (cat l))[n] := by rw [List.getD_eq_getElem?_getD, List.getElem?_eq_getElem hnb]; rfl
  have hx8 : (bytes (cat l)).getD n 0 < 256 := by rw [hgx]; exact bytes_lt _ _ (List.getElem_mem hnb)
  have hv8 : (bytes (cat l)).getD n 0 ^^^ b < 256 := Nat.xor_lt_two_pow (n := 8) hx8 hb8
  have hxor : bits .xor .u8 (((bytes (cat l)).getD n 0 : Nat) : Int) (b : Int) = (((bytes (cat l)).getD n 0 ^^^ b : Nat) : Int) := u8_xor_nat _ _ hx8 hb8
  have hset8 : ∀ y ∈ (bytes (cat l)).set n ((bytes (cat l)).getD n 0 ^^^ b), y < 256 := fun y hy => (List.mem_or_eq_of_mem_set hy).elim (bytes_lt _ y) (fun e => e ▸ hv8)
  have HL := Lib.hid (fun k h0 h1 h3 => rot_law l (fun x hx => by have := HN.out.2 x hx; omega) k n _ h0 h1 h3 hv8 (txt ((bytes (cat l)).set n ((bytes (cat l)).getD n 0 ^^^ b))) (bytes_txt hset8) (by
    rw [List.getElem?_eq_getElem hnb, hgx]
    intro e
    exact xor_ne hb0 (Option.some.inj e).symm))
  have HT := Lib.hid (fun k (hk : k ≤ l.length) (w : World) (h : Sl w v l.length (strs l)) => show ∃ A c, v = .slice A l.length c ∧ Sl w (.slice A k c) k (strs (l.take k)) from by
    rcases h with ⟨A, c, rfl, h0, h1⟩ | ⟨b, o, c, rfl, h0, h1, h2, h3, h4⟩
    · have e : l = [] := List.eq_nil_of_length_eq_zero h0
      subst e
      have : k = 0 := by simpa using hk
      subst this
      exact ⟨A, c, rfl, .inl ⟨_, _, rfl, rfl, rfl⟩⟩
    · exact ⟨_, c, rfl, by rw [← strs_take]; exact Sl.take1 (.inr ⟨b, o, c, rfl, h0, h1, h2, h3, h4⟩) k hk⟩)
  obtain ⟨A, c, rfl⟩ := hs.form
  have hcap := hs.cap
  have HC0 := Lib.hid (show csize (l.take l.length) = (cat l).size by rw [List.take_length, cat_size])
  have htz : (txt ((bytes (cat l)).set n ((bytes (cat l)).getD n 0 ^^^ b))).size = (cat l).size := by rw [txt_size, List.length_set, hbl]
  have HLS := Lib.hid (show ((bytes (cat l)).set n ((bytes (cat l)).getD n 0 ^^^ b)).length = (cat l).size by rw [List.length_set, hbl])
  have hB0 := fun w => Bts.new w (cat l)
  have hconv := fun w => Lib.run_convert_string_bytes (P := Try.prog) w 9 35 5 (cat l) Try.underlying9 Try.underlying35 Try.underlying5
  have HB0 := Lib.hid (fun w => (hB0 w).set n ((bytes (cat l)).getD n 0 ^^^ b) hnb)
  have HB1 := Lib.hid (fun w => (hB0 w).cell n hnb)
  have HB2 := Lib.hid (fun w => (hB0 w).free n hnb)
  clear hB0 hgx hset8
  generalize (bytes (cat l)).set n ((bytes (cat l)).getD n 0 ^^^ b) = l2 at *
  generalize hxx : (bytes (cat l)).getD n 0 = x at *
  clear hxx
  have HS := Lib.hid (fun x e0 w (h : splits (txt l2) 0 = (x, e0)) => split_to (w := w) (s := txt l2) (l := x) (n := e0.1) (e0 := e0.2) (by omega) h)
  generalize cat l = all at *
  go_enter Try.func7, Try.ntmps7
  go_wp2_with fail
  refine (fawake _).mono ?_
  rintro e w1 ⟨rfl, hf1⟩
  go_wp2_with fail
  refine (HW.out _ (hs.frm0 hf1)).mono ?_
  rintro e w2 (⟨hno, _⟩ | ⟨_, v', rfl, hown, hf2⟩)
  · exact absurd HN.out hno
  have hF2 := hf1.trans hf2
  clear hf1 hf2
  have hends := Sl.of_own hown
  have hec : ∀ k (hk : k < l.length), ∃ b c, v' = .slice (some ⟨b, 0, none⟩) l.length c ∧ w2.cell? ⟨b, k, none⟩ = some (.int .i64 (csize (l.take (k + 1)) : Nat)) := by
    intro k hk
    rcases hown.2 with ⟨rfl, h⟩ | ⟨g, cap, cur, rfl, hb, hg, hnc, hcm, hsz', htk⟩
    · omega
    · refine ⟨g, cap, rfl, ?_⟩
      have := hown.cellAt k (by rw [Nat.mul_one]; omega)
      rw [this, wints_at _ k (by rw [ends_len]; exact hk), ends_at]
  have HEC := Lib.hid hec
  clear hec
  obtain ⟨A', c', rfl⟩ := hends.form
  have hB0 := HB0.out w2
  have hB1 := HB1.out w2
  have hB2 := HB2.out w2
  have hFB : Frm0 w2 ((Lib.bytesWorld w2 5 all).setCell ⟨w2.heap.size, n, none⟩ (.int .u8 ((x ^^^ b : Nat) : Int))) := (frm_bytes w2 _ all).setCell ⟨w2.heap.size, n, none⟩ (fun h => absurd h (Nat.lt_irrefl _)) _
  have hni : (n : Int) < (all.size : Int) := by omega
  go_wp2
  clear hconv
  generalize (Lib.bytesWorld w2 5 all).setCell ⟨w2.heap.size, n, none⟩ (.int .u8 ((x ^^^ b : Nat) : Int)) = w3 at *
  generalize w2.heap.size = g at *
  have hcv := fun wr cap (h : Frm0 w3 wr) => Bts.conv (hB0.frm h (fun h => h)) HLS.out cap
  have HCV := Lib.hid hcv
  clear hcv
  go_loopw [11, 12] (fun i z wr => ∃ (k : Nat), k ≤ l.length ∧ i = .int .i64 k ∧ z = .int .i64 (csize (l.take k) : Nat) ∧ csize (l.take k) ≤ n ∧ Frm0 w3 wr) (fun i _ _ => l.length - (intOf i).toNat)
  case atStart => exact ⟨0, Nat.zero_le _, rfl, rfl, Nat.zero_le _, Frm.refl _ _⟩
  case round =>
    obtain ⟨k, hk, rfl, rfl, hkn, hF⟩ := hrel
    have hlt : k < l.length := by
      rcases Nat.lt_or_ge k l.length with h | h
      · exact h
      · have e : k = l.length := by omega
        have := HC0.out
        rw [← e] at this
        omega
    obtain ⟨b9, c9, he, hc⟩ := HEC.out k hlt
    cases he
    have hck := (hFB.trans hF).cell hc (fun h => h)
    have hi1' : (k : Int) < (l.length : Int) := by omega
    by_cases hle : csize (l.take (k + 1)) ≤ n
    · have hi2 : decide (((csize (l.take (k + 1)) : Nat) : Int) ≤ (n : Int)) = true := by simp; omega
      generalize hg : csize (l.take (k + 1)) = z1 at *
      have HG := Lib.hid hg
      clear hg
      go_wp2
      go_roundw
      case rel => exact ⟨k + 1, by omega, by go_num, by rw [HG.out], by rw [HG.out]; exact hle, hF⟩
      case measure => simp [intOf]; omega
    · have hi2 : decide (((csize (l.take (k + 1)) : Nat) : Int) ≤ (n : Int)) = false := by simp; omega
      have hlaw := HL.out k hlt hkn (by omega)
      have HSP := Lib.hid (fun w => HS.out _ _ w hlaw)
      clear hlaw
      have hkk : (k : Int) ≤ (l.length : Int) := by omega
      have hkc : k ≤ c := by omega
      have hkc' : (k : Int) ≤ (c : Int) := by omega
      have hcv := fun cap => HCV.out wr cap hF
      generalize csize (l.take (k + 1)) = z1 at *
      generalize hzg : csize (l.take k) = z at *
      have HZ := Lib.hid hzg
      clear hzg
      generalize txt l2 = t at *
      go_wp2_with fail
      clear hcv
      with_reducible refine (HSP.out _).mono ?_
      rintro e w4 ⟨u, rfl, hown3, hf3⟩
      obtain ⟨A9, c9, he9, hsl9⟩ := HT.out _ hk w4 (hs.frm0 ((hF2.trans (hFB.trans hF)).trans hf3))
      cases he9
      have hs1 := Sl.of_own hown3
      go_wp2_with fail
      with_reducible refine (same_to hs1 rfl hsl9 (by rw [List.length_take, Nat.min_eq_left hk]) (decide_eq_true rfl)).mono ?_
      rintro e w5 ⟨rfl, hf5⟩
      go_wp2
      go_ret
      exact ⟨rfl, ((hF2.trans (hFB.trans hF)).trans (hf3.trans hf5)).below (fun _ _ h => h)⟩
end Go.Proofs.Ythmhihmbciigdaa
