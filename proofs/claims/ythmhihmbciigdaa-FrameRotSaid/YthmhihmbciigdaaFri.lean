/- The walks of FrameAny and FrameBack. -/
import Derived.Test.YthmhihmbciigdaaFrh
namespace Go.Proofs.Ythmhihmbciigdaa
open Go.RowKit CrcMath
set_option linter.unusedVariables false
set_option linter.unusedSimpArgs false

theorem fany_walk (s : ByteArray) (w : World) (hs : s.size ≤ 9223372036854775807) :
    Calls Try.prog 5 #[.string s] w fun e w' => e = .returned (.bool true) ∧ Below w.heap.size w w' := by
  by_cases h400 : 400 < s.size
  · go_enter Try.func5, Try.ntmps5
    go_wp2_with fail
    refine (fawake _).mono ?_
    rintro e w1 ⟨rfl, hf1⟩
    go_wp2
    go_ret
    exact ⟨rfl, hf1.below (fun _ _ h => h)⟩
  have HF := Lib.hid (fun w => first_any s w (by omega))
  have HR := Lib.hid (fun w => rfirst_any s w (by omega))
  have HS := Lib.hid (fun w => split_any s w (by omega))
  have HT := Lib.hid (fun w => rsplit_any s w (by omega))
  generalize fst s = r at *
  obtain ⟨x, n, e0⟩ := r
  generalize splits s 0 = q at *
  obtain ⟨l, m, f0⟩ := q
  go_enter Try.func5, Try.ntmps5
  go_wp2_with fail
  refine (fawake _).mono ?_
  rintro e w1 ⟨rfl, hf1⟩
  go_wp2_with fail
  refine (HF.out _).mono ?_
  rintro e w2 ⟨rfl, hf2⟩
  go_wp2_with fail
  refine (HR.out _).mono ?_
  rintro e w3 ⟨rfl, hf3⟩
  go_wp2_with fail
  refine (HS.out _).mono ?_
  rintro e w4 ⟨v, rfl, hown, hf4⟩
  go_wp2_with fail
  refine (HT.out _).mono ?_
  rintro e w5 ⟨u, rfl, hown2, hf5⟩
  have hs1 := Sl.of_own (owns_frm0 hown hf5)
  have hs2 := Sl.of_own hown2
  go_wp2_with fail
  refine (same_to hs1 rfl hs2 rfl (decide_eq_true rfl)).mono ?_
  rintro e w6 ⟨rfl, hf6⟩
  go_wp2
  go_ret
  exact ⟨rfl, ((((hf1.trans hf2).trans hf3).trans hf4).trans (hf5.trans hf6)).below (fun _ _ h => h)⟩

theorem fback_walk (l : List ByteArray) (v : Value) (w : World) (hs : Sl w v l.length (strs l)) (hsz : ∀ x ∈ l, x.size ≤ 9223372036854775807) :
    Calls Try.prog 3 #[v] w fun e w' => e = .returned (.bool true) ∧ Below w.heap.size w w' := by
  have HW := Lib.hid (fun w (h : Sl w v l.length (strs l)) => whole_any l v w h hsz)
  by_cases hfew : ¬ Few l
  · obtain ⟨A, c, rfl⟩ := hs.form
    have HN := Lib.hid hfew
    clear hfew
    go_enter Try.func3, Try.ntmps3
    go_wp2_with fail
    refine (fawake _).mono ?_
    rintro e w1 ⟨rfl, hf1⟩
    go_wp2_with fail
    refine (HW.out _ (hs.frm0 hf1)).mono ?_
    rintro e w2 (⟨_, rfl, hf2⟩ | ⟨hno, _⟩)
    · go_wp2
      go_ret
      exact ⟨rfl, (hf1.trans hf2).below (fun _ _ h => h)⟩
    · exact absurd hno HN.out
  · have hf := Classical.not_not.1 hfew
    have hlen := hs.len
    have h20 := hf.1
    have HN := Lib.hid hf
    clear hf hfew
    have hcell : ∀ k (hk : k < l.length), ∃ b o c, v = .slice (some ⟨b, o, none⟩) l.length c ∧ w.cell? ⟨b, o + k, none⟩ = some (.string l[k]) := by
      intro k hk
      rcases hs with ⟨A, c, rfl, hn, _⟩ | ⟨b, o, c, rfl, h0, h1, h2, _, hc⟩
      · omega
      · exact ⟨b, o, c, rfl, hc k _ (strs_at l k hk)⟩
    obtain ⟨A, c, rfl⟩ := hs.form
    have HC := Lib.hid hcell
    clear hcell
    have hall : (cat l).size ≤ 210 * l.length := by rw [cat_size]; exact csize_le HN.out.2
    have HA := Lib.hid (splits_whole l (fun x hx => by have := HN.out.2 x hx; omega))
    have HS := Lib.hid (fun w => split_to (w := w) (s := cat l) (by omega) HA.out)
    go_enter Try.func3, Try.ntmps3
    go_wp2_with fail
    refine (fawake _).mono ?_
    rintro e w1 ⟨rfl, hf1⟩
    go_wp2_with fail
    refine (HW.out _ (hs.frm0 hf1)).mono ?_
    rintro e w2 (⟨hno, _⟩ | ⟨_, v', rfl, hown, hf2⟩)
    · exact absurd HN.out hno
    have hF2 := hf1.trans hf2
    clear hf1 hf2
    go_wp2
    go_loopw [6, 26] (fun s i wr => ∃ (k : Nat), k ≤ l.length ∧ i = .int .i64 k ∧ s = .string (cat (l.take k)) ∧ Frm0 w wr) (fun _ i _ => l.length - (intOf i).toNat)
    case atStart => exact ⟨0, Nat.zero_le _, rfl, rfl, hF2⟩
    case round =>
      obtain ⟨k, hk, rfl, rfl, hF⟩ := hrel
      by_cases hlt : k < l.length
      · obtain ⟨b, o, c', he, hc⟩ := HC.out k hlt
        cases he
        have hck := hF.cell hc (fun h => h)
        have hct := Lib.hid (cat_take l k hlt)
        have hxs := HN.out.2 l[k] (List.getElem_mem hlt)
        have hcs := cat_size (l.take k)
        have hle := csize_le (l := l.take k) (fun x hx => HN.out.2 x (List.mem_of_mem_take hx))
        rw [List.length_take, Nat.min_eq_left hk] at hle
        have hm : (mkF l[k]).size = l[k].size + 10 := mkF_size _
        have hmi : ((mkF l[k]).size : Int) = (l[k].size : Int) + 10 := by omega
        have HMK := Lib.hid (fun w => fmake_ok l[k] w (by omega))
        have HSZ := Lib.hid (fun w => fsize_ok l[k].size w (by omega))
        generalize csize (l.take k) = z at *
        generalize cat (l.take k) = cc at *
        generalize mkF l[k] = m at *
        generalize l[k] = x at *
        go_wp2_with fail
        refine (HMK.out _).mono ?_
        rintro e w3 ⟨rfl, hf3⟩
        go_wp2_with fail
        refine (HSZ.out _).mono ?_
        rintro e w4 ⟨rfl, rfl⟩
        go_wp2
        go_roundw
        case rel => exact ⟨k + 1, by omega, by go_num, by rw [hct.out], hF.trans hf3⟩
        case measure => simp [intOf]; omega
      · obtain rfl : k = l.length := by omega
        have e1 := Lib.hid (List.take_length (l := l))
        rw [e1.out]
        go_wp2_with fail
        refine (HS.out _).mono ?_
        rintro e w3 ⟨u, rfl, hown3, hf3⟩
        have hs1 := Sl.of_own hown3
        have hs2 := hs.frm0 (hF.trans hf3)
        go_wp2_with fail
        refine (same_to hs1 rfl hs2 rfl (decide_eq_true rfl)).mono ?_
        rintro e w4 ⟨rfl, hf4⟩
        go_wp2
        go_ret
        exact ⟨rfl, ((hF.trans hf3).trans hf4).below (fun _ _ h => h)⟩
end Go.Proofs.Ythmhihmbciigdaa
