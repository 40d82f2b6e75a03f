/- All frames of any bytes: what Split answers, the program's and the document's. -/
import Derived.Test.YthmhihmbciigdaaFrd
import Derived.Test.YthmhihmbciigdaaM
namespace Go.Proofs.Ythmhihmbciigdaa
open Go.RowKit
set_option linter.unusedVariables false
set_option linter.unusedSimpArgs false

theorem splitN_enough (s : ByteArray) : ∀ (f g : Nat) (at_ : Nat), s.size - at_ < f → s.size - at_ < g → splitN f s at_ = splitN g s at_
  | 0, _, _, h, _ => by omega
  | _ + 1, 0, _, _, h => by omega
  | f + 1, g + 1, at_, hf, hg => by
    unfold splitN
    by_cases h1 : at_ < s.size
    · rw [if_pos h1, if_pos h1]
      by_cases h2 : (fst (s.extract at_ s.size)).2.2 = 0
      · rw [if_pos h2, if_pos h2]
        have := fst_some h2
        rw [splitN_enough s f g (at_ + (fst (s.extract at_ s.size)).2.1) (by omega) (by omega)]
      · rw [if_neg h2, if_neg h2]
    · rw [if_neg h1, if_neg h1]
/-- From a place on: contents, where it ends, what is told. -/
def splits (s : ByteArray) (at_ : Nat) : List ByteArray × Nat × Nat := splitN (s.size - at_ + 1) s at_
theorem splits_end {s : ByteArray} {k : Nat} (h : ¬ k < s.size) : splits s k = ([], k, 0) := by unfold splits splitN; rw [if_neg h]
theorem splits_err {s : ByteArray} {k : Nat} (h : k < s.size) (he : ¬ (fst (s.extract k s.size)).2.2 = 0) : splits s k = ([], k, (fst (s.extract k s.size)).2.2) := by unfold splits splitN; rw [if_pos h, if_neg he]
theorem splits_go {s : ByteArray} {k : Nat} (h : k < s.size) (he : (fst (s.extract k s.size)).2.2 = 0) :
    splits s k = ((fst (s.extract k s.size)).1 :: (splits s (k + (fst (s.extract k s.size)).2.1)).1, (splits s (k + (fst (s.extract k s.size)).2.1)).2) := by
  unfold splits
  have := fst_some he
  rw [splitN_enough s (s.size - (k + (fst (s.extract k s.size)).2.1) + 1) (s.size - k) _ (by omega) (by omega)]
  conv => lhs; unfold splitN
  rw [if_pos h, if_pos he]

theorem split_any (s : ByteArray) (w : World) (hs : s.size ≤ 100000) :
    Calls Try.prog 17 #[.string s] w fun e w' => ∃ v, e = .returned (.tuple #[v, .int .i64 ((splits s 0).2.1 : Nat), .int .i64 ((splits s 0).2.2 : Nat)]) ∧ w'.ownsRow w.heap.size 9 1 v (splits s 0).1.length (strs (splits s 0).1) ∧ Frm0 w w' := by
  have HFI := Lib.hid (fun (x : ByteArray) (w : World) (h : x.size ≤ 100000) => first_any x w (by omega))
  go_enter Try.func17, Try.ntmps17
  go_wp2
  go_loopw [5, 6] (fun v i wr => ∃ (k : Nat) (xs : List ByteArray), k ≤ s.size ∧ i = .int .i64 k ∧ wr.ownsRow w.heap.size 9 1 v xs.length (strs xs) ∧ xs.length ≤ k ∧ Hid (splits s 0 = (xs ++ (splits s k).1, (splits s k).2)) ∧ Frm0 w wr) (fun _ i _ => s.size - (intOf i).toNat)
  case atStart => exact ⟨0, [], Nat.zero_le _, rfl, World.ownsRow_nil _ _ _ _, by simp, by simp [Hid], Frm.refl _ _⟩
  case round =>
    obtain ⟨k, xs, hk, rfl, hown, hlx, hsp, hF⟩ := hrel
    by_cases hlt : k < s.size
    · have hx : (s.extract k s.size).size ≤ 100000 := by rw [ByteArray.size_extract]; omega
      have HC := Lib.hid (fun w => HFI.out (s.extract k s.size) w hx)
      by_cases he : (fst (s.extract k s.size)).2.2 = 0
      · have hgo := Lib.hid (splits_go hlt he)
        have hsm := fst_some he
        have hsz : (s.extract k s.size).size = s.size - k := by rw [ByteArray.size_extract]; omega
        rw [hsz] at hsm
        have hM : xs.length + 1 ≤ maxLen := by unfold maxLen; omega
        generalize fst (s.extract k s.size) = r at *
        obtain ⟨x, n, e0⟩ := r
        simp only at he hsm
        subst he
        go_wp2_with fail
        refine (HC.out _).mono ?_
        rintro e w1 ⟨rfl, hf1⟩
        have hown1 := owns_frm0 hown hf1
        go_wp2_with (at_builtin; refine wpList_append_sl rfl (.tmp 27) (.tmp 29) rfl Estr w.heap.size _ (.slice (some ⟨w1.heap.size, 0, none⟩) 1 1) xs.length 1 (strs xs) (strs [x]) rfl rfl (hown1.alloc _) (Sl.new _ _ _ 1 (by decide) (by omega)) rfl (strs_one [x]) (by omega) (by omega) (by have := hF.size; have := hf1.size; simp at this ⊢; omega) ?_; intro v2 w2 hown2 hf2 hat2)
        go_roundw
        case rel =>
          refine ⟨k + n, xs ++ [x], by omega, by go_num, ?_, by simp; omega, ?_, ?_⟩
          · have e1 : strs (xs ++ [x]) = strs xs ++ strs [x] := by simp [strs]
            rw [e1, List.length_append]; exact hown2
          · unfold Hid
            have h1 := hsp
            unfold Hid at h1
            rw [h1, hgo.out]
            simp
          · exact ((hF.trans hf1).alloc _).then_ hf2 (fun i hi h => by have := (hown1.lt i h).1; omega)
        case measure => simp [intOf]; omega
      · have hgo := Lib.hid (splits_err hlt he)
        generalize fst (s.extract k s.size) = r at *
        obtain ⟨x, n, e0⟩ := r
        simp only at he
        go_wp2_with fail
        refine (HC.out _).mono ?_
        rintro e w1 ⟨rfl, hf1⟩
        have hown1 := owns_frm0 hown hf1
        go_wp2
        go_ret3
        have h1 := hsp
        unfold Hid at h1
        rw [hgo.out] at h1
        simp only [List.append_nil] at h1
        rw [h1]
        exact ⟨_, rfl, hown1, hF.trans hf1⟩
    · have hgo := Lib.hid (splits_end hlt)
      obtain rfl : k = s.size := by omega
      go_wp2
      go_ret3
      have h1 := hsp
      unfold Hid at h1
      rw [hgo.out] at h1
      simp only [List.append_nil] at h1
      rw [h1]
      exact ⟨_, rfl, hown, hF⟩

theorem rsplit_any (s : ByteArray) (w : World) (hs : s.size ≤ 100000) :
    Calls Try.prog 22 #[.string s] w fun e w' => ∃ v, e = .returned (.tuple #[v, .int .i64 ((splits s 0).2.1 : Nat), .int .i64 ((splits s 0).2.2 : Nat)]) ∧ w'.ownsRow w.heap.size 9 1 v (splits s 0).1.length (strs (splits s 0).1) ∧ Frm0 w w' := by
  have HFI := Lib.hid (fun (x : ByteArray) (w : World) (h : x.size ≤ 100000) => rfirst_any x w (by omega))
  go_enter Try.func22, Try.ntmps22
  go_wp2
  go_loopw [5, 6] (fun v i wr => ∃ (k : Nat) (xs : List ByteArray), k ≤ s.size ∧ i = .int .i64 k ∧ wr.ownsRow w.heap.size 9 1 v xs.length (strs xs) ∧ xs.length ≤ k ∧ Hid (splits s 0 = (xs ++ (splits s k).1, (splits s k).2)) ∧ Frm0 w wr) (fun _ i _ => s.size - (intOf i).toNat)
  case atStart => exact ⟨0, [], Nat.zero_le _, rfl, World.ownsRow_nil _ _ _ _, by simp, by simp [Hid], Frm.refl _ _⟩
  case round =>
    obtain ⟨k, xs, hk, rfl, hown, hlx, hsp, hF⟩ := hrel
    by_cases hlt : k < s.size
    · have hx : (s.extract k s.size).size ≤ 100000 := by rw [ByteArray.size_extract]; omega
      have HC := Lib.hid (fun w => HFI.out (s.extract k s.size) w hx)
      by_cases he : (fst (s.extract k s.size)).2.2 = 0
      · have hgo := Lib.hid (splits_go hlt he)
        have hsm := fst_some he
        have hsz : (s.extract k s.size).size = s.size - k := by rw [ByteArray.size_extract]; omega
        rw [hsz] at hsm
        have hM : xs.length + 1 ≤ maxLen := by unfold maxLen; omega
        generalize fst (s.extract k s.size) = r at *
        obtain ⟨x, n, e0⟩ := r
        simp only at he hsm
        subst he
        go_wp2_with fail
        refine (HC.out _).mono ?_
        rintro e w1 ⟨rfl, hf1⟩
        have hown1 := owns_frm0 hown hf1
        go_wp2_with (at_builtin; refine wpList_append_sl rfl (.tmp 27) (.tmp 29) rfl Estr w.heap.size _ (.slice (some ⟨w1.heap.size, 0, none⟩) 1 1) xs.length 1 (strs xs) (strs [x]) rfl rfl (hown1.alloc _) (Sl.new _ _ _ 1 (by decide) (by omega)) rfl (strs_one [x]) (by omega) (by omega) (by have := hF.size; have := hf1.size; simp at this ⊢; omega) ?_; intro v2 w2 hown2 hf2 hat2)
        go_roundw
        case rel =>
          refine ⟨k + n, xs ++ [x], by omega, by go_num, ?_, by simp; omega, ?_, ?_⟩
          · have e1 : strs (xs ++ [x]) = strs xs ++ strs [x] := by simp [strs]
            rw [e1, List.length_append]; exact hown2
          · unfold Hid
            have h1 := hsp
            unfold Hid at h1
            rw [h1, hgo.out]
            simp
          · exact ((hF.trans hf1).alloc _).then_ hf2 (fun i hi h => by have := (hown1.lt i h).1; omega)
        case measure => simp [intOf]; omega
      · have hgo := Lib.hid (splits_err hlt he)
        generalize fst (s.extract k s.size) = r at *
        obtain ⟨x, n, e0⟩ := r
        simp only at he
        go_wp2_with fail
        refine (HC.out _).mono ?_
        rintro e w1 ⟨rfl, hf1⟩
        have hown1 := owns_frm0 hown hf1
        go_wp2
        go_ret3
        have h1 := hsp
        unfold Hid at h1
        rw [hgo.out] at h1
        simp only [List.append_nil] at h1
        rw [h1]
        exact ⟨_, rfl, hown1, hF.trans hf1⟩
    · have hgo := Lib.hid (splits_end hlt)
      obtain rfl : k = s.size := by omega
      go_wp2
      go_ret3
      have h1 := hsp
      unfold Hid at h1
      rw [hgo.out] at h1
      simp only [List.append_nil] at h1
      rw [h1]
      exact ⟨_, rfl, hown, hF⟩

end Go.Proofs.Ythmhihmbciigdaa
