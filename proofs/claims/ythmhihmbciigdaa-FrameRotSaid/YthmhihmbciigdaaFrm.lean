/- The walk of FrameLong. -/
import Derived.Test.YthmhihmbciigdaaFrl
import Derived.Laws.OwnMore
namespace Go.Proofs.Ythmhihmbciigdaa
open Go.RowKit CrcMath
set_option linter.unusedVariables false
set_option linter.unusedSimpArgs false

theorem Bts.of_own {w : World} {base g n cap : Nat} {l : List Nat} (hl : l.length = n) (h : w.ownsRow base 5 1 (.slice (some ⟨g, 0, none⟩) n cap) n (l.map (fun x : Nat => .int .u8 (x : Int)))) (hlt : g < w.heap.size) : Bts w g l := by
  refine ⟨hlt, fun j hj => ?_, fun j hj => ?_⟩
  · rw [h.cellAt j (by omega)]
    simp [List.getElem?_eq_getElem hj]
  · rcases h.2 with ⟨h, _⟩ | ⟨g', cap', cur, he, hb, hg, hr⟩
    · cases h
    · cases he
      exact Bk.frozen hg j
theorem Euint8 : Elt Try.prog 35 5 (.int .u8 0) 1 1 := Elt.mk' Try.underlying35 (by kernel_rfl) rfl (by omega)
theorem made_bytes (w : World) (n : Nat) (hn : n ≤ 100000) : ∃ w', (Instr.makeSlice 35 (.int .i64 (n : Int)) (.int .i64 (n : Int))).run Try.prog w = .ok (.slice (some ⟨w.heap.size, 0, none⟩) n n) w' ∧ Bts w' w.heap.size (List.replicate n 0) ∧ Frm0 w w' := by
  obtain ⟨i, hi, hz, hsize, hby⟩ := Euint8.info
  obtain ⟨w', hr, ho, hg⟩ := run_make_full (P := Try.prog) w w.heap.size 35 5 i (.int .u8 0) 1 Euint8.und hi hz hsize .i64 .i64 n (by rw [hby]; omega) (by unfold maxLen; omega) (Nat.le_refl _)
  rw [show (Value.int .u8 0).cells = #[.int .u8 0] from rfl, toList_madeCells_one] at ho
  refine ⟨w', hr, Bts.of_own (n := n) (base := w.heap.size) (cap := n) (by simp) (by simpa using ho) (ho.lt _ rfl).2, (Frm.refl (fun _ => False) w).grown hg (fun k h => by cases h)⟩

set_option maxHeartbeats 1000000 in
theorem flong_walk (n : Int) (b : Nat) (w : World) (hb8 : b < 256) :
    Calls Try.prog 4 #[.int .i64 n, .int .u8 b] w fun e w' => e = .returned (.bool true) ∧ Below w.heap.size w w' := by
  by_cases hbad : n < 0 ∨ 3000 < n
  · have hb1 : decide (n < 0) = true ∨ (decide (n < 0) = false ∧ decide ((3000 : Int) < n) = true) := by
      simp only [decide_eq_true_eq, decide_eq_false_iff_not]; omega
    have hno : n < 0 ∨ 2000 < n := by omega
    rcases hb1 with hd | ⟨hd, hd2⟩
    all_goals
      go_enter Try.func4, Try.ntmps4
      go_wp2_with fail
      refine (fawake _).mono ?_
      rintro e w1 ⟨rfl, hf1⟩
      go_wp2_with fail
      refine (fsize_no n _ hno).mono ?_
      rintro e w2 ⟨rfl, rfl⟩
      go_wp2
      go_ret
      exact ⟨rfl, hf1.below (fun _ _ h => h)⟩
  obtain ⟨n, rfl⟩ := Int.eq_ofNat_of_zero_le (show 0 ≤ n by omega)
  have hn : n ≤ 3000 := by omega
  have hd1 : decide ((n : Int) < 0) = false := by simp
  have hd2 : decide ((3000 : Int) < (n : Int)) = false := by simp; omega
  have hM : n ≤ maxLen := by unfold maxLen; omega
  go_enter Try.func4, Try.ntmps4
  go_wp2_with fail
  refine (fawake _).mono ?_
  rintro e w1 ⟨rfl, hf1⟩
  obtain ⟨w2, hmk, hB2, hf2⟩ := made_bytes w1 n (by omega)
  go_wp2
  clear hmk
  have hF2 := hf1.trans hf2
  have hg9 : w.heap.size ≤ w1.heap.size := hf1.size
  generalize w1.heap.size = g at *
  clear hf1 hf2
  go_loopw [28] (fun i wr => ∃ (k : Nat) (l : List Nat), k ≤ n ∧ i = .int .i64 k ∧ Bts wr g l ∧ l.length = n ∧ Hid (∀ x ∈ l, x < 256) ∧ Frm0 w wr) (fun i _ => n - (intOf i).toNat)
  case atStart => exact ⟨0, _, Nat.zero_le _, rfl, hB2, by simp, by unfold Hid; intro x hx; rw [List.eq_of_mem_replicate hx]; omega, hF2⟩
  case round =>
    obtain ⟨k, l, hk, rfl, hB, hl, hl8, hF⟩ := hrel
    by_cases hlt : k < n
    · have hset := hB.set k b (by omega)
      have hcell := hB.cell k (by omega)
      have hfree := hB.free k (by omega)
      have hi1 : (k : Int) < (n : Int) := by omega
      generalize l.getD k 0 = x at *
      go_wp2
      go_roundw
      case rel => exact ⟨k + 1, l.set k b, by omega, by go_num, hset, by rw [List.length_set]; exact hl, by unfold Hid at hl8 ⊢; exact fun y hy => (List.mem_or_eq_of_mem_set hy).elim (hl8 y) (fun e => e ▸ hb8), hF.setCell ⟨g, k, none⟩ (fun h => by simp only at h; omega) _⟩
      case measure => simp [intOf]; omega
    · obtain rfl : k = n := by omega
      have hcv := fun cap => hB.conv hl cap
      have htz : (txt l).size = k := by rw [txt_size, hl]
      clear hB hB2 hl8
      generalize txt l = s at *
      by_cases h2 : 2000 < k
      · have hdd : decide ((2000 : Int) < (k : Int)) = true := by simp; omega
        go_wp2_with fail
        clear hcv
        refine (fmake_no s _ (by omega)).mono ?_
        rintro e w3 ⟨rfl, rfl⟩
        go_wp2_with fail
        refine (fsize_no k _ (by omega)).mono ?_
        rintro e w3 ⟨rfl, rfl⟩
        go_wp2
        go_ret
        exact ⟨rfl, hF.below (fun _ _ h => h)⟩
      · have hdd : decide ((2000 : Int) < (k : Int)) = false := by simp; omega
        have hmz := mkF_size s
        have HMK := Lib.hid (fun w => fmake_ok s w (by omega))
        have HRM := Lib.hid (fun w => rfmake_any s w (by omega))
        have HFS := Lib.hid (fun w => first_to (w := w) (s := mkF s) (x := s) (n := k + 10) (e0 := 0) (by omega) (by have := fst_mk s ⟨#[]⟩ (by omega); rwa [app_empty, htz] at this))
        have e10 : IntKind.i64.wrap ((k : Int) + 10) = (k : Int) + 10 := IntWalk.i64_in _ (by omega)
        generalize mkF s = m at *
        go_wp2_with fail
        clear hcv
        refine (HMK.out _).mono ?_
        rintro e w3 ⟨rfl, hf3⟩
        go_wp2_with fail
        refine (HFS.out _).mono ?_
        rintro e w4 ⟨rfl, hf4⟩
        go_wp2_with fail
        refine (HRM.out _).mono ?_
        rintro e w5 ⟨rfl, hf5⟩
        go_wp2_with fail
        refine (fsize_ok k _ (by omega)).mono ?_
        rintro e w6 ⟨rfl, rfl⟩
        go_wp2
        go_ret
        exact ⟨rfl, (hF.trans (hf3.trans (hf4.trans hf5))).below (fun _ _ h => h)⟩
end Go.Proofs.Ythmhihmbciigdaa
