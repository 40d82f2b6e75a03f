/- SHA-256: the constants reckoned of roots: contracts of Root and Roots. -/
import Derived.Test.YtmpbgnopejeelaaSho
import Derived.Test.YtmpbgnopejeelaaShj
import Derived.Deep.RegionHeld3
import Derived.Deep.MidRow
namespace Go.Proofs.Ytmpbgnopejeelaa
open Go.RowKit
set_option linter.unusedVariables false
set_option linter.unusedSimpArgs false
set_option maxRecDepth 100000
namespace Rt
open Sh

theorem rs2 (n j X : Nat) (hX : root n 2 j + bitN j = X) (b : Bool) (hb : above (times (parts X) (parts X)) n 4 9 = b) : root n 2 (j + 1) = if b then root n 2 j else X := by
  subst hX hb
  rw [root_succ]
  have e : pwr 2 (root n 2 j + bitN j) = (times (parts (root n 2 j + bitN j)) (parts (root n 2 j + bitN j))) := rfl
  have l : ((times (parts (root n 2 j + bitN j)) (parts (root n 2 j + bitN j)))).length = 9 := by rw [times_length]; rfl
  rw [e, l]
  rfl
set_option maxHeartbeats 4000000 in
theorem root2_any (n : Nat) (hn : n < 65536) (w : World) : Calls Try.prog 56 #[.int .i64 n, .int .i64 2] w fun e w' => e = .returned (.int .u32 ((root n 2 41 % 4294967296 : Nat) : Int)) ∧ Frm0 w w' := by
  go_enter Try.func56, Try.ntmps56
  go_wp2_with fail
  go_loopw [5, 6] (fun v b wr => ∃ (j r B : Nat), j ≤ 41 ∧ v = .int .u64 r ∧ b = .int .u64 B ∧ Hid (root n 2 j = r) ∧ Hid (bitN j = B) ∧ Frm0 w wr) (fun _ b _ => (intOf b).toNat)
  case atStart => exact ⟨0, 0, 1099511627776, by omega, rfl, rfl, Lib.hid rfl, Lib.hid rfl, Frm.refl _ _⟩
  case round =>
    obtain ⟨j, r, B, hj, rfl, rfl, HR, HB, hF⟩ := hrel
    by_cases hlt : j < 41
    · have hr : r ≤ 41 * 1099511627776 := by
        have := root_le n 2 j
        rw [HR.out] at this
        exact Nat.le_trans this (Nat.mul_le_mul hj (Nat.le_refl _))
      have hB1 : B ≤ 1099511627776 := by have := bitN_le j; rw [HB.out] at this; exact this
      have hB0 : 0 < B := by have := bitN_pos j hlt; rw [HB.out] at this; exact this
      have hB0i : (0 : Int) < (B : Int) := by omega
      obtain ⟨X, hX⟩ : ∃ X, r + B = X := ⟨_, rfl⟩
      have e1 : IntKind.u64.wrap ((r : Int) + (B : Int)) = (X : Int) := by rw [IntKind.wrap_u64]; omega
      have HX := Lib.hid (show root n 2 j + bitN j = X by rw [HR.out, HB.out]; exact hX)
      have hBd : ((B / 2 : Nat) : Int) = (B : Int) / 2 := by omega
      have HB2 := Lib.hid (show bitN (j + 1) = B / 2 by rw [bitN_succ, HB.out])
      have HBD := Lib.hid hBd
      have HXB := Lib.hid (show X < 18446744073709551616 by omega)
      clear hX hBd hr
      go_wp2_with fail
      clear e1
      refine (parts_any X HXB.out _).mono ?_
      rintro e w2 ⟨g2, rfl, hs2, hU2, hf2⟩
      have hF2 := hF.trans hf2
      clear hs2 hf2 hF
      go_wp2_with fail
      refine (parts_any X HXB.out _).mono ?_
      rintro e w3 ⟨g3, rfl, hs3, hU3, hf3⟩
      have hU2 := hU2.frm0 hf3
      have hF3 := hF2.trans hf3
      clear hs3 hf3 hF2
      go_wp2_with fail
      refine (times_any _ _ g2 g3 4 4 9 rfl rfl rfl (by omega) _ hU2 hU3).mono ?_
      rintro e w4 ⟨g4, rfl, hs4, hU4, hf4⟩
      have hF4 := hF3.trans hf4
      clear hs4 hf4 hF3 hU2 hU3
      go_wp2_with fail
      obtain ⟨r9, hr9⟩ : ∃ r9, above (times (parts X) (parts X)) n 4 9 = r9 := ⟨_, rfl⟩
      have HS := Lib.hid (rs2 n j X HX.out r9 hr9)
      refine (above_any _ 9 g4 n 4 r9 (by rw [times_length]; rfl) (by omega) (by omega) hn hr9 _ hU4).mono ?_
      rintro e w9 ⟨rfl, rfl⟩
      clear hr9 hU4
      cases r9
      · go_wp2_with fail
        go_roundw
        case rel =>
          have e9 : root n 2 (j + 1) = X := HS.out
          refine ⟨j + 1, X, B / 2, by omega, rfl, by rw [HBD.out], Lib.hid e9, HB2, hF4⟩
        case measure => simp [intOf]; omega
      · go_wp2_with fail
        go_roundw
        case rel =>
          have e9 : root n 2 (j + 1) = r := HS.out.trans HR.out
          refine ⟨j + 1, r, B / 2, by omega, rfl, by rw [HBD.out], Lib.hid e9, HB2, hF4⟩
        case measure => simp [intOf]; omega
    · obtain rfl : j = 41 := by omega
      obtain rfl : B = 0 := HB.out.symm.trans bitN_41
      have e5 : IntKind.u32.wrap ((r : Int) % 4294967296) = ((r % 4294967296 : Nat) : Int) := by rw [IntKind.wrap_u32']; omega
      have HE5 := Lib.hid e5
      clear e5
      go_wp2_with fail
      go_ret
      exact ⟨ret_int (by rw [HR.out]; first | rfl | exact HE5.out | omega), hF⟩

theorem rs3 (n j X : Nat) (hX : root n 3 j + bitN j = X) (b : Bool) (hb : above (times (times (parts X) (parts X)) (parts X)) n 6 14 = b) : root n 3 (j + 1) = if b then root n 3 j else X := by
  subst hX hb
  rw [root_succ]
  have e : pwr 3 (root n 3 j + bitN j) = (times (times (parts (root n 3 j + bitN j)) (parts (root n 3 j + bitN j))) (parts (root n 3 j + bitN j))) := rfl
  have l : ((times (times (parts (root n 3 j + bitN j)) (parts (root n 3 j + bitN j))) (parts (root n 3 j + bitN j)))).length = 14 := by rw [times_length, times_length]; rfl
  rw [e, l]
  rfl
set_option maxHeartbeats 4000000 in
theorem root3_any (n : Nat) (hn : n < 65536) (w : World) : Calls Try.prog 56 #[.int .i64 n, .int .i64 3] w fun e w' => e = .returned (.int .u32 ((root n 3 41 % 4294967296 : Nat) : Int)) ∧ Frm0 w w' := by
  go_enter Try.func56, Try.ntmps56
  go_wp2_with fail
  go_loopw [5, 6] (fun v b wr => ∃ (j r B : Nat), j ≤ 41 ∧ v = .int .u64 r ∧ b = .int .u64 B ∧ Hid (root n 3 j = r) ∧ Hid (bitN j = B) ∧ Frm0 w wr) (fun _ b _ => (intOf b).toNat)
  case atStart => exact ⟨0, 0, 1099511627776, by omega, rfl, rfl, Lib.hid rfl, Lib.hid rfl, Frm.refl _ _⟩
  case round =>
    obtain ⟨j, r, B, hj, rfl, rfl, HR, HB, hF⟩ := hrel
    by_cases hlt : j < 41
    · have hr : r ≤ 41 * 1099511627776 := by
        have := root_le n 3 j
        rw [HR.out] at this
        exact Nat.le_trans this (Nat.mul_le_mul hj (Nat.le_refl _))
      have hB1 : B ≤ 1099511627776 := by have := bitN_le j; rw [HB.out] at this; exact this
      have hB0 : 0 < B := by have := bitN_pos j hlt; rw [HB.out] at this; exact this
      have hB0i : (0 : Int) < (B : Int) := by omega
      obtain ⟨X, hX⟩ : ∃ X, r + B = X := ⟨_, rfl⟩
      have e1 : IntKind.u64.wrap ((r : Int) + (B : Int)) = (X : Int) := by rw [IntKind.wrap_u64]; omega
      have HX := Lib.hid (show root n 3 j + bitN j = X by rw [HR.out, HB.out]; exact hX)
      have hBd : ((B / 2 : Nat) : Int) = (B : Int) / 2 := by omega
      have HB2 := Lib.hid (show bitN (j + 1) = B / 2 by rw [bitN_succ, HB.out])
      have HBD := Lib.hid hBd
      have HXB := Lib.hid (show X < 18446744073709551616 by omega)
      clear hX hBd hr
      go_wp2_with fail
      clear e1
      refine (parts_any X HXB.out _).mono ?_
      rintro e w2 ⟨g2, rfl, hs2, hU2, hf2⟩
      have hF2 := hF.trans hf2
      clear hs2 hf2 hF
      go_wp2_with fail
      refine (parts_any X HXB.out _).mono ?_
      rintro e w3 ⟨g3, rfl, hs3, hU3, hf3⟩
      have hU2 := hU2.frm0 hf3
      have hF3 := hF2.trans hf3
      clear hs3 hf3 hF2
      go_wp2_with fail
      refine (times_any _ _ g2 g3 4 4 9 rfl rfl rfl (by omega) _ hU2 hU3).mono ?_
      rintro e w4 ⟨g4, rfl, hs4, hU4, hf4⟩
      have hF4 := hF3.trans hf4
      clear hs4 hf4 hF3 hU2 hU3
      go_wp2_with fail
      refine (parts_any X HXB.out _).mono ?_
      rintro e w5 ⟨g5, rfl, hs5, hU5, hf5⟩
      have hU4 := hU4.frm0 hf5
      have hF5 := hF4.trans hf5
      clear hs5 hf5 hF4
      go_wp2_with fail
      refine (times_any _ _ g4 g5 9 4 14 (by rw [times_length]; rfl) rfl rfl (by omega) _ hU4 hU5).mono ?_
      rintro e w6 ⟨g6, rfl, hs6, hU6, hf6⟩
      have hF6 := hF5.trans hf6
      clear hs6 hf6 hF5 hU4 hU5
      go_wp2_with fail
      obtain ⟨r9, hr9⟩ : ∃ r9, above (times (times (parts X) (parts X)) (parts X)) n 6 14 = r9 := ⟨_, rfl⟩
      have HS := Lib.hid (rs3 n j X HX.out r9 hr9)
      refine (above_any _ 14 g6 n 6 r9 (by rw [times_length, times_length]; rfl) (by omega) (by omega) hn hr9 _ hU6).mono ?_
      rintro e w9 ⟨rfl, rfl⟩
      clear hr9 hU6
      cases r9
      · go_wp2_with fail
        go_roundw
        case rel =>
          have e9 : root n 3 (j + 1) = X := HS.out
          refine ⟨j + 1, X, B / 2, by omega, rfl, by rw [HBD.out], Lib.hid e9, HB2, hF6⟩
        case measure => simp [intOf]; omega
      · go_wp2_with fail
        go_roundw
        case rel =>
          have e9 : root n 3 (j + 1) = r := HS.out.trans HR.out
          refine ⟨j + 1, r, B / 2, by omega, rfl, by rw [HBD.out], Lib.hid e9, HB2, hF6⟩
        case measure => simp [intOf]; omega
    · obtain rfl : j = 41 := by omega
      obtain rfl : B = 0 := HB.out.symm.trans bitN_41
      have e5 : IntKind.u32.wrap ((r : Int) % 4294967296) = ((r % 4294967296 : Nat) : Int) := by rw [IntKind.wrap_u32']; omega
      have HE5 := Lib.hid e5
      clear e5
      go_wp2_with fail
      go_ret
      exact ⟨ret_int (by rw [HR.out]; first | rfl | exact HE5.out | omega), hF⟩

theorem u32s_all (l : List Nat) : (u32s l).toArray.all (·.oneCell') = true := by
  rw [Array.all_eq_true_iff_forall_mem]
  intro v hv
  exact List.all_eq_true.1 (u32s_one l) v (by simpa using hv)
theorem puts_blk {w : World} {b : Nat} {t : TypeId} {cs : Array Value} (h : w.heap[b]? = some (.cells cs t (0, 0))) (us : List Value) (hs : us.length = cs.size) : (w.setCells b 0 us).heap[b]? = some (.cells us.toArray t (0, 0)) := by
  have h2 := Bk.puts us 0 w cs h
  have e : sets cs 0 us = us.toArray := by
    have := sets_whole (cs := cs) (us := us.toArray) (by rw [List.size_toArray, hs])
    simpa using this
  rw [e] at h2
  exact h2
/-- The first of a list, and zeros. -/
def padL (L : List Nat) (n i : Nat) : List Nat := L.take i ++ List.replicate (n - i) 0
theorem padL_len (L : List Nat) (n i : Nat) (hL : L.length = n) (hi : i ≤ n) : (padL L n i).length = n := by
  unfold padL
  rw [List.length_append, List.length_take, List.length_replicate]
  omega
theorem padL_set (L : List Nat) (n i : Nat) (hL : L.length = n) (hi : i < n) : (padL L n i).set i (L.getD i 0) = padL L n (i + 1) := by
  unfold padL
  have hl : (L.take i).length = i := by rw [List.length_take]; omega
  rw [List.set_append_right _ _ (by omega), hl, Nat.sub_self, show n - i = (n - (i + 1)) + 1 by omega, List.replicate_succ, List.set_cons_zero]
  have : L.take (i + 1) = L.take i ++ [L.getD i 0] := by
    rw [List.take_add_one, List.getElem?_eq_getElem (by omega), List.getD_eq_getElem?_getD, List.getElem?_eq_getElem (by omega)]
    rfl
  rw [this, List.append_assoc]
  rfl
theorem padL_all (L : List Nat) (n : Nat) (hL : L.length = n) : padL L n n = L := by
  unfold padL
  rw [Nat.sub_self, List.take_of_length_le (by omega), List.replicate_zero, List.append_nil]
theorem PR_lt : ∀ k, k < 64 → PR.getD k 0 < 65536 := by decide
theorem map_getD0 (L : List Nat) (f : Nat → Nat) (k : Nat) (hk : k < L.length) : (L.map f).getD k 0 = f (L.getD k 0) := by
  rw [List.getD_eq_getElem?_getD, List.getD_eq_getElem?_getD, List.getElem?_map, List.getElem?_eq_getElem hk]
  simp only [Option.map_some, Option.getD_some]
theorem take_getD0 (L : List Nat) (n k : Nat) (hk : k < n) : (L.take n).getD k 0 = L.getD k 0 := by
  rw [List.getD_eq_getElem?_getD, List.getD_eq_getElem?_getD, List.getElem?_take_of_lt hk]
theorem root3_at (k : Nat) (hk : k < 64) : root (PR.getD k 0) 3 41 % 4294967296 = Sh.KK.getD k 0 := by
  have h := map_getD0 PR (fun n => rt n 3 41 % 4294967296) k hk
  rw [roots3] at h
  rw [root_is _ _ (PR_lt k hk) (.inr rfl) 41 (by omega)]
  exact h.symm
theorem root2_at (k : Nat) (hk : k < 8) : root (PR.getD k 0) 2 41 % 4294967296 = V0.getD k 0 := by
  have h := map_getD0 (PR.take 8) (fun n => rt n 2 41 % 4294967296) k hk
  rw [roots2, take_getD0 _ _ _ hk] at h
  rw [root_is _ _ (PR_lt k (by omega)) (.inl rfl) 41 (by omega)]
  exact h.symm
set_option maxHeartbeats 8000000 in
theorem roots' (V KL : List Nat) (hVl : V.length = 8) (hKl : KL.length = 64) (hV : ∀ k, k < 8 → root (PR.getD k 0) 2 41 % 4294967296 = V.getD k 0) (hK : ∀ k, k < 64 → root (PR.getD k 0) 3 41 % 4294967296 = KL.getD k 0) (w : World) :
    Calls Try.prog 29 #[] w fun e w' => e = .returned (.tuple #[.agg (u32s V).toArray, .agg (u32s KL).toArray]) ∧ Frm0 w w' := by
  have HVl := Lib.hid hVl
  have HKl := Lib.hid hKl
  have HV := Lib.hid hV
  have HK := Lib.hid hK
  clear hVl hKl hV hK
  go_enter Try.func29, Try.ntmps29
  go_wp2_with (first
    | (refine wpList_alloc_any rfl 37 0 rfl rfl (.cells (u32s (List.replicate 8 0)).toArray 37) (by rfl) ?_; intro w1 hz1 hN1 hf1)
    | (refine wpList_alloc_any rfl 38 1 rfl rfl (.cells (u32s (List.replicate 64 0)).toArray 38) (by rfl) ?_; intro w2 hz2 hN2 hf2))
  have hN1 := hf2.blk hN1 (fun h => h)
  have hF2 := hf1.trans hf2
  rw [hz1] at hN2 hz2
  obtain ⟨D, hD⟩ : ∃ D, w.heap.size = D := ⟨_, rfl⟩
  have HD := Lib.hid hD
  simp only [hD, hz1] at hN1 hN2 hz2 ⊢
  clear hD hz1 hf1 hf2
  refine (primes_any _).mono ?_
  rintro e w3 ⟨v, rfl, hS, hf3⟩
  have hN1 := hf3.blk hN1 (fun h => h)
  have hN2 := hf3.blk hN2 (fun h => h)
  have hF3 := hF2.trans hf3
  have hs3 := hf3.size
  have hs3' : D + 2 ≤ w3.heap.size := by omega
  clear hs3 hf3 hF2 hz2
  have hSl : ∃ bb oo cc, v = .slice (some ⟨bb, oo, none⟩) 64 cc ∧ bb < w3.heap.size ∧ ∀ k, k < 64 → w3.cell? ⟨bb, oo + k, none⟩ = some (.int .i64 (PR.getD k 0 : Nat)) := by
    rcases hS with ⟨A, c, rfl, hn, _⟩ | ⟨bb, oo, cc, rfl, h0, h1, h2, h3, hc⟩
    · exact absurd hn (by decide)
    · exact ⟨bb, oo, cc, rfl, h3, fun k hk => hc k _ (ints_at PR k hk)⟩
  obtain ⟨bb, oo, cc, rfl, hbb, hcell⟩ := hSl
  have HC := Lib.hid hcell
  clear hcell hS
  go_wp2_with (first
    | (refine wpList_alloc_any rfl 37 3 rfl rfl (.cells (u32s (List.replicate 8 0)).toArray 37) (by rfl) ?_; intro w4 hz4 hN3 hf4)
    | (refine wpList_alloc_any rfl 38 4 rfl rfl (.cells (u32s (List.replicate 64 0)).toArray 38) (by rfl) ?_; intro w5 hz5 hN4 hf5))
  have hN3 := hf5.blk hN3 (fun h => h)
  have hF5 := hf4.trans hf5
  rw [hz4] at hN4 hz5
  obtain ⟨E, hE⟩ : ∃ E, w3.heap.size = E := ⟨_, rfl⟩
  have HE := Lib.hid hE
  simp only [hE, hz4] at hN3 hN4 hz5 hbb hs3' ⊢
  clear hE hz4 hf4 hf5 hz5
  go_loopw [5] (fun i wr => ∃ (k : Nat), k ≤ 64 ∧ i = .int .i64 k ∧ Wd wr E 37 (padL V 8 (min k 8)) ∧ Wd wr (E + 1) 38 (padL KL 64 k) ∧ Frm0 w3 wr) (fun i _ => 64 - (intOf i).toNat)
  case atStart => exact ⟨0, by omega, rfl, hN3, hN4, hF5⟩
  case round =>
    clear hN3 hN4 hF5
    obtain ⟨k, hk, rfl, hWV, hWK, hF⟩ := hrel
    by_cases hlt : k < 64
    · have hki : (k : Int) < 64 := by omega
      have hki0 : (0 : Int) ≤ (k : Int) := by omega
      have hck := hF.cell (HC.out k hlt) (by intro h; exact h)
      have hR3 := Lib.hid (HK.out k hlt)
      have hp := PR_lt k hlt
      have HRt3 := Lib.hid (fun w => root3_any (PR.getD k 0) hp w)
      have HRt2 := Lib.hid (fun w => root2_any (PR.getD k 0) hp w)
      rw [hR3.out] at HRt3
      have HPK := Lib.hid (padL_set _ _ _ HKl.out hlt)
      obtain ⟨y, hy⟩ : ∃ y, KL.getD k 0 = y := ⟨_, rfl⟩
      rw [hy] at HRt3 HPK
      clear hy hR3
      by_cases h8 : k < 8
      · have hR2 := Lib.hid (HV.out k h8)
        rw [hR2.out] at HRt2
        have HPV := Lib.hid (padL_set _ _ _ HVl.out h8)
        obtain ⟨x, hx⟩ : ∃ x, V.getD k 0 = x := ⟨_, rfl⟩
        rw [hx] at HRt2 HPV
        clear hx hR2
        have hmin : min k 8 = k := by omega
        rw [hmin] at hWV
        have h8i : (k : Int) < 8 := by omega
        have hVf := hWV.cell k (by rw [padL_len _ _ _ HVl.out (by omega)]; exact h8)
        have hVr := hWV.free k
        clear hmin hp
        generalize PR.getD k 0 = p at *
        go_wp2_with fail
        refine (HRt2.out _).mono ?_
        rintro e w6 ⟨rfl, hf6⟩
        have hck := hf6.cell hck (by intro h; exact h)
        have hWV := hWV.frm hf6 (fun h => h)
        have hWK := hWK.frm hf6 (fun h => h)
        have hF := hF.trans hf6
        have hVf := hf6.cell hVf (by intro h; exact h)
        have hVr := hWV.free k
        have hE6 := hWK.lt
        clear hf6
        go_wp2_with fail
        have hWV := hWV.set k x
        rw [HPV.out] at hWV
        have hWK := hWK.frm (S := fun i => i = E) ((Frm.refl (fun i => i = E) w6).setCell ⟨E, k, none⟩ (fun _ => rfl) (.int .u32 (x : Nat))) (by show ¬ E + 1 = E; omega)
        have hck := ((Frm.refl (fun i => i = E) w6).setCell ⟨E, k, none⟩ (fun _ => rfl) (.int .u32 (x : Nat))).cell hck (by show ¬ bb = E; omega)
        have hF := hF.setCell ⟨E, k, none⟩ (fun h => absurd h (by show ¬ E < w3.heap.size; rw [HE.out]; exact Nat.lt_irrefl E)) (.int .u32 (x : Nat))
        clear hVf hVr
        generalize w6.setCell ⟨E, k, none⟩ (.int .u32 (x : Nat)) = w7 at *
        refine (HRt3.out _).mono ?_
        rintro e w8 ⟨rfl, hf8⟩
        have hWV := hWV.frm hf8 (fun h => h)
        have hWK := hWK.frm hf8 (fun h => h)
        have hF := hF.trans hf8
        have hKf := hWK.cell k (by rw [padL_len _ _ _ HKl.out (by omega)]; exact hlt)
        have hKr := hWK.free k
        go_wp2_with fail
        go_roundw
        case rel =>
          have hWK := hWK.set k y
          rw [HPK.out] at hWK
          exact ⟨k + 1, by omega, by go_num, by rw [show min (k + 1) 8 = k + 1 by omega]; exact hWV.frm (S := fun i => i = E + 1) ((Frm.refl (fun i => i = E + 1) w8).setCell ⟨E + 1, k, none⟩ (fun _ => rfl) _) (by show ¬ E = E + 1; omega), hWK, hF.setCell ⟨E + 1, k, none⟩ (fun h => absurd h (by show ¬ E + 1 < w3.heap.size; rw [HE.out]; omega)) _⟩
        case measure => simp [intOf]; omega
      · have hmin : min k 8 = 8 := by omega
        rw [hmin] at hWV
        have h8i : ¬ (k : Int) < 8 := by omega
        have h8d : decide ((k : Int) < 8) = false := decide_eq_false h8i
        clear hmin hp HRt2
        generalize PR.getD k 0 = p at *
        go_wp2_with fail
        refine (HRt3.out _).mono ?_
        rintro e w8 ⟨rfl, hf8⟩
        have hWV := hWV.frm hf8 (fun h => h)
        have hWK := hWK.frm hf8 (fun h => h)
        have hF := hF.trans hf8
        have hKf := hWK.cell k (by rw [padL_len _ _ _ HKl.out (by omega)]; exact hlt)
        have hKr := hWK.free k
        go_wp2_with fail
        go_roundw
        case rel =>
          have hWK := hWK.set k y
          rw [HPK.out] at hWK
          exact ⟨k + 1, by omega, by go_num, by rw [show min (k + 1) 8 = 8 by omega]; exact hWV.frm (S := fun i => i = E + 1) ((Frm.refl (fun i => i = E + 1) w8).setCell ⟨E + 1, k, none⟩ (fun _ => rfl) _) (by show ¬ E = E + 1; omega), hWK, hF.setCell ⟨E + 1, k, none⟩ (fun h => absurd h (by show ¬ E + 1 < w3.heap.size; rw [HE.out]; omega)) _⟩
        case measure => simp [intOf]; omega
    · obtain rfl : k = 64 := by omega
      rw [show min 64 8 = 8 from rfl, padL_all _ _ HVl.out] at hWV
      rw [padL_all _ _ HKl.out] at hWK
      have hb0 := hF.blk hN1 (fun h => h)
      have hb1 := hF.blk hN2 (fun h => h)
      have hFw := hF3.trans hF
      have hs := hFw.size
      have hV8 : (u32s V).length = 8 := by rw [u32s_len, HVl.out]
      have hK64 : (u32s KL).length = 64 := by rw [u32s_len, HKl.out]
      have hdw := HD.out
      go_wp2_with fail
      have hWVd : Wd wr.drew E 37 V := hWV
      have hWKd : Wd wr.drew (E + 1) 38 KL := hWK
      have hb0d : wr.drew.heap[D]? = some (.cells (u32s (List.replicate 8 0)).toArray 37 (0, 0)) := hb0
      have hb1d : wr.drew.heap[D + 1]? = some (.cells (u32s (List.replicate 64 0)).toArray 38 (0, 0)) := hb1
      have hFd : Frm0 w wr.drew := hFw.drew
      have HSS := Lib.hid hs3'
      clear hWV hWK hb0 hb1 hFw hF hs hs3'
      refine wp_region_held_drew (S := fun w9 => Frm (fun i => i = D ∨ i = D + 1) wr.drew w9) (by kernel_rfl) (Frm.refl _ _) (fun hHeld => ?_)
      refine wpAnyH_take (i := 0) (v := .agg (u32s V).toArray) rfl (by kernel_rfl) (by kernel_rfl) (by kernel_rfl) (fun _ _ _ h => h) (yieldsIf_load_mid (by rfl) 37 (.tmp 3) rfl E 0 rfl (u32s V) _ (fun w9 h9 => Bk.range (h9.blk hWVd (by have := HSS.out; omega)) (u32s V) rfl) Try.underlying37 rfl (by rw [iV, hV8])) (by assumption) ?_
      (try simp only [Act.put, List.getElem_toArray, List.getElem_cons_succ, List.getElem_cons_zero, List.setIfInBounds_toArray, List.set_cons_zero, List.set_cons_succ])
      refine wpAnyH_take (i := 1) (v := .agg (u32s KL).toArray) rfl (by kernel_rfl) (by kernel_rfl) (by kernel_rfl) (fun _ _ _ h => h) (yieldsIf_load_mid (by rfl) 38 (.tmp 4) rfl (E + 1) 0 rfl (u32s KL) _ (fun w9 h9 => Bk.range (h9.blk hWKd (by have := HSS.out; omega)) (u32s KL) rfl) Try.underlying38 rfl (by rw [iW, hK64])) (by assumption) ?_
      (try simp only [Act.put, List.getElem_toArray, List.getElem_cons_succ, List.getElem_cons_zero, List.setIfInBounds_toArray, List.set_cons_zero, List.set_cons_succ])
      have ht0 : wr.drew.there D 0 (u32s V).toArray.size := Bk.there hb0d 0 _ (by rw [List.size_toArray, hV8, zeros8]; exact Nat.le_refl _)
      have ht1 : wr.drew.there (D + 1) 0 (u32s KL).toArray.size := Bk.there hb1d 0 _ (by rw [List.size_toArray, hK64, zeros64]; exact Nat.le_refl _)
      have hi0 : (Try.prog.info? 37).map (·.size) = some (u32s V).toArray.size := by rw [iV, List.size_toArray, hV8]
      have hi1 : (Try.prog.info? 38).map (·.size) = some (u32s KL).toArray.size := by rw [iW, List.size_toArray, hK64]
      refine wpAnyH_ready (rs := [2]) (by kernel_rfl) (by simp) ?_
      refine AllReadyH.cons rfl (fun K hK => ?_) AllReadyH.nil
      · rw [if_pos (by rfl)]
        refine wp_store_mid 37 (.tmp 0) (.tmp 27) rfl D 0 (u32s V).toArray rfl rfl ht0 hi0 (u32s_all V) ?_
        have hs1 := Frm.puts (S := fun i => i = D ∨ i = D + 1) D (fun _ => .inl rfl) (u32s V) 0 _ (Frm.refl _ wr.drew)
        have hG := Frm.puts (S := fun i => i = D) D (fun _ => rfl) (u32s V) 0 _ (Frm.refl _ wr.drew)
        refine hK.out _ _ hs1 (fun hHeld2 => ?_)
        clear hK K
        (try simp only [Act.put, List.getElem_toArray, List.getElem_cons_succ, List.getElem_cons_zero, List.setIfInBounds_toArray, List.set_cons_zero, List.set_cons_succ])
        have hc1 := hG.blk hb1d (by omega)
        have hc0 := puts_blk hb0d (u32s V) (by rw [hV8, zeros8])
        refine wpAnyH_ready (rs := [3]) (by kernel_rfl) (by simp) ?_
        refine AllReadyH.cons rfl (fun K hK => ?_) AllReadyH.nil
        rw [if_pos (by rfl)]
        refine wp_store_mid 38 (.tmp 1) (.tmp 28) rfl (D + 1) 0 (u32s KL).toArray rfl rfl (Bk.there hc1 0 _ (by rw [List.size_toArray, hK64, zeros64]; exact Nat.le_refl _)) hi1 (u32s_all KL) ?_
        have hs2 := Frm.puts (S := fun i => i = D ∨ i = D + 1) (D + 1) (fun _ => .inr rfl) (u32s KL) 0 _ hs1
        have hG2 := Frm.puts (S := fun i => i = D + 1) (D + 1) (fun _ => rfl) (u32s KL) 0 _ (Frm.refl _ (wr.drew.setCells D 0 (u32s V)))
        refine hK.out _ _ hs2 (fun hHeld3 => ?_)
        clear hK K
        (try simp only [Act.put, List.getElem_toArray, List.getElem_cons_succ, List.getElem_cons_zero, List.setIfInBounds_toArray, List.set_cons_zero, List.set_cons_succ])
        have hd0 := hG2.blk hc0 (by omega)
        have hd1 := puts_blk hc1 (u32s KL) (by rw [hK64, zeros64])
        refine wpAnyH_done (by kernel_rfl) ?_ _
        go_wp2_with fail
        (try simp only [Exit.inBlock, Exit.then])
        refine ret_cell2 rfl Try.underlying37 rfl iV hd0 hV8 rfl Try.underlying38 rfl iW hd1 hK64 rfl rfl ?_
        exact ⟨rfl, hFd.then_ hs2 (fun i hi e => by omega)⟩
theorem roots_any (w : World) : Calls Try.prog 29 #[] w fun e w' => e = .returned (.tuple #[.agg (u32s V0).toArray, .agg (u32s Sh.KK).toArray]) ∧ Frm0 w w' := roots' V0 Sh.KK V0_len KK_len root2_at root3_at w
end Rt
end Go.Proofs.Ytmpbgnopejeelaa
