/- Names compared. -/
import Derived.Test.YthggbohoedfkpaaIxb
import Derived.Test.YthggbohoedfkpaaL
import Derived.Deep.RegionHeld3
import Derived.Deep.QuietTactic
import Derived.BigQuiet
namespace Go.Proofs.Ythggbohoedfkpaa
open Go.RowKit
set_option linter.unusedVariables false
set_option linter.unusedSimpArgs false
set_option maxRecDepth 100000
namespace Ix
theorem iE : (Try.prog.info? 52).map (·.size) = some 14 := by kernel_rfl
theorem iN : (Try.prog.info? 105).map (·.size) = some 2 := by kernel_rfl
theorem less_eq2 : ∀ (x y : List UInt8), Op.bytesLess x y = decide (x < y)
  | x, [] => by cases x <;> simp [Op.bytesLess]
  | [], y :: l => by simp [Op.bytesLess]
  | a :: x, b :: y => by
    simp only [Op.bytesLess, less_eq2 x y]
    by_cases h1 : a < b
    · simp [h1, List.cons_lt_cons_iff]
    · by_cases h2 : a = b
      · subst h2; simp [List.cons_lt_cons_iff]
      · simp [h1, h2, List.cons_lt_cons_iff]
def cI (a b : Int) : Int := if a < b then -1 else if b < a then 1 else 0
def cS (a b : List UInt8) : Int := if a < b then -1 else if b < a then 1 else 0
theorem cI_ord (a b : Nam) : (if cI a.1 b.1 ≠ 0 then cI a.1 b.1 else cS a.2 b.2) = ord a b := by
  unfold ord cI cS
  rcases Int.lt_trichotomy a.1 b.1 with h | h | h
  · have := (ahead_iff a b).2 (.inl h)
    simp [this, h]
  · have e1 : ahead a b = decide (a.2 < b.2) := by unfold ahead; simp [h]
    have e2 : a = b ↔ a.2 = b.2 := ⟨fun e => by rw [e], fun e => Prod.ext h e⟩
    rw [e1, h]
    rcases ll_tri a.2 b.2 with k | k | k
    · simp [k]
    · simp [e2, k, ll_irrefl]
    · have h1 : ¬ a.2 < b.2 := fun x => ll_irrefl _ (ll_trans x k)
      have h2 : ¬ a.2 = b.2 := fun x => by rw [x] at k; exact ll_irrefl _ k
      simp [e2, k, h1, h2]
  · have e1 : ahead a b = false := ah_asymm ((ahead_iff b a).2 (.inl h))
    have h1 : ¬ a.1 < b.1 := by omega
    have h2 : ¬ a = b := fun e => by rw [e] at h; omega
    simp [e1, h, h1, h2]
section
variable {w w1 : World}
theorem nan_i (x : Int) (w : World) : Calls Try.prog 81 #[.int .i64 x] w fun e w' => e = .returned (.bool false) ∧ w = w' := by
  have q : (x != x) = false := by simp
  go_enter Try.func81, Try.ntmps81
  go_wp2
  go_ret
  exact ⟨rfl, rfl⟩
theorem nan_s (x : ByteArray) (w : World) : Calls Try.prog 82 #[.string x] w fun e w' => e = .returned (.bool false) ∧ w = w' := by
  have q : (x.toList != x.toList) = false := by simp
  go_enter Try.func82, Try.ntmps82
  go_wp2
  go_ret
  exact ⟨rfl, rfl⟩
theorem cmpi_any (a b : Int) (w : World) : Calls Try.prog 77 #[.int .i64 a, .int .i64 b] w fun e w' => e = .returned (.int .i64 (cI a b)) ∧ w = w' := by
  unfold cI
  by_cases h1 : a < b
  · have d1 : decide (a < b) = true := decide_eq_true h1
    rw [if_pos h1]
    go_enter Try.func77, Try.ntmps77
    go_wp2_with fail
    refine (nan_i a _).mono ?_
    rintro e w' ⟨rfl, rfl⟩
    go_wp2_with fail
    refine (nan_i b _).mono ?_
    rintro e w' ⟨rfl, rfl⟩
    go_wp2
    go_ret
    exact ⟨rfl, rfl⟩
  · have d1 : decide (a < b) = false := decide_eq_false h1
    rw [if_neg h1]
    by_cases h2 : b < a
    · have d2 : decide (b < a) = true := decide_eq_true h2
      rw [if_pos h2]
      go_enter Try.func77, Try.ntmps77
      go_wp2_with fail
      refine (nan_i a _).mono ?_
      rintro e w' ⟨rfl, rfl⟩
      go_wp2_with fail
      refine (nan_i b _).mono ?_
      rintro e w' ⟨rfl, rfl⟩
      go_wp2
      go_ret
      exact ⟨rfl, rfl⟩
    · have d2 : decide (b < a) = false := decide_eq_false h2
      rw [if_neg h2]
      go_enter Try.func77, Try.ntmps77
      go_wp2_with fail
      refine (nan_i a _).mono ?_
      rintro e w' ⟨rfl, rfl⟩
      go_wp2_with fail
      refine (nan_i b _).mono ?_
      rintro e w' ⟨rfl, rfl⟩
      go_wp2
      go_ret
      exact ⟨rfl, rfl⟩
theorem cmps_any (a b : ByteArray) (w : World) : Calls Try.prog 78 #[.string a, .string b] w fun e w' => e = .returned (.int .i64 (cS a.toList b.toList)) ∧ w = w' := by
  unfold cS
  by_cases h1 : a.toList < b.toList
  · have d1 : Op.bytesLess a.toList b.toList = true := by rw [less_eq2]; exact decide_eq_true h1
    rw [if_pos h1]
    go_enter Try.func78, Try.ntmps78
    go_wp2_with fail
    refine (nan_s a _).mono ?_
    rintro e w' ⟨rfl, rfl⟩
    go_wp2_with fail
    refine (nan_s b _).mono ?_
    rintro e w' ⟨rfl, rfl⟩
    go_wp2
    go_ret
    exact ⟨rfl, rfl⟩
  · have d1 : Op.bytesLess a.toList b.toList = false := by rw [less_eq2]; exact decide_eq_false h1
    rw [if_neg h1]
    by_cases h2 : b.toList < a.toList
    · have d2 : Op.bytesLess b.toList a.toList = true := by rw [less_eq2]; exact decide_eq_true h2
      have d3 : (a.toList == b.toList) = false := beq_eq_false_iff_ne.2 (fun e => by rw [e] at h2; exact ll_irrefl _ h2)
      rw [if_pos h2]
      go_enter Try.func78, Try.ntmps78
      go_wp2_with fail
      refine (nan_s a _).mono ?_
      rintro e w' ⟨rfl, rfl⟩
      go_wp2_with fail
      refine (nan_s b _).mono ?_
      rintro e w' ⟨rfl, rfl⟩
      go_wp2
      go_ret
      exact ⟨rfl, rfl⟩
    · have d2 : Op.bytesLess b.toList a.toList = false := by rw [less_eq2]; exact decide_eq_false h2
      have d3 : (a.toList == b.toList) = true := beq_iff_eq.2 (by rcases ll_tri a.toList b.toList with k | k | k; exact absurd k h1; exact k; exact absurd k h2)
      rw [if_neg h2]
      go_enter Try.func78, Try.ntmps78
      go_wp2_with fail
      refine (nan_s a _).mono ?_
      rintro e w' ⟨rfl, rfl⟩
      go_wp2_with fail
      refine (nan_s b _).mono ?_
      rintro e w' ⟨rfl, rfl⟩
      go_wp2
      go_ret
      exact ⟨rfl, rfl⟩
theorem or2_any (x y : Int) (g : Nat) (w : World) (hX : w.heap[g]? = some (.cells #[.int .i64 x, .int .i64 y] 3 (0, 0))) : Calls Try.prog 76 #[.slice (some ⟨g, 0, none⟩) 2 2] w fun e w' => e = .returned (.int .i64 (if x ≠ 0 then x else y)) ∧ w = w' := by
  obtain ⟨c0, c1⟩ := Bk.c2 hX
  by_cases h1 : x = 0
  · subst h1
    rw [if_neg (by simp)]
    by_cases h2 : y = 0
    · subst h2
      go_enter Try.func76, Try.ntmps76
      go_wp2_with fail
      go_loop [8] (fun i => ∃ k : Nat, k ≤ 2 ∧ i = .int .i64 k) (fun i => 2 - (intOf i).toNat)
      case atStart => exact ⟨0, by decide, rfl⟩
      case round =>
        obtain ⟨k, hk, rfl⟩ := hrel
        rcases (by omega : k = 0 ∨ k = 1 ∨ k = 2) with rfl | rfl | rfl
        · go_wp2
          go_round
          case rel => exact ⟨1, by decide, by go_num⟩
          case measure => simp [intOf]
        · go_wp2
          go_round
          case rel => exact ⟨2, by decide, by go_num⟩
          case measure => simp [intOf]
        · go_wp2
          go_ret
          exact ⟨rfl, rfl⟩
    · have q : (y != 0) = true := by simp [h2]
      have q' : (y == 0) = false := beq_eq_false_iff_ne.2 h2
      go_enter Try.func76, Try.ntmps76
      go_wp2_with fail
      go_loop [8] (fun i => ∃ k : Nat, k ≤ 1 ∧ i = .int .i64 k) (fun i => 2 - (intOf i).toNat)
      case atStart => exact ⟨0, by decide, rfl⟩
      case round =>
        obtain ⟨k, hk, rfl⟩ := hrel
        rcases (by omega : k = 0 ∨ k = 1) with rfl | rfl
        · go_wp2
          go_round
          case rel => exact ⟨1, by decide, by go_num⟩
          case measure => simp [intOf]
        · go_wp2
          go_ret
          exact ⟨rfl, rfl⟩
  · have q : (x != 0) = true := by simp [h1]
    have q' : (x == 0) = false := beq_eq_false_iff_ne.2 h1
    rw [if_pos h1]
    go_enter Try.func76, Try.ntmps76
    go_wp2_with fail
    go_loop [8] (fun i => i = .int .i64 0) (fun i => 2 - (intOf i).toNat)
    case atStart => rfl
    case round =>
      have e := hrel
      subst e
      go_wp2
      go_ret
      exact ⟨rfl, rfl⟩
set_option maxHeartbeats 1000000 in
theorem order_any (t u : Int) (k m : ByteArray) (w : World) : Calls Try.prog 70 #[.agg #[.int .i64 t, .string k], .agg #[.int .i64 u, .string m]] w fun e w' => e = .returned (.int .i64 (ord (t, k.toList) (u, m.toList))) ∧ Frm0 w w' := by
  have hc := cI_ord (t, k.toList) (u, m.toList)
  simp only at hc
  rw [← hc]
  obtain ⟨z, hz⟩ : ∃ z, (if cI t u ≠ 0 then cI t u else cS k.toList m.toList) = z := ⟨_, rfl⟩
  have HO := Lib.hid (fun (g : Nat) (w : World) hX => or2_any (cI t u) (cS k.toList m.toList) g w hX)
  rw [hz] at HO ⊢
  clear hz
  have cmpi_any := fun (a : Int) (b : Int) (w : World) => cmpi_any a b w
  have hb0 := Bk.alloc (Bk.new w (.cells #[.int .i64 t, .string k] 105)) (.cells #[.int .i64 u, .string m] 105)
  have hb1 := Bk.new (w.alloc (.cells #[.int .i64 t, .string k] 105)) (.cells #[.int .i64 u, .string m] 105)
  rw [show (w.alloc (.cells #[.int .i64 t, .string k] 105)).heap.size = w.heap.size + 1 by simp] at hb1
  have hF := ((Frm.refl (fun _ => False) w).alloc (.cells #[.int .i64 t, .string k] 105)).alloc (.cells #[.int .i64 u, .string m] 105)
  go_enter Try.func70, Try.ntmps70
  go_upto_region 1 with (fail)
  generalize (w.alloc (.cells #[.int .i64 t, .string k] 105)).alloc (.cells #[.int .i64 u, .string m] 105) = W at *
  generalize w.heap.size = b at *
  have HC := Lib.hid (fun (w9 : World) (hf : Frm0 W w9) => And.intro (hf.cell (Bk.c2 hb0).1 (fun h => h)) (And.intro (hf.cell (Bk.c2 hb0).2 (fun h => h)) (And.intro (hf.cell (Bk.c2 hb1).1 (fun h => h)) (hf.cell (Bk.c2 hb1).2 (fun h => h)))))
  clear hb0 hb1 hc cmpi_any
  refine wp_region_held_drew (S := fun w9 => Frm0 W w9) (by kernel_rfl) ((Frm.refl (fun _ => False) _).drew) (fun hHeld => ?_)
  refine wpAnyH_take (i := 0) (v := ?_) rfl (by kernel_rfl) (by kernel_rfl) (by kernel_rfl) (fun _ _ _ h => h) (Or.inl ⟨by rfl, ?_⟩) (by assumption) ?_
  rotate_left 1
  focus (intro w hSw; (try dsimp only at hSw); obtain ⟨c0, c1, c2, c3⟩ := HC.out _ hSw; go_simp; (try with_reducible rfl))
  (try simp only [Act.put, List.getElem_toArray, List.getElem_cons_succ, List.getElem_cons_zero, List.setIfInBounds_toArray, List.set_cons_zero, List.set_cons_succ])
  refine wpAnyH_take (i := 1) (v := ?_) rfl (by kernel_rfl) (by kernel_rfl) (by kernel_rfl) (fun _ _ _ h => h) (Or.inl ⟨by rfl, ?_⟩) (by assumption) ?_
  rotate_left 1
  focus (intro w hSw; (try dsimp only at hSw); obtain ⟨c0, c1, c2, c3⟩ := HC.out _ hSw; go_simp; (try with_reducible rfl))
  (try simp only [Act.put, List.getElem_toArray, List.getElem_cons_succ, List.getElem_cons_zero, List.setIfInBounds_toArray, List.set_cons_zero, List.set_cons_succ])
  refine wpAnyH_take (i := 2) (v := ?_) rfl (by kernel_rfl) (by kernel_rfl) (by kernel_rfl) (fun _ _ _ h => h) (Or.inl ⟨by rfl, ?_⟩) (by assumption) ?_
  rotate_left 1
  focus (intro w hSw; (try dsimp only at hSw); obtain ⟨c0, c1, c2, c3⟩ := HC.out _ hSw; go_simp; (try with_reducible rfl))
  (try simp only [Act.put, List.getElem_toArray, List.getElem_cons_succ, List.getElem_cons_zero, List.setIfInBounds_toArray, List.set_cons_zero, List.set_cons_succ])
  refine wpAnyH_take (i := 3) (v := ?_) rfl (by kernel_rfl) (by kernel_rfl) (by kernel_rfl) (fun _ _ _ h => h) (Or.inl ⟨by rfl, ?_⟩) (by assumption) ?_
  rotate_left 1
  focus (intro w hSw; (try dsimp only at hSw); obtain ⟨c0, c1, c2, c3⟩ := HC.out _ hSw; go_simp; (try with_reducible rfl))
  (try simp only [Act.put, List.getElem_toArray, List.getElem_cons_succ, List.getElem_cons_zero, List.setIfInBounds_toArray, List.set_cons_zero, List.set_cons_succ])
  refine wpAnyH_take (i := 5) (v := ?_) rfl (by kernel_rfl) (by kernel_rfl) (by kernel_rfl) (fun _ _ _ h => h) (Or.inl ⟨by rfl, ?_⟩) (by assumption) ?_
  rotate_left 1
  focus (intro w hSw; (try dsimp only at hSw); obtain ⟨c0, c1, c2, c3⟩ := HC.out _ hSw; go_simp; (try with_reducible rfl))
  (try simp only [Act.put, List.getElem_toArray, List.getElem_cons_succ, List.getElem_cons_zero, List.setIfInBounds_toArray, List.set_cons_zero, List.set_cons_succ])
  refine wpAnyH_take (i := 6) (v := ?_) rfl (by kernel_rfl) (by kernel_rfl) (by kernel_rfl) (fun _ _ _ h => h) (Or.inl ⟨by rfl, ?_⟩) (by assumption) ?_
  rotate_left 1
  focus (intro w hSw; (try dsimp only at hSw); obtain ⟨c0, c1, c2, c3⟩ := HC.out _ hSw; go_simp; (try with_reducible rfl))
  (try simp only [Act.put, List.getElem_toArray, List.getElem_cons_succ, List.getElem_cons_zero, List.setIfInBounds_toArray, List.set_cons_zero, List.set_cons_succ])
  refine wpAnyH_take (i := 7) (v := ?_) rfl (by kernel_rfl) (by kernel_rfl) (by kernel_rfl) (fun _ _ _ h => h) (Or.inl ⟨by rfl, ?_⟩) (by assumption) ?_
  rotate_left 1
  focus (intro w hSw; (try dsimp only at hSw); obtain ⟨c0, c1, c2, c3⟩ := HC.out _ hSw; go_simp; (try with_reducible rfl))
  (try simp only [Act.put, List.getElem_toArray, List.getElem_cons_succ, List.getElem_cons_zero, List.setIfInBounds_toArray, List.set_cons_zero, List.set_cons_succ])
  refine wpAnyH_take (i := 8) (v := ?_) rfl (by kernel_rfl) (by kernel_rfl) (by kernel_rfl) (fun _ _ _ h => h) (Or.inl ⟨by rfl, ?_⟩) (by assumption) ?_
  rotate_left 1
  focus (intro w hSw; (try dsimp only at hSw); obtain ⟨c0, c1, c2, c3⟩ := HC.out _ hSw; go_simp; (try with_reducible rfl))
  (try simp only [Act.put, List.getElem_toArray, List.getElem_cons_succ, List.getElem_cons_zero, List.setIfInBounds_toArray, List.set_cons_zero, List.set_cons_succ])
  refine wpAnyH_ready (rs := [4]) (by kernel_rfl) (by simp) ?_
  refine AllReadyH.cons rfl (fun K hK => ?_) AllReadyH.nil
  go_simp
  refine (cmpi_any _ _ _).mono ?_
  rintro e w9 ⟨rfl, rfl⟩
  (try go_wp2_with fail)
  refine hK.out _ _ (by assumption) (fun hHeld => ?_)
  clear hK K
  (try simp only [Act.put, List.getElem_toArray, List.getElem_cons_succ, List.getElem_cons_zero, List.setIfInBounds_toArray, List.set_cons_zero, List.set_cons_succ])
  refine wpAnyH_ready (rs := [9]) (by kernel_rfl) (by simp) ?_
  refine AllReadyH.cons rfl (fun K hK => ?_) AllReadyH.nil
  go_simp
  refine (cmps_any _ _ _).mono ?_
  rintro e w9 ⟨rfl, rfl⟩
  (try go_wp2_with fail)
  refine hK.out _ _ (by assumption) (fun hHeld => ?_)
  clear hK K
  (try simp only [Act.put, List.getElem_toArray, List.getElem_cons_succ, List.getElem_cons_zero, List.setIfInBounds_toArray, List.set_cons_zero, List.set_cons_succ])
  refine wpAnyH_ready (rs := [10]) (by kernel_rfl) (by simp) ?_
  refine AllReadyH.cons rfl (fun K hK => ?_) AllReadyH.nil
  rw [if_pos (by rfl)]
  go_simp
  refine hK.out _ _ (Frm.alloc ((Frm.refl (fun _ => False) W).drew) _) (fun hHeld => ?_)
  clear hK K
  (try simp only [Act.put, List.getElem_toArray, List.getElem_cons_succ, List.getElem_cons_zero, List.setIfInBounds_toArray, List.set_cons_zero, List.set_cons_succ])
  refine wpAnyH_ready (rs := [11]) (by kernel_rfl) (by simp) ?_
  refine AllReadyH.cons rfl (fun K hK => ?_) AllReadyH.nil
  go_simp
  refine (HO.out W.heap.size _ (Bk.new W.drew _)).mono ?_
  rintro e w9 ⟨rfl, rfl⟩
  (try go_wp2_with fail)
  refine hK.out _ _ (by assumption) (fun hHeld => ?_)
  clear hK K
  (try simp only [Act.put, List.getElem_toArray, List.getElem_cons_succ, List.getElem_cons_zero, List.setIfInBounds_toArray, List.set_cons_zero, List.set_cons_succ])
  refine wpAnyH_take (i := 12) (v := ?_) rfl (by kernel_rfl) (by kernel_rfl) (by kernel_rfl) (fun _ _ _ h => h) (Or.inl ⟨by rfl, ?_⟩) (by assumption) ?_
  rotate_left 1
  focus (intro w hSw; (try dsimp only at hSw); go_simp; (try with_reducible rfl))
  (try simp only [Act.put, List.getElem_toArray, List.getElem_cons_succ, List.getElem_cons_zero, List.setIfInBounds_toArray, List.set_cons_zero, List.set_cons_succ])
  refine wpAnyH_done (by kernel_rfl) ?_ _
  go_wp2
  go_returns
  exact ⟨rfl, hF.trans (((Frm.refl _ W).drew).alloc _)⟩
set_option maxHeartbeats 1000000 in
theorem of_any (e : En) (w : World) : Calls Try.prog 53 #[.agg e.cells.toArray] w fun e_ w' => e_ = .returned (.agg #[.int .i64 e.tenant, .string e.key]) ∧ Frm0 w w' := by
  have hb := Bk.new w (.cells e.cells.toArray 52)
  have hz := Bk.new (w.alloc (.cells e.cells.toArray 52)) (.cells #[.int .i64 0, .string ⟨#[]⟩] 105)
  have hb2 := Bk.alloc hb (.cells #[.int .i64 0, .string ⟨#[]⟩] 105)
  have hF := ((Frm.refl (fun _ => False) w).alloc (.cells e.cells.toArray 52)).alloc (.cells #[.int .i64 0, .string ⟨#[]⟩] 105)
  rw [show (w.alloc (.cells e.cells.toArray 52)).heap.size = w.heap.size + 1 by simp] at hz
  go_enter Try.func53, Try.ntmps53
  go_upto_region 1 with (fail)
  generalize (w.alloc (.cells e.cells.toArray 52)).alloc (.cells #[.int .i64 0, .string ⟨#[]⟩] 105) = W at *
  generalize hbe : w.heap.size = b at *
  have x0 : W.cell? ⟨b, 0, none⟩ = some (.int .i64 e.tenant) := by rw [Bk.cell hb2]; rfl
  have x1 : W.cell? ⟨b, 1, none⟩ = some (.string e.key) := by rw [Bk.cell hb2]; rfl
  go_wp2_with (refine wpList_store_blk rfl 105 (.tmp 2) (.tmp 7) rfl hz rfl rfl iN (us := #[.int .i64 e.tenant, .string e.key]) rfl rfl rfl ?_; intro w3 hb3 hf3)
  (try simp only [Exit.inBlock, Exit.then])
  refine ret_cell (l := [.int .i64 e.tenant, .string e.key]) rfl Try.underlying105 rfl iN hb3 rfl rfl rfl ?_
  exact ⟨rfl, hF.then_ hf3 (fun i hi e => by omega)⟩
set_option maxHeartbeats 1000000 in
theorem clos_any (e : En) (t : Int) (k : ByteArray) (w : World) : Calls Try.prog 69 #[.agg e.cells.toArray, .agg #[.int .i64 t, .string k]] w fun e_ w' => e_ = .returned (.int .i64 (ord e.nm (t, k.toList))) ∧ Frm0 w w' := by
  have hb := Bk.alloc (Bk.new w (.cells e.cells.toArray 52)) (.cells #[.int .i64 t, .string k] 105)
  have hz := Bk.new (w.alloc (.cells e.cells.toArray 52)) (.cells #[.int .i64 t, .string k] 105)
  have hF := ((Frm.refl (fun _ => False) w).alloc (.cells e.cells.toArray 52)).alloc (.cells #[.int .i64 t, .string k] 105)
  rw [show (w.alloc (.cells e.cells.toArray 52)).heap.size = w.heap.size + 1 by simp] at hz
  go_enter Try.func69, Try.ntmps69
  go_upto_region 1 with (fail)
  generalize (w.alloc (.cells e.cells.toArray 52)).alloc (.cells #[.int .i64 t, .string k] 105) = W at *
  generalize hbe : w.heap.size = b at *
  have HC := Lib.hid (fun (w9 : World) (hf : Frm0 W w9) => And.intro (hf.blk hb (fun h => h)) (hf.blk hz (fun h => h)))
  clear hb hz
  refine wp_region_held_drew (S := fun w9 => Frm0 W w9) (by kernel_rfl) ((Frm.refl (fun _ => False) _).drew) (fun hHeld => ?_)
  refine wpAnyH_take (i := 0) (v := .agg e.cells.toArray) rfl (by kernel_rfl) (by kernel_rfl) (by kernel_rfl) (fun _ _ _ h => h) (yieldsIf_load_mid (by rfl) 52 (.tmp 2) rfl b 0 rfl e.cells _ (fun w9 hSw => Bk.range ((HC.out w9 hSw).1) e.cells rfl) Try.underlying52 rfl (by rw [iE]; rfl)) (by assumption) ?_
  (try simp only [Act.put, List.getElem_toArray, List.getElem_cons_succ, List.getElem_cons_zero, List.setIfInBounds_toArray, List.set_cons_zero, List.set_cons_succ])
  refine wpAnyH_take (i := 2) (v := .agg #[.int .i64 t, .string k]) rfl (by kernel_rfl) (by kernel_rfl) (by kernel_rfl) (fun _ _ _ h => h) (yieldsIf_load_mid (by rfl) 105 (.tmp 3) rfl (b + 1) 0 rfl [.int .i64 t, .string k] _ (fun w9 hSw => Bk.range ((HC.out w9 hSw).2) _ rfl) Try.underlying105 rfl (by rw [iN]; rfl)) (by assumption) ?_
  (try simp only [Act.put, List.getElem_toArray, List.getElem_cons_succ, List.getElem_cons_zero, List.setIfInBounds_toArray, List.set_cons_zero, List.set_cons_succ])
  refine wpAnyH_ready (rs := [1]) (by kernel_rfl) (by simp) ?_
  refine AllReadyH.cons rfl (fun K hK => ?_) AllReadyH.nil
  go_simp
  refine (of_any e _).mono ?_
  rintro e w5 ⟨rfl, hf⟩
  have hw5 := Frm.trans ((Frm.refl (fun _ => False) W).drew) hf
  clear hf
  (try go_wp2_with fail)
  refine hK.out _ _ hw5 (fun hHeld => ?_)
  clear hK K
  (try simp only [Act.put, List.getElem_toArray, List.getElem_cons_succ, List.getElem_cons_zero, List.setIfInBounds_toArray, List.set_cons_zero, List.set_cons_succ])
  refine wpAnyH_ready (rs := [3]) (by kernel_rfl) (by simp) ?_
  refine AllReadyH.cons rfl (fun K hK => ?_) AllReadyH.nil
  go_simp
  refine (order_any _ _ _ _ _).mono ?_
  rintro e w6 ⟨rfl, hf⟩
  have hw6 := Frm.trans (hw5) hf
  clear hf
  (try go_wp2_with fail)
  refine hK.out _ _ hw6 (fun hHeld => ?_)
  clear hK K
  (try simp only [Act.put, List.getElem_toArray, List.getElem_cons_succ, List.getElem_cons_zero, List.setIfInBounds_toArray, List.set_cons_zero, List.set_cons_succ])
  refine wpAnyH_take (i := 4) (v := ?_) rfl (by kernel_rfl) (by kernel_rfl) (by kernel_rfl) (fun _ _ _ h => h) (Or.inl ⟨by rfl, ?_⟩) (by assumption) ?_
  rotate_left 1
  focus (intro w hSw; (try dsimp only at hSw); go_simp; (try with_reducible rfl))
  (try simp only [Act.put, List.getElem_toArray, List.getElem_cons_succ, List.getElem_cons_zero, List.setIfInBounds_toArray, List.set_cons_zero, List.set_cons_succ])
  refine wpAnyH_done (by kernel_rfl) ?_ _
  go_wp2
  go_returns
  exact ⟨rfl, hF.trans hw6⟩
end
end Ix
end Go.Proofs.Ythggbohoedfkpaa
