/- SHA-256: the reference's Padded and Table. -/
import Derived.Test.YtmpbgnopejeelaaShh
import Derived.Test.YtmpbgnopejeelaaBw
namespace Go.Proofs.Ytmpbgnopejeelaa
open Go.RowKit
set_option linter.unusedVariables false
set_option linter.unusedSimpArgs false
set_option maxRecDepth 100000
section
variable {w : World} {base : Nat} {v : Value} {l : List Nat}
theorem Rw.form' (h : Rw w base v l) {n : Nat} (hn : l.length = n) : ∃ g cap, v = .slice (some ⟨g, 0, none⟩) n cap ∧ base ≤ g ∧ g < w.heap.size := by
  subst hn
  exact h.form
end
section
variable {P : Program} {fn : Func} {R : Ending → World → Prop} {a : Act} {w : World}
theorem ret_cell2 {t u : Tmp} {ty t' ty2 t2' : TypeId} {d d2 : TypeDesc} {b n b2 n2 : Nat} {l l2 : List Value} (hr : fn.results = #[.cell t ty, .cell u ty2]) (hu : P.underlying ty = some d) (hd : d.isRow = true) (hi : (P.info? ty).map (·.size) = some n)
    (h : w.heap[b]? = some (.cells l.toArray t' (0, 0))) (hl : l.length = n) (ht : a.tmps.getD t undef = .pointer (some ⟨b, 0, none⟩))
    (hu2 : P.underlying ty2 = some d2) (hd2 : d2.isRow = true) (hi2 : (P.info? ty2).map (·.size) = some n2)
    (h2 : w.heap[b2]? = some (.cells l2.toArray t2' (0, 0))) (hl2 : l2.length = n2) (ht2 : a.tmps.getD u undef = .pointer (some ⟨b2, 0, none⟩)) (hdf : a.defers = []) (hR : R (.returned (.tuple #[.agg l.toArray, .agg l2.toArray])) w) : bodyPost P fn R .ret a w := by
  refine bodyPost_ret (v := .tuple #[.agg l.toArray, .agg l2.toArray]) ?_ hdf hR
  have ht' : a.tmps[t]?.getD undef = .pointer (some ⟨b, 0, none⟩) := by simpa using ht
  have ht2' : a.tmps[u]?.getD undef = .pointer (some ⟨b2, 0, none⟩) := by simpa using ht2
  simp only [results, hr]
  simp [ht', ht2', asAddr, run_loadVar_blk h hu hd hi hl, run_loadVar_blk h2 hu2 hd2 hi2 hl2, Sem.run_bind, Result.andThen]
end
namespace Sh
theorem bk_one {w : World} {X : Nat} {x : Int} {y : Nat} (h : w.heap[X]? = some (.cells #[.int .u8 x] 5 (0, 0))) (hx : x = (y : Int)) : w.heap[X]? = some (.cells (Pk.u8s [y]).toArray 5 (0, 0)) := by
  subst hx
  exact h
set_option maxHeartbeats 2000000 in
theorem padded_any (s : ByteArray) (hs : s.size ≤ 100000) (w : World) :
    Calls Try.prog 57 #[.string s] w fun e w' => e = .returned (.string (txt (bytes s ++ pad s.size))) ∧ Frm0 w w' := by
  have hconv := fun w => Lib.run_convert_string_bytes (P := Try.prog) w 9 43 5 s Try.underlying9 Try.underlying43 Try.underlying5
  obtain ⟨z, hz'⟩ : ∃ z, padz s.size = z := ⟨_, rfl⟩
  have hz : z = (119 - s.size % 64) % 64 := by rw [← hz']; rfl
  have HZ := Lib.hid hz'
  clear hz'
  have hR0 := Rw.new w s (by omega)
  have hF0 := frm_bytes w 5 s
  have hbl := bytes_len s
  have HBL := Lib.hid hbl
  clear hbl
  go_enter Try.func57, Try.ntmps57
  go_wp2_with (at_builtin; refine wpList_append_rw rfl (.tmp 8) (.tmp 9) rfl (cs := [128]) (hR0.alloc _) (Bk.new _ _) rfl rfl (Nat.le_trans hF0.size (by simp)) (by rw [HBL.out]; simp; omega) ?_; intro v1 w1 hR1 hf1)
  clear hconv
  have hF1 := (hF0.alloc (.cells (Pk.u8s [128]).toArray 5)).then_ hf1 (fun i hi e => by have := ((hR0.alloc (.cells (Pk.u8s [128]).toArray 5)).lt i e).1; omega)
  clear hR0 hF0 hf1
  go_loopw [3] (fun u wr => ∃ (j : Nat), j ≤ z ∧ lenV u = s.size + 1 + j ∧ Rw wr w.heap.size u (bytes s ++ 128 :: List.replicate j 0) ∧ Frm0 w wr) (fun u _ => s.size + z + 1 - lenV u)
  case atStart =>
    obtain ⟨g, cap, rfl, _⟩ := hR1.form' (n := s.size + 1) (by rw [List.length_append, HBL.out]; rfl)
    exact ⟨0, by omega, rfl, hR1, hF1⟩
  case round =>
    clear hR1 hF1
    obtain ⟨j, hj, hlu, hR, hF⟩ := hrel
    have hll : (bytes s ++ 128 :: List.replicate j 0).length = s.size + j + 1 := by rw [List.length_append, HBL.out, List.length_cons, List.length_replicate]; omega
    obtain ⟨g, cap, rfl, hbs, hbl2⟩ := hR.form' hll
    clear hlu
    have hsz := hF.size
    have HLL := Lib.hid hll
    clear hll
    by_cases hjz : j < z
    · have hne : ¬ ((s.size : Int) + (j : Int) + 1) % 64 = 56 := by omega
      have hbn : (((s.size : Int) + (j : Int) + 1) % 64 != 56) = true := bne_iff_ne.2 hne
      go_wp2_with (at_builtin; refine wpList_append_rw rfl (.tmp 15) (.tmp 16) rfl (cs := [0]) (hR.alloc _) (Bk.new _ _) rfl rfl (by simp; omega) (by rw [HLL.out]; simp; omega) ?_; intro v2 w2 hR2 hf2)
      go_roundw
      case rel =>
        rw [List.append_assoc, List.cons_append, ← List.replicate_succ'] at hR2
        refine ⟨j + 1, by omega, ?_, hR2, (hF.alloc _).then_ hf2 (fun i hi e => by have := (hR.lt i e).1; omega)⟩
        obtain ⟨g2, cap2, rfl, _⟩ := hR2.form' (n := s.size + 1 + (j + 1)) (by rw [List.length_append, HBL.out, List.length_cons, List.length_replicate]; omega)
        rfl
      case measure =>
        obtain ⟨g2, cap2, rfl, _⟩ := hR2.form' (n := s.size + j + 2) (by rw [List.length_append, HLL.out]; rfl)
        simp only [lenV]
        omega
    · obtain rfl : j = z := by omega
      have hne : ((s.size : Int) + (j : Int) + 1) % 64 = 56 := by omega
      have hbn : (((s.size : Int) + (j : Int) + 1) % 64 != 56) = false := by rw [hne]; rfl
      have hj64 : j < 64 := by omega
      clear hz
      have m0 : IntKind.u64.wrap (s.size : Int) = (s.size : Int) := by rw [IntKind.wrap_u64]; omega
      have m1 : IntKind.u64.wrap ((s.size : Int) * 8) = ((8 * s.size : Nat) : Int) := by rw [IntKind.wrap_u64]; omega
      go_wp2_with fail
      clear hne hbn
      go_loopw [3, 5] (fun u i wq => ∃ (k : Nat) (m : Int), k ≤ 8 ∧ i = .int .i64 m ∧ m = 7 - (k : Int) ∧ Rw wq w.heap.size u ((bytes s ++ 128 :: List.replicate j 0) ++ (be8 (8 * s.size)).take k) ∧ Frm0 w wq) (fun _ i _ => (intOf i + 1).toNat)
      case atStart => exact ⟨0, 7, by omega, rfl, rfl, by rw [List.take_zero, List.append_nil]; exact hR, hF⟩
      case round =>
        clear hR hF
        obtain ⟨k, m, hk, rfl, hm, hR, hF⟩ := hrel
        have hll3 : ((bytes s ++ 128 :: List.replicate j 0) ++ (be8 (8 * s.size)).take k).length = s.size + j + 1 + k := by
          have : (be8 (8 * s.size)).length = 8 := rfl
          rw [List.length_append, List.length_take, HLL.out, this]
          omega
        have hsz := hF.size
        obtain ⟨g, cap, rfl, hbs3, hbl3⟩ := hR.form' hll3
        have HL3 := Lib.hid hll3
        clear hll3
        by_cases hlt : k < 8
        · have HQ := Lib.hid (be8_succ (8 * s.size) k hlt)
          generalize hL : ((bytes s ++ 128 :: List.replicate j 0) ++ (be8 (8 * s.size)).take k) = L at *
          have HL := Lib.hid hL
          clear hL
          have hk8 : k = 0 ∨ k = 1 ∨ k = 2 ∨ k = 3 ∨ k = 4 ∨ k = 5 ∨ k = 6 ∨ k = 7 := by omega
          rcases hk8 with rfl | rfl | rfl | rfl | rfl | rfl | rfl | rfl
          · have hm7 : m = 7 := by omega
            clear hm hk hlt
            subst hm7
            go_wp2_with (at_builtin; refine wpList_append_rw rfl (.tmp 26) (.tmp 32) rfl (cs := [byteAt (8 * s.size) 0]) (hR.alloc _) (bk_one (Bk.new _ _) (by simp [byteAt] <;> omega)) rfl rfl (by simp; omega) (by rw [HL3.out]; simp; omega) ?_; intro v2 w2 hR2 hf2)
            go_roundw
            case rel =>
              rw [← HL.out, List.append_assoc, ← HQ.out] at hR2
              exact ⟨1, 6, by omega, rfl, by omega, hR2, (hF.alloc _).then_ hf2 (fun i hi e => by have := (hR.lt i e).1; omega)⟩
            case measure => simp [intOf]
          · have hm7 : m = 6 := by omega
            clear hm hk hlt
            subst hm7
            go_wp2_with (at_builtin; refine wpList_append_rw rfl (.tmp 26) (.tmp 32) rfl (cs := [byteAt (8 * s.size) 1]) (hR.alloc _) (bk_one (Bk.new _ _) (by simp [byteAt] <;> omega)) rfl rfl (by simp; omega) (by rw [HL3.out]; simp; omega) ?_; intro v2 w2 hR2 hf2)
            go_roundw
            case rel =>
              rw [← HL.out, List.append_assoc, ← HQ.out] at hR2
              exact ⟨2, 5, by omega, rfl, by omega, hR2, (hF.alloc _).then_ hf2 (fun i hi e => by have := (hR.lt i e).1; omega)⟩
            case measure => simp [intOf]
          · have hm7 : m = 5 := by omega
            clear hm hk hlt
            subst hm7
            go_wp2_with (at_builtin; refine wpList_append_rw rfl (.tmp 26) (.tmp 32) rfl (cs := [byteAt (8 * s.size) 2]) (hR.alloc _) (bk_one (Bk.new _ _) (by simp [byteAt] <;> omega)) rfl rfl (by simp; omega) (by rw [HL3.out]; simp; omega) ?_; intro v2 w2 hR2 hf2)
            go_roundw
            case rel =>
              rw [← HL.out, List.append_assoc, ← HQ.out] at hR2
              exact ⟨3, 4, by omega, rfl, by omega, hR2, (hF.alloc _).then_ hf2 (fun i hi e => by have := (hR.lt i e).1; omega)⟩
            case measure => simp [intOf]
          · have hm7 : m = 4 := by omega
            clear hm hk hlt
            subst hm7
            go_wp2_with (at_builtin; refine wpList_append_rw rfl (.tmp 26) (.tmp 32) rfl (cs := [byteAt (8 * s.size) 3]) (hR.alloc _) (bk_one (Bk.new _ _) (by simp [byteAt] <;> omega)) rfl rfl (by simp; omega) (by rw [HL3.out]; simp; omega) ?_; intro v2 w2 hR2 hf2)
            go_roundw
            case rel =>
              rw [← HL.out, List.append_assoc, ← HQ.out] at hR2
              exact ⟨4, 3, by omega, rfl, by omega, hR2, (hF.alloc _).then_ hf2 (fun i hi e => by have := (hR.lt i e).1; omega)⟩
            case measure => simp [intOf]
          · have hm7 : m = 3 := by omega
            clear hm hk hlt
            subst hm7
            go_wp2_with (at_builtin; refine wpList_append_rw rfl (.tmp 26) (.tmp 32) rfl (cs := [byteAt (8 * s.size) 4]) (hR.alloc _) (bk_one (Bk.new _ _) (by simp [byteAt] <;> omega)) rfl rfl (by simp; omega) (by rw [HL3.out]; simp; omega) ?_; intro v2 w2 hR2 hf2)
            go_roundw
            case rel =>
              rw [← HL.out, List.append_assoc, ← HQ.out] at hR2
              exact ⟨5, 2, by omega, rfl, by omega, hR2, (hF.alloc _).then_ hf2 (fun i hi e => by have := (hR.lt i e).1; omega)⟩
            case measure => simp [intOf]
          · have hm7 : m = 2 := by omega
            clear hm hk hlt
            subst hm7
            go_wp2_with (at_builtin; refine wpList_append_rw rfl (.tmp 26) (.tmp 32) rfl (cs := [byteAt (8 * s.size) 5]) (hR.alloc _) (bk_one (Bk.new _ _) (by simp [byteAt] <;> omega)) rfl rfl (by simp; omega) (by rw [HL3.out]; simp; omega) ?_; intro v2 w2 hR2 hf2)
            go_roundw
            case rel =>
              rw [← HL.out, List.append_assoc, ← HQ.out] at hR2
              exact ⟨6, 1, by omega, rfl, by omega, hR2, (hF.alloc _).then_ hf2 (fun i hi e => by have := (hR.lt i e).1; omega)⟩
            case measure => simp [intOf]
          · have hm7 : m = 1 := by omega
            clear hm hk hlt
            subst hm7
            go_wp2_with (at_builtin; refine wpList_append_rw rfl (.tmp 26) (.tmp 32) rfl (cs := [byteAt (8 * s.size) 6]) (hR.alloc _) (bk_one (Bk.new _ _) (by simp [byteAt] <;> omega)) rfl rfl (by simp; omega) (by rw [HL3.out]; simp; omega) ?_; intro v2 w2 hR2 hf2)
            go_roundw
            case rel =>
              rw [← HL.out, List.append_assoc, ← HQ.out] at hR2
              exact ⟨7, 0, by omega, rfl, by omega, hR2, (hF.alloc _).then_ hf2 (fun i hi e => by have := (hR.lt i e).1; omega)⟩
            case measure => simp [intOf]
          · have hm7 : m = 0 := by omega
            clear hm hk hlt
            subst hm7
            go_wp2_with (at_builtin; refine wpList_append_rw rfl (.tmp 26) (.tmp 32) rfl (cs := [byteAt (8 * s.size) 7]) (hR.alloc _) (bk_one (Bk.new _ _) (by simp [byteAt] <;> omega)) rfl rfl (by simp; omega) (by rw [HL3.out]; simp; omega) ?_; intro v2 w2 hR2 hf2)
            go_roundw
            case rel =>
              rw [← HL.out, List.append_assoc, ← HQ.out] at hR2
              exact ⟨8, -1, by omega, rfl, by omega, hR2, (hF.alloc _).then_ hf2 (fun i hi e => by have := (hR.lt i e).1; omega)⟩
            case measure => simp [intOf]
        · obtain rfl : k = 8 := by omega
          have hm1 : m = -1 := by omega
          clear hm
          subst hm1
          have e8 : ((bytes s ++ 128 :: List.replicate j 0) ++ (be8 (8 * s.size)).take 8) = bytes s ++ pad s.size := by
            unfold pad
            rw [HZ.out, List.append_assoc]
            rfl
          rw [e8] at hR
          have hcv := hR.conv
          go_wp2
          go_ret
          exact ⟨rfl, hF⟩
theorem V0_len : V0.length = 8 := rfl
theorem blocks_len (b : List Nat) : ∀ n, (blocks V0 b n).length = 8
  | 0 => rfl
  | n + 1 => by rw [blocks_succ]; exact step_len _ _ (blocks_len b n)
theorem blocks_lt (b : List Nat) : ∀ n, ∀ x ∈ blocks V0 b n, x < 4294967296
  | 0 => V0_lt
  | n + 1 => by rw [blocks_succ]; exact step_lt _ _
set_option maxHeartbeats 4000000 in
theorem table_any (w : World) : Calls Try.prog 30 #[] w fun e w' => e = .returned (.tuple #[.agg (u32s V0).toArray, .agg (u32s KK).toArray]) ∧ Frm0 w w' := by
  go_enter Try.func30, Try.ntmps30
  go_wp2_with (first
    | (refine wpList_alloc_any rfl 37 0 rfl rfl (.cells (u32s (List.replicate 8 0)).toArray 37) (by rfl) ?_; intro w1 hz1 hN1 hf1)
    | (refine wpList_alloc_any rfl 38 1 rfl rfl (.cells (u32s (List.replicate 64 0)).toArray 38) (by rfl) ?_; intro w2 hz2 hN2 hf2; rw [hz1] at hN2)
    | (refine wpList_store_blk rfl 37 (.tmp 0) (.tmp 2) rfl (hf2.blk hN1 (fun h => h)) rfl (by kernel_rfl) iV (us := (u32s V0).toArray) (u32s_size V0_len) zeros8 (u32s_one' _) ?_; intro w3 hb3 hf3)
    | (refine wpList_store_blk rfl 38 (.tmp 1) (.tmp 3) rfl (hf3.blk hN2 (by omega)) rfl (by kernel_rfl) iW (us := (u32s KK).toArray) (u32s_size KK_len) zeros64 (u32s_one' _) ?_; intro w4 hb4 hf4))
  (try simp only [Exit.inBlock, Exit.then])
  have s1 := hf1.size
  have hb5 := hf4.blk hb3 (by omega)
  refine ret_cell2 rfl Try.underlying37 rfl iV hb5 (by rw [u32s_len]; rfl) rfl Try.underlying38 rfl iW hb4 (by rw [u32s_len]; rfl) rfl rfl ?_
  exact ⟨rfl, (((hf1.trans hf2).then_ hf3 (fun i hi e => by omega)).then_ hf4 (fun i hi e => by omega))⟩
end Sh
end Go.Proofs.Ytmpbgnopejeelaa
