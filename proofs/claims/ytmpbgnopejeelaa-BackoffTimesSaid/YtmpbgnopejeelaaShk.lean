/- SHA-256: the reference's Sum. -/
import Derived.Test.YtmpbgnopejeelaaShj
namespace Go.Proofs.Ytmpbgnopejeelaa
open Go.RowKit
set_option linter.unusedVariables false
set_option linter.unusedSimpArgs false
set_option maxRecDepth 100000
namespace Sh
theorem quiet_drew {P : Program} {f : FuncId} {args : Array Value} {w : World} {n : Nat} {v : Value}
    (h : Calls P f args (w.drewN n) fun e w' => e = .returned v ∧ ∃ m, w' = (w.drewN n).drewN m) : Calls P f args (w.drewN n) fun e w'' => e = .returned v ∧ ∃ m, w'' = w.drewN m :=
  h.mono fun _ _ ⟨he, m, hm⟩ => ⟨he, n + m, by rw [hm]; simp [World.drewN, Nat.add_assoc]⟩
theorem quiet_drew2 {P : Program} {f : FuncId} {args : Array Value} {w : World} {n m : Nat} {v : Value}
    (h : Calls P f args (w.drewN (n + m)) fun e w' => e = .returned v ∧ ∃ j, w' = (w.drewN (n + m)).drewN j) : Calls P f args (w.drewN (n + m)) fun e w'' => e = .returned v ∧ ∃ k, w'' = w.drewN (n + k) :=
  h.mono fun _ _ ⟨he, j, hm⟩ => ⟨he, m + j, by rw [hm]; simp [World.drewN, Nat.add_assoc]⟩
/-- A word's first j bytes. -/
def pw (b : List Nat) (i : Nat) : Nat → Nat
  | 0 => 0
  | j + 1 => pw b i j * 256 + b.getD (4 * i + j) 0
theorem pw_4 (b : List Nat) (i : Nat) : pw b i 4 = word b i := by
  show (((0 * 256 + b.getD (4 * i + 0) 0) * 256 + b.getD (4 * i + 1) 0) * 256 + b.getD (4 * i + 2) 0) * 256 + b.getD (4 * i + 3) 0 = _
  rw [Nat.zero_mul, Nat.zero_add]
  rfl
theorem pw_lt {b : List Nat} (hb : ∀ x ∈ b, x < 256) (i : Nat) : ∀ j, pw b i j < 256 ^ j
  | 0 => Nat.one_pos
  | j + 1 => by
    have ih := pw_lt hb i j
    have h := getD_lt hb (by omega : 0 < 256) (4 * i + j)
    show pw b i j * 256 + _ < _
    rw [Nat.pow_succ]
    omega
theorem up1_lt {x : Nat} (hx : x < 4294967296) : up1 x < 4294967296 := xor_lt (xor_lt (rr_lt x 6 hx) (rr_lt x 11 hx)) (rr_lt x 25 hx)
theorem up0_lt {x : Nat} (hx : x < 4294967296) : up0 x < 4294967296 := xor_lt (xor_lt (rr_lt x 2 hx) (rr_lt x 13 hx)) (rr_lt x 22 hx)
theorem ch_lt {e f g : Nat} (he : e < 4294967296) (hf : f < 4294967296) : ch e f g < 4294967296 := xor_lt (and_lt he) (and_lt (by omega))
theorem mj_lt {a b c : Nat} (ha : a < 4294967296) (hb : b < 4294967296) : mj a b c < 4294967296 := xor_lt (xor_lt (and_lt ha) (and_lt ha)) (and_lt hb)
theorem txt_app {a b : List Nat} (ha : ∀ x ∈ a, x < 256) (hb : ∀ x ∈ b, x < 256) : txt (a ++ b) = txt a ++ txt b := by
  refine bytes_inj ?_
  rw [bytes_append, bytes_txt ha, bytes_txt hb, bytes_txt (fun x hx => (List.mem_append.1 hx).elim (ha x) (hb x))]
theorem conv4 (w : World) (x : Nat) (r0 r1 r2 r3 : Int) (h0 : r0 = (x : Int) / 16777216 % 256) (h1 : r1 = (x : Int) / 65536 % 256) (h2 : r2 = (x : Int) / 256 % 256) (h3 : r3 = (x : Int) % 256) :
    (convert 43 9 (.slice (some ⟨w.heap.size, 0, none⟩) 4 4)).run Try.prog (w.alloc (.cells #[.int .u8 r0, .int .u8 r1, .int .u8 r2, .int .u8 r3] 5)) = .ok (.string (txt (be4 x))) (w.alloc (.cells #[.int .u8 r0, .int .u8 r1, .int .u8 r2, .int .u8 r3] 5)) := by
  have e0 : r0 = ((x / 16777216 % 256 : Nat) : Int) := by omega
  have e1 : r1 = ((x / 65536 % 256 : Nat) : Int) := by omega
  have e2 : r2 = ((x / 256 % 256 : Nat) : Int) := by omega
  have e3 : r3 = ((x % 256 : Nat) : Int) := by omega
  subst e0 e1 e2 e3
  exact Bw.conv (Bw.first w (be4 x) (show 4 ≤ 1000 by decide))
theorem Lw_zero (b : List Nat) : Lw b 0 = List.replicate 64 0 := rfl
theorem Lw_at (b : List Nat) {k : Nat} (h : k < 64) : (Lw b k).set k 0 = Lw b k := by
  unfold Lw
  rw [List.set_append_right _ _ (by rw [sched_len]; exact Nat.le_refl _), sched_len, Nat.sub_self, show 64 - k = (64 - (k + 1)) + 1 by omega, List.replicate_succ, List.set_cons_zero]
set_option maxHeartbeats 60000000 in
theorem rsum' (kk : List Nat) (hkl : kk.length = 64) (hkk : ∀ k, kk.getD k 0 = KK.getD k 0)
    (hTab : ∀ w, Calls Try.prog 30 #[] w fun e w' => e = .returned (.tuple #[.agg (u32s V0).toArray, .agg (u32s kk).toArray]) ∧ Frm0 w w') (s T : ByteArray) (M : Nat) (hT : T.size = 64 * M) (hM : T.size ≤ 1000000)
    (hP : ∀ w, Calls Try.prog 57 #[.string s] w fun e w' => e = .returned (.string T) ∧ Frm0 w w') (w : World) :
    Calls Try.prog 32 #[.string s] w fun e w' => e = .returned (.string (txt (outB (blocks V0 (bytes T) M)))) ∧ Frm0 w w' := by
  have HP := Lib.hid hP
  have HKL := Lib.hid hkl
  have HKK := Lib.hid hkk
  have HTB := Lib.hid hTab
  clear hP hkl hkk hTab
  go_enter Try.func32, Try.ntmps32
  go_wp2_with fail
  refine (HTB.out _).mono ?_
  rintro e w1 ⟨rfl, hf1⟩
  go_wp2_with (first
    | (refine wpList_alloc_any rfl 37 3 rfl rfl (.cells (u32s (List.replicate 8 0)).toArray 37) (by rfl) ?_; intro w3 hz3 hN3 hf3)
    | (refine wpList_alloc_any rfl 38 4 rfl rfl (.cells (u32s (List.replicate 64 0)).toArray 38) (by rfl) ?_; intro w4 hz4 hN4 hf4)
    | (refine wpList_store_blk rfl 37 (.tmp 3) (.tmp 27) rfl (hf4.blk hN3 (fun h => h)) rfl rfl iV (us := (u32s V0).toArray) (u32s_size V0_len) zeros8 (u32s_one' _) ?_; intro w5 hb5 hf5)
    | (refine wpList_store_blk rfl 38 (.tmp 4) (.tmp 28) rfl (hf5.blk hN4 (by omega)) rfl rfl iW (us := (u32s kk).toArray) (u32s_size HKL.out) zeros64 (u32s_one' _) ?_; intro w6 hb6 hf6))
  have hb5 := hf6.blk hb5 (by omega)
  rw [hz3] at hb6
  have hg1 := hf1.size
  have hz6 := hf6.size
  have hz5 := hf5.size
  have hF6 := ((((hf1.trans hf3).trans hf4).then_ hf5 (fun i hi e => by omega)).then_ hf6 (fun i hi e => by omega))
  have hDs : w1.heap.size + 1 < w6.heap.size := by omega
  clear hf1 hf3 hf4 hf5 hf6 hN3 hN4 hz3 hz4 hz5 hz6
  generalize w1.heap.size = D at *
  refine (HP.out _).mono ?_
  rintro e w7 ⟨rfl, hf7⟩
  have hV0 := hf7.blk hb5 (fun h => h)
  have hK0 := hf7.blk hb6 (fun h => h)
  have hF7 := hF6.trans hf7
  have hs7 := hf7.size
  have hDs7 : D + 1 < w7.heap.size := by omega
  clear hb5 hb6 hF6 hf7 hs7 hDs
  go_wp2_with fail
  go_loopw [6] (fun i wr => ∃ (i' : Nat), i' ≤ M ∧ i = .int .i64 (64 * (i' : Int)) ∧ Wd wr D 37 (blocks V0 (bytes T) i') ∧ Wd wr (D + 1) 38 kk ∧ Frm0 w wr ∧ D + 1 < wr.heap.size) (fun i _ => (64 * (M : Int) - intOf i).toNat)
  case atStart => exact ⟨0, by omega, rfl, hV0, hK0, hF7, hDs7⟩
  case round =>
    clear hV0 hK0 hF7 hDs7
    obtain ⟨i, hi, rfl, hV, hK, hF, hDs⟩ := hrel
    have hTi : (T.size : Int) = 64 * (M : Int) := by omega
    by_cases hlt : i < M
    · have hii : (64 : Int) * (i : Int) < (T.size : Int) := by omega
      have HVL := Lib.hid hV
      obtain ⟨B, hB⟩ : ∃ B, ((bytes T).drop (64 * i)).take 64 = B := ⟨_, rfl⟩
      have hB256 : ∀ x ∈ B, x < 256 := fun x hx => by rw [← hB] at hx; exact bytes_lt T x (List.mem_of_mem_drop (List.mem_of_mem_take hx))
      have hBG : ∀ j, j < 64 → (bytes T).getD (64 * i + j) 0 = B.getD j 0 := fun j hj => by
        rw [← hB, List.getD_eq_getElem?_getD, List.getD_eq_getElem?_getD, List.getElem?_take_of_lt hj, List.getElem?_drop]
      have hBS : blocks V0 (bytes T) (i + 1) = step (blocks V0 (bytes T) i) B := by rw [blocks_succ, hB]
      have hvl : (blocks V0 (bytes T) i).length = 8 := blocks_len _ _
      have hvb := blocks_lt (bytes T) i
      have HBS := Lib.hid hBS
      have HBG := Lib.hid (show ∀ j, j < 64 → (bytes T).getD (64 * i + j) 0 = B.getD j 0 from hBG)
      have HB256 := Lib.hid hB256
      have HVB := Lib.hid hvb
      have HV8 := Lib.hid hvl
      clear hB hBS hBG hB256 hvl hvb HVL
      generalize blocks V0 (bytes T) i = v at *
      go_wp2_with (refine wpList_alloc_any rfl 38 7 rfl rfl (.cells (u32s (List.replicate 64 0)).toArray 38) (by rfl) ?_; intro w8 hz8 hN8 hf8)
      have hV := hf8.blk hV (fun h => h)
      have hK := hf8.blk hK (fun h => h)
      have hF := hF.trans hf8
      have hwE := Nat.lt_of_le_of_lt (Nat.le_refl _) hDs
      have hEw : w.heap.size ≤ wr.heap.size := by have := hF.size; omega
      generalize wr.heap.size = E at *
      clear hf8
      go_loopw [8] (fun a wq => ∃ (k : Nat), k ≤ 64 ∧ a = .int .i64 k ∧ Wd wq E 38 (Lw B k) ∧ Wd wq D 37 v ∧ Wd wq (D + 1) 38 kk ∧ Frm0 w wq) (fun a _ => 64 - (intOf a).toNat)
      case atStart => exact ⟨0, by omega, rfl, hN8, hV, hK, hF⟩
      case round =>
        clear hN8 hV hK hF
        obtain ⟨k, hk, rfl, hW, hV, hK, hF⟩ := hrel
        by_cases hlt64 : k < 64
        · by_cases hlt2 : k < 16
          · have hki : (k : Int) < 16 := by omega
            have hk64i : (k : Int) < 64 := by omega
            have hW0 := hW
            rw [← Lw_at B hlt64] at hW0
            go_wp2_with fail
            go_loopw [9] (fun a wq => ∃ (j : Nat), j ≤ 4 ∧ a = .int .i64 j ∧ Wd wq E 38 ((Lw B k).set k (pw B k j)) ∧ Wd wq D 37 v ∧ Wd wq (D + 1) 38 kk ∧ Frm0 w wq) (fun a _ => 4 - (intOf a).toNat)
            case atStart => exact ⟨0, by omega, rfl, hW0, hV, hK, hF⟩
            case round =>
              clear hW hW0 hV hK hF
              obtain ⟨j, hj, rfl, hW, hV, hK, hF⟩ := hrel
              by_cases hlt3 : j < 4
              · have hji : (j : Int) < 4 := by omega
                have hq : 64 * i + 4 * k + j < T.size := by omega
                have hqi : (64 : Int) * (i : Int) + 4 * (k : Int) + (j : Int) < (T.size : Int) := by omega
                have hbyte := bget T (64 * i + 4 * k + j) hq
                obtain ⟨x, hx⟩ : ∃ x, (T[64 * i + 4 * k + j]'hq).toNat = x := ⟨_, rfl⟩
                have hx256 : x < 256 := by rw [← hx]; exact (T[64 * i + 4 * k + j]'hq).toNat_lt
                rw [hx, Nat.add_assoc, HBG.out (4 * k + j) (by omega)] at hbyte
                have hpb := pw_lt HB256.out k j
                have hp24 : pw B k j < 16777216 := Nat.lt_of_lt_of_le hpb (by have : j = 0 ∨ j = 1 ∨ j = 2 ∨ j = 3 := by omega
                                                                              rcases this with rfl | rfl | rfl | rfl <;> decide)
                have hps : pw B k (j + 1) = pw B k j * 256 + x := by rw [← hbyte]; rfl
                have HPS := Lib.hid hps
                have e1 : IntKind.i64.wrap (4 * (k : Int)) = 4 * (k : Int) := IntWalk.i64_in _ (by omega)
                have e2 : IntKind.i64.wrap (64 * (i : Int) + 4 * (k : Int)) = 64 * (i : Int) + 4 * (k : Int) := IntWalk.i64_in _ (by omega)
                have e3 : IntKind.i64.wrap (64 * (i : Int) + 4 * (k : Int) + (j : Int)) = 64 * (i : Int) + 4 * (k : Int) + (j : Int) := IntWalk.i64_in _ (by omega)
                have n3 : (0 : Int) ≤ 64 * (i : Int) + 4 * (k : Int) + (j : Int) := by omega
                have t3 : (64 * (i : Int) + 4 * (k : Int) + (j : Int)).toNat = 64 * i + 4 * k + j := by omega
                have hcw := hW.cell k (by rw [List.length_set, Lw_len _ (by omega)]; omega)
                have hgd : ((Lw B k).set k (pw B k j)).getD k 0 = pw B k j := by
                  rw [List.getD_eq_getElem?_getD, List.getElem?_set_self (by rw [Lw_len _ (by omega)]; omega)]
                  rfl
                rw [hgd] at hcw
                have hfw := hW.free k
                have HP24 := Lib.hid hp24
                clear hbyte hps hpb hgd
                generalize pw B k j = p at *
                have hp' : p < 16777216 := hp24
                have hki64 : (k : Int) < 64 := by omega
                have hki0 : (0 : Int) ≤ (k : Int) := by omega
                clear hT hM hTi hii hi hlt
                go_wp2_with fail
                refine st_tail 16 (by kernel_rfl) (by kernel_rfl) ?_
                simp only [List.take_succ_cons, List.take_zero, List.drop_succ_cons, List.drop_zero]
                repeat still_step
                refine wpStill_nil ?_
                go_wp2_with fail
                go_roundw
                case rel =>
                  first
                    | exact ⟨j + 1, by omega, by go_num, by rw [HPS.out, ← List.set_set (l := Lw B k) (i := k) (a := p)]; exact hW.set' k _ _ (by omega), Bk.far (show wr.drew.heap[D]? = _ from hV) (p := ⟨E, k, none⟩) (show D ≠ E from by omega) _, Bk.far (show wr.drew.heap[D + 1]? = _ from hK) (p := ⟨E, k, none⟩) (show D + 1 ≠ E from by omega) _, hF.drew.setCell ⟨E, k, none⟩ (fun h => absurd h (by show ¬ E < w.heap.size; omega)) _⟩
                    | ((repeat apply Exists.intro); refine And.intro ?_ rfl; exact ⟨j + 1, by omega, by go_num, by rw [HPS.out, ← List.set_set (l := Lw B k) (i := k) (a := p)]; exact hW.set' k _ _ (by omega), Bk.far (show wr.drew.heap[D]? = _ from hV) (p := ⟨E, k, none⟩) (show D ≠ E from by omega) _, Bk.far (show wr.drew.heap[D + 1]? = _ from hK) (p := ⟨E, k, none⟩) (show D + 1 ≠ E from by omega) _, hF.drew.setCell ⟨E, k, none⟩ (fun h => absurd h (by show ¬ E < w.heap.size; omega)) _⟩)
                case measure => simp [intOf]; omega
              · obtain rfl : j = 4 := by omega
                rw [pw_4] at hW
                have hWs := Lw_set B (show k < 64 by omega)
                rw [if_pos hlt2] at hWs
                rw [hWs] at hW
                clear hWs
                go_wp2_with fail
                go_roundw
                case rel =>
                  first
                    | exact ⟨k + 1, by omega, by go_num, hW, hV, hK, hF⟩
                    | ((repeat apply Exists.intro); refine And.intro ?_ rfl; exact ⟨k + 1, by omega, by go_num, hW, hV, hK, hF⟩)
                case measure => simp [intOf]; omega
          · have hki : (k : Int) < 64 := by omega
            have hB := sched_lt HB256.out k
            have e2 : IntKind.i64.wrap ((k : Int) - 2) = (k : Int) - 2 := IntWalk.i64_in _ (by omega)
            have e7 : IntKind.i64.wrap ((k : Int) - 7) = (k : Int) - 7 := IntWalk.i64_in _ (by omega)
            have e15 : IntKind.i64.wrap ((k : Int) - 15) = (k : Int) - 15 := IntWalk.i64_in _ (by omega)
            have e16 : IntKind.i64.wrap ((k : Int) - 16) = (k : Int) - 16 := IntWalk.i64_in _ (by omega)
            have k16i : (16 : Int) ≤ (k : Int) := by omega
            have k15i : (15 : Int) ≤ (k : Int) := by omega
            have k7i : (7 : Int) ≤ (k : Int) := by omega
            have k2i : (2 : Int) ≤ (k : Int) := by omega
            have n2 : (0 : Int) ≤ (k : Int) - 2 := by omega
            have n7 : (0 : Int) ≤ (k : Int) - 7 := by omega
            have n15 : (0 : Int) ≤ (k : Int) - 15 := by omega
            have n16 : (0 : Int) ≤ (k : Int) - 16 := by omega
            have m2 : (k : Int) - 2 < 64 := by omega
            have m7 : (k : Int) - 7 < 64 := by omega
            have m15 : (k : Int) - 15 < 64 := by omega
            have m16 : (k : Int) - 16 < 64 := by omega
            have t2 : ((k : Int) - 2).toNat = k - 2 := by omega
            have t7 : ((k : Int) - 7).toNat = k - 7 := by omega
            have t15 : ((k : Int) - 15).toNat = k - 15 := by omega
            have t16 : ((k : Int) - 16).toNat = k - 16 := by omega
            have c2 := hW.cell (k - 2) (by rw [Lw_len _ (by omega)]; omega)
            have c7 := hW.cell (k - 7) (by rw [Lw_len _ (by omega)]; omega)
            have c15 := hW.cell (k - 15) (by rw [Lw_len _ (by omega)]; omega)
            have c16 := hW.cell (k - 16) (by rw [Lw_len _ (by omega)]; omega)
            rw [Lw_get _ (by omega)] at c2 c7 c15 c16
            have b2 := getD_lt hB (by omega) (k - 2)
            have b7 := getD_lt hB (by omega) (k - 7)
            have b15 := getD_lt hB (by omega) (k - 15)
            have b16 := getD_lt hB (by omega) (k - 16)
            have hx : nextW (sched B k) k = nextW (sched B k) k := rfl
            conv at hx => rhs; unfold nextW
            have HX := Lib.hid hx
            clear hx
            generalize (sched B k).getD (k - 2) 0 = y2 at *
            generalize (sched B k).getD (k - 7) 0 = y7 at *
            generalize (sched B k).getD (k - 15) 0 = y15 at *
            generalize (sched B k).getD (k - 16) 0 = y16 at *
            clear hB
            have c3 := hW.cell k (by rw [Lw_len _ (by omega)]; omega)
            have f3 := hW.free k
            have hki0 : (0 : Int) ≤ (k : Int) := by omega
            go_wp2_with fail
            go_quiet (first | with_reducible exact quiet_drew (rright_7 y15 b15 _) | with_reducible exact quiet_drew (rright_18 y15 b15 _))
            go_wp2_with fail
            go_quiet (first | with_reducible exact quiet_drew2 (rright_17 y2 b2 _) | with_reducible exact quiet_drew2 (rright_19 y2 b2 _))
            go_wp2_with fail
            refine st_tail 15 (by kernel_rfl) (by kernel_rfl) ?_
            simp only [List.take_succ_cons, List.take_zero, List.drop_succ_cons, List.drop_zero]
            repeat still_step
            refine wpStill_nil ?_
            go_wp2_with fail
            go_roundw
            case rel =>
              first
                | exact ⟨k + 1, by omega, by go_num, by rw [← Lw_set _ (by omega), if_neg hlt2, HX.out]; exact hW.set' k _ _ (by rw [sgx0 _ b15, sgx1 _ b2]; unfold m32; omega), Bk.far (show wr.heap[D]? = _ from hV) (p := ⟨E, k, none⟩) (show D ≠ E from by omega) _, Bk.far (show wr.heap[D + 1]? = _ from hK) (p := ⟨E, k, none⟩) (show D + 1 ≠ E from by omega) _, (hF.drewN _).setCell ⟨E, k, none⟩ (fun h => absurd h (by show ¬ E < w.heap.size; omega)) _⟩
                | ((repeat apply Exists.intro); refine And.intro ?_ rfl; exact ⟨k + 1, by omega, by go_num, by rw [← Lw_set _ (by omega), if_neg hlt2, HX.out]; exact hW.set' k _ _ (by rw [sgx0 _ b15, sgx1 _ b2]; unfold m32; omega), Bk.far (show wr.heap[D]? = _ from hV) (p := ⟨E, k, none⟩) (show D ≠ E from by omega) _, Bk.far (show wr.heap[D + 1]? = _ from hK) (p := ⟨E, k, none⟩) (show D + 1 ≠ E from by omega) _, (hF.drewN _).setCell ⟨E, k, none⟩ (fun h => absurd h (by show ¬ E < w.heap.size; omega)) _⟩)
            case measure => simp [intOf]; omega
        · obtain rfl : k = 64 := by omega
          rw [Lw_64] at hW
          obtain ⟨v0, v1, v2, v3, v4, v5, v6, v7, hv, _, _, _, _, _, _, _, _⟩ := eight HV8.out HVB.out
          have HVE := Lib.hid hv
          obtain ⟨c0, c1, c2, c3, c4, c5, c6, c7⟩ := Wd.c8 (hv ▸ hV)
          clear hv
          go_wp2_with fail
          go_quiet (fail)
          go_wp2_with fail
          go_loopw [12, 13, 14, 15, 16, 17, 18, 19, 20] (fun s0 s1 s2 s3 s4 s5 s6 s7 a wq => ∃ (k x0 x1 x2 x3 x4 x5 x6 x7 : Nat), k ≤ 64 ∧ a = .int .i64 k ∧ s0 = .int .u32 x0 ∧ s1 = .int .u32 x1 ∧ s2 = .int .u32 x2 ∧ s3 = .int .u32 x3 ∧ s4 = .int .u32 x4 ∧ s5 = .int .u32 x5 ∧ s6 = .int .u32 x6 ∧ s7 = .int .u32 x7 ∧ Hid (rnds (sched B 64) v k = [x0, x1, x2, x3, x4, x5, x6, x7]) ∧ Wd wq E 38 (sched B 64) ∧ Wd wq D 37 v ∧ Wd wq (D + 1) 38 kk ∧ Frm0 w wq) (fun _ _ _ _ _ _ _ _ a _ => 64 - (intOf a).toNat)
          case atStart => exact ⟨0, v0, v1, v2, v3, v4, v5, v6, v7, by omega, rfl, rfl, rfl, rfl, rfl, rfl, rfl, rfl, rfl, HVE.out, hW, hV, hK, hF.drewN _⟩
          case round =>
            clear hW hV hK hF c0 c1 c2 c3 c4 c5 c6 c7
            obtain ⟨k, x0, x1, x2, x3, x4, x5, x6, x7, hk, rfl, rfl, rfl, rfl, rfl, rfl, rfl, rfl, rfl, HX, hW, hV, hK, hF⟩ := hrel
            by_cases hlt4 : k < 64
            · clear hT hM hTi hi hlt hii hDs hz8 hwE hEw hlt64 hg1 hb5
              have hki : (k : Int) < 64 := by omega
              have hki0 : (0 : Int) ≤ (k : Int) := by omega
              have hlt8 := rnds_lt (sched B 64) v HVB.out k
              rw [HX.out] at hlt8
              have b0 := hlt8 x0 (by simp)
              have b1 := hlt8 x1 (by simp)
              have b2 := hlt8 x2 (by simp)
              have b3 := hlt8 x3 (by simp)
              have b4 := hlt8 x4 (by simp)
              have b5 := hlt8 x5 (by simp)
              have b6 := hlt8 x6 (by simp)
              have b7 := hlt8 x7 (by simp)
              clear hlt8
              have ck := hK.cell k (by rw [HKL.out]; exact hlt4)
              have cw := hW.cell k (by rw [sched_len]; exact hlt4)
              have bk := KK_lt k
              have bw := getD_lt (sched_lt HB256.out 64) (by omega) k
              obtain ⟨y, hy⟩ : ∃ y, KK.getD k 0 = y := ⟨_, rfl⟩
              obtain ⟨z, hz⟩ : ∃ z, (sched B 64).getD k 0 = z := ⟨_, rfl⟩
              rw [HKK.out k] at ck
              rw [hy] at ck bk
              rw [hz] at cw bw
              have HY := Lib.hid hy
              have HZ := Lib.hid hz
              clear hy hz
              go_wp2_with fail
              go_quiet (first | with_reducible exact quiet_drew (rright_6 x4 b4 _) | with_reducible exact quiet_drew (rright_11 x4 b4 _) | with_reducible exact quiet_drew (rright_25 x4 b4 _))
              have hn : bits .xor .u32 (if IntKind.u32.signed = true then -1 else IntKind.u32.max) (x4 : Int) = 4294967295 - (x4 : Int) := not_u32 x4 b4
              simp only [up1s x4 b4, chs x4 x5 x6 _ b4 b5 b6 hn]
              simp only [hn]
              have hu1 : up1 x4 < 4294967296 := up1_lt b4
              have hc1 : ch x4 x5 x6 < 4294967296 := ch_lt b4 b5
              obtain ⟨U1, hU1⟩ : ∃ U1, up1 x4 = U1 := ⟨_, rfl⟩
              obtain ⟨C1, hC1⟩ : ∃ C1, ch x4 x5 x6 = C1 := ⟨_, rfl⟩
              rw [hU1] at hu1 ⊢
              rw [hC1] at hc1 ⊢
              have HU1 := Lib.hid hU1
              have HC1 := Lib.hid hC1
              obtain ⟨T1, hT1⟩ : ∃ T1, m32 (m32 (m32 (m32 (x7 + U1) + C1) + y) + z) = T1 := ⟨_, rfl⟩
              have hT1i : (((x7 : Int) + (U1 : Int) + (C1 : Int) + (y : Int)) % 4294967296 + (z : Int)) % 4294967296 = (T1 : Int) := by rw [← hT1]; unfold m32; omega
              have hT1l : T1 < 4294967296 := by rw [← hT1]; exact m32_lt _
              have HT1 := Lib.hid hT1
              clear hU1 hC1 hT1 hn
              rw [hT1i]
              clear hT1i hu1 hc1
              generalize ((x7 : Int) + (U1 : Int) + (C1 : Int) + (y : Int)) % 4294967296 = e3
              go_wp2_with fail
              refine (rright_2 x0 b0 _).mono ?_
              rintro e wa ⟨rfl, m1, rfl⟩
              go_wp2_with fail
              refine (rright_13 x0 b0 _).mono ?_
              rintro e wb ⟨rfl, m2, rfl⟩
              go_wp2_with fail
              refine (rright_22 x0 b0 _).mono ?_
              rintro e wd ⟨rfl, m3, rfl⟩
              go_wp2_with fail
              go_roundw
              case rel =>
                have hx' : rnds (sched B 64) v (k + 1) = [m32 (T1 + m32 (up0 x0 + mj x0 x1 x2)), x0, x1, x2, m32 (x3 + T1), x4, x5, x6] := by
                  show rnd (KK.getD k 0) ((sched B 64).getD k 0) (rnds (sched B 64) v k) = _
                  rw [HX.out, HY.out, HZ.out]
                  show [m32 (m32 (m32 (m32 (m32 (x7 + up1 x4) + ch x4 x5 x6) + y) + z) + m32 (up0 x0 + mj x0 x1 x2)), x0, x1, x2, m32 (x3 + m32 (m32 (m32 (m32 (x7 + up1 x4) + ch x4 x5 x6) + y) + z)), x4, x5, x6] = _
                  rw [HU1.out, HC1.out, HT1.out]
                repeat apply Exists.intro
                refine And.intro ?_ rfl
                refine ⟨k + 1, m32 (T1 + m32 (up0 x0 + mj x0 x1 x2)), x0, x1, x2, m32 (x3 + T1), x4, x5, x6, by omega, by go_num, congrArg (Value.int .u32) (by rw [up0s x0 b0, mjs x0 x1 x2 b0 b1 b2]; unfold m32; omega), rfl, rfl, rfl, congrArg (Value.int .u32) (by unfold m32; omega), rfl, rfl, rfl, hx', hW, hV, hK, ⟨hF.os, hF.tape, hF.output, hF.size, hF.block⟩⟩
              case measure => simp [intOf]; omega
            · obtain rfl : k = 64 := by omega
              have hlt8 := rnds_lt (sched B 64) v HVB.out 64
              rw [HX.out] at hlt8
              have b0 := hlt8 x0 (by simp)
              have b1 := hlt8 x1 (by simp)
              have b2 := hlt8 x2 (by simp)
              have b3 := hlt8 x3 (by simp)
              have b4 := hlt8 x4 (by simp)
              have b5 := hlt8 x5 (by simp)
              have b6 := hlt8 x6 (by simp)
              have b7 := hlt8 x7 (by simp)
              have hvb := HVB.out
              rw [HVE.out] at hvb
              have d0 := hvb v0 (by simp)
              have d1 := hvb v1 (by simp)
              have d2 := hvb v2 (by simp)
              have d3 := hvb v3 (by simp)
              have d4 := hvb v4 (by simp)
              have d5 := hvb v5 (by simp)
              have d6 := hvb v6 (by simp)
              have d7 := hvb v7 (by simp)
              clear hlt8 hvb
              have hV8c := hV
              rw [HVE.out] at hV8c
              obtain ⟨c0, c1, c2, c3, c4, c5, c6, c7⟩ := Wd.c8 hV8c
              have hV8s := u32s_size HV8.out
              go_wp2_with (refine wpList_store_blk rfl 37 (.tmp 3) (.tmp 223) rfl hV rfl rfl iV (us := _) rfl hV8s rfl ?_; intro w11 hb11 hf11)
              go_roundw
              case rel =>
                have hbs : blocks V0 (bytes T) (i + 1) = [m32 (v0 + x0), m32 (v1 + x1), m32 (v2 + x2), m32 (v3 + x3), m32 (v4 + x4), m32 (v5 + x5), m32 (v6 + x6), m32 (v7 + x7)] := by
                  rw [HBS.out]
                  unfold step
                  rw [HX.out, HVE.out]
                  rfl
                have hwd : Wd w11 D 37 (blocks V0 (bytes T) (i + 1)) := by
                  rw [hbs]
                  exact Wd.of8 hb11 (by unfold m32; omega) (by unfold m32; omega) (by unfold m32; omega) (by unfold m32; omega) (by unfold m32; omega) (by unfold m32; omega) (by unfold m32; omega) (by unfold m32; omega)
                have hs11 := hf11.size
                have hwl := Bk.lt hW
                first
                  | exact ⟨i + 1, by omega, by go_num, hwd, hf11.blk hK (by omega), hF.then_ hf11 (fun i hi e => by omega), by omega⟩
                  | exact ⟨i + 1, by omega, congrArg (Value.int .i64) (by omega), hwd, hf11.blk hK (by omega), hF.then_ hf11 (fun i hi e => by omega), by omega⟩
                  | ((repeat apply Exists.intro); refine And.intro ?_ rfl; exact ⟨i + 1, by omega, congrArg (Value.int .i64) (by omega), hwd, hf11.blk hK (by omega), hF.then_ hf11 (fun i hi e => by omega), by omega⟩)
              case measure => simp [intOf]; omega
    · obtain rfl : i = M := by omega
      have hvl : (blocks V0 (bytes T) i).length = 8 := blocks_len _ _
      have hvb := blocks_lt (bytes T) i
      have HVL := Lib.hid hvl
      have HVB := Lib.hid hvb
      clear hvl hvb hK
      obtain ⟨v, hv⟩ : ∃ v, blocks V0 (bytes T) i = v := ⟨_, rfl⟩
      rw [hv] at hV HVL HVB
      have HV := Lib.hid hv
      clear hv
      go_wp2_with fail
      go_loopw [23, 24] (fun a m wq => ∃ (k : Nat), k ≤ 8 ∧ m = .int .i64 k ∧ a = .string (txt (outB (v.take k))) ∧ Wd wq D 37 v ∧ Frm0 w wq) (fun _ m _ => 8 - (intOf m).toNat)
      case atStart => exact ⟨0, by omega, rfl, rfl, hV, hF⟩
      case round =>
        clear hV hF hlt hTi hi
        obtain ⟨k, hk, rfl, rfl, hV, hF⟩ := hrel
        by_cases hlt5 : k < 8
        · have hki : (k : Int) < 8 := by omega
          have hki0 : (0 : Int) ≤ (k : Int) := by omega
          have hcx := hV.cell k (by rw [HVL.out]; exact hlt5)
          have hxb := getD_lt HVB.out (by omega) k
          have HT := Lib.hid (outB_take v k (by rw [HVL.out]; exact hlt5))
          generalize v.getD k 0 = x at *
          have hz1 : (txt (outB (v.take k))).size = 4 * k := by rw [txt_size, outB_len, List.length_take, HVL.out]; omega
          have hz2 : (txt (be4 x)).size = 4 := by rw [txt_size]; rfl
          have hz4 : (4 : Int) * (k : Int) + 4 ≤ 9223372036854775807 := by omega
          have hz3 : ¬ (9223372036854775807 : Int) < ((txt (outB (v.take k))).size : Int) + ((txt (be4 x)).size : Int) := by rw [hz1, hz2]; omega
          have hz5 : ¬ 9223372036854775807 < 4 * k + 4 := by omega
          have hcv1 : (convert 43 9 (.slice (some ⟨wr.heap.size, 0, none⟩) 4 4)).run Try.prog (wr.drew.alloc (.cells #[.int .u8 (IntKind.u8.wrap ((x : Int) / 16777216)), .int .u8 (IntKind.u8.wrap ((x : Int) / 65536)), .int .u8 (IntKind.u8.wrap ((x : Int) / 256)), .int .u8 (IntKind.u8.wrap (x : Int))] 5)) = .ok (.string (txt (be4 x))) (wr.drew.alloc (.cells #[.int .u8 (IntKind.u8.wrap ((x : Int) / 16777216)), .int .u8 (IntKind.u8.wrap ((x : Int) / 65536)), .int .u8 (IntKind.u8.wrap ((x : Int) / 256)), .int .u8 (IntKind.u8.wrap (x : Int))] 5)) := conv4 wr.drew x _ _ _ _ (IntKind.wrap_u8' _) (IntKind.wrap_u8' _) (IntKind.wrap_u8' _) (IntKind.wrap_u8' _)
          have hcv2 : (convert 43 9 (.slice (some ⟨wr.heap.size, 0, none⟩) 4 4)).run Try.prog (wr.alloc (.cells #[.int .u8 (IntKind.u8.wrap ((x : Int) / 16777216)), .int .u8 (IntKind.u8.wrap ((x : Int) / 65536)), .int .u8 (IntKind.u8.wrap ((x : Int) / 256)), .int .u8 (IntKind.u8.wrap (x : Int))] 5)).drew = .ok (.string (txt (be4 x))) (wr.alloc (.cells #[.int .u8 (IntKind.u8.wrap ((x : Int) / 16777216)), .int .u8 (IntKind.u8.wrap ((x : Int) / 65536)), .int .u8 (IntKind.u8.wrap ((x : Int) / 256)), .int .u8 (IntKind.u8.wrap (x : Int))] 5)).drew := hcv1
          go_wp2_with fail
          refine wp_region_held_drew (S := fun w9 => w9.cell? ⟨D, k, none⟩ = some (.int .u32 (x : Nat))) (by kernel_rfl) (hcx) (fun hHeld => ?_)
          skip
          refine wpAnyH_take (i := 0) (v := ?_) rfl (by kernel_rfl) (by kernel_rfl) (by kernel_rfl) (fun _ _ _ h => h) (Or.inl ⟨by rfl, ?_⟩) (by assumption) ?_
          rotate_left 1
          focus (intro w hSw; (try dsimp only at hSw); go_simp; (try with_reducible rfl))
          (try simp only [Act.put, List.getElem_toArray, List.getElem_cons_succ, List.getElem_cons_zero, List.setIfInBounds_toArray, List.set_cons_zero, List.set_cons_succ])
          refine wpAnyH_take (i := 1) (v := ?_) rfl (by kernel_rfl) (by kernel_rfl) (by kernel_rfl) (fun _ _ _ h => h) (Or.inl ⟨by rfl, ?_⟩) (by assumption) ?_
          rotate_left 1
          focus (intro w hSw; (try dsimp only at hSw); go_simp; (try with_reducible rfl))
          (try simp only [Act.put, List.getElem_toArray, List.getElem_cons_succ, List.getElem_cons_zero, List.setIfInBounds_toArray, List.set_cons_zero, List.set_cons_succ])
          refine wpAnyH_take (i := 2) (v := ?_) rfl (by kernel_rfl) (by kernel_rfl) (by kernel_rfl) (fun _ _ _ h => h) (Or.inl ⟨by rfl, ?_⟩) (by assumption) ?_
          rotate_left 1
          focus (intro w hSw; (try dsimp only at hSw); go_simp; (try with_reducible rfl))
          (try simp only [Act.put, List.getElem_toArray, List.getElem_cons_succ, List.getElem_cons_zero, List.setIfInBounds_toArray, List.set_cons_zero, List.set_cons_succ])
          refine wpAnyH_take (i := 3) (v := ?_) rfl (by kernel_rfl) (by kernel_rfl) (by kernel_rfl) (fun _ _ _ h => h) (Or.inl ⟨by rfl, ?_⟩) (by assumption) ?_
          rotate_left 1
          focus (intro w hSw; (try dsimp only at hSw); (try simp only [hSw]); go_simp; (try with_reducible rfl))
          (try simp only [Act.put, List.getElem_toArray, List.getElem_cons_succ, List.getElem_cons_zero, List.setIfInBounds_toArray, List.set_cons_zero, List.set_cons_succ])
          refine wpAnyH_take (i := 4) (v := ?_) rfl (by kernel_rfl) (by kernel_rfl) (by kernel_rfl) (fun _ _ _ h => h) (Or.inl ⟨by rfl, ?_⟩) (by assumption) ?_
          rotate_left 1
          focus (intro w hSw; (try dsimp only at hSw); go_simp; (try with_reducible rfl))
          (try simp only [Act.put, List.getElem_toArray, List.getElem_cons_succ, List.getElem_cons_zero, List.setIfInBounds_toArray, List.set_cons_zero, List.set_cons_succ])
          refine wpAnyH_take (i := 5) (v := ?_) rfl (by kernel_rfl) (by kernel_rfl) (by kernel_rfl) (fun _ _ _ h => h) (Or.inl ⟨by rfl, ?_⟩) (by assumption) ?_
          rotate_left 1
          focus (intro w hSw; (try dsimp only at hSw); go_simp; (try with_reducible rfl))
          (try simp only [Act.put, List.getElem_toArray, List.getElem_cons_succ, List.getElem_cons_zero, List.setIfInBounds_toArray, List.set_cons_zero, List.set_cons_succ])
          refine wpAnyH_take (i := 6) (v := ?_) rfl (by kernel_rfl) (by kernel_rfl) (by kernel_rfl) (fun _ _ _ h => h) (Or.inl ⟨by rfl, ?_⟩) (by assumption) ?_
          rotate_left 1
          focus (intro w hSw; (try dsimp only at hSw); go_simp; (try with_reducible rfl))
          (try simp only [Act.put, List.getElem_toArray, List.getElem_cons_succ, List.getElem_cons_zero, List.setIfInBounds_toArray, List.set_cons_zero, List.set_cons_succ])
          refine wpAnyH_take (i := 7) (v := ?_) rfl (by kernel_rfl) (by kernel_rfl) (by kernel_rfl) (fun _ _ _ h => h) (Or.inl ⟨by rfl, ?_⟩) (by assumption) ?_
          rotate_left 1
          focus (intro w hSw; (try dsimp only at hSw); go_simp; (try with_reducible rfl))
          (try simp only [Act.put, List.getElem_toArray, List.getElem_cons_succ, List.getElem_cons_zero, List.setIfInBounds_toArray, List.set_cons_zero, List.set_cons_succ])
          refine wpAnyH_take (i := 8) (v := ?_) rfl (by kernel_rfl) (by kernel_rfl) (by kernel_rfl) (fun _ _ _ h => h) (Or.inl ⟨by rfl, ?_⟩) (by assumption) ?_
          rotate_left 1
          focus (intro w hSw; (try dsimp only at hSw); (try simp only [hSw]); go_simp; (try with_reducible rfl))
          (try simp only [Act.put, List.getElem_toArray, List.getElem_cons_succ, List.getElem_cons_zero, List.setIfInBounds_toArray, List.set_cons_zero, List.set_cons_succ])
          refine wpAnyH_take (i := 9) (v := ?_) rfl (by kernel_rfl) (by kernel_rfl) (by kernel_rfl) (fun _ _ _ h => h) (Or.inl ⟨by rfl, ?_⟩) (by assumption) ?_
          rotate_left 1
          focus (intro w hSw; (try dsimp only at hSw); go_simp; (try with_reducible rfl))
          (try simp only [Act.put, List.getElem_toArray, List.getElem_cons_succ, List.getElem_cons_zero, List.setIfInBounds_toArray, List.set_cons_zero, List.set_cons_succ])
          refine wpAnyH_take (i := 10) (v := ?_) rfl (by kernel_rfl) (by kernel_rfl) (by kernel_rfl) (fun _ _ _ h => h) (Or.inl ⟨by rfl, ?_⟩) (by assumption) ?_
          rotate_left 1
          focus (intro w hSw; (try dsimp only at hSw); go_simp; (try with_reducible rfl))
          (try simp only [Act.put, List.getElem_toArray, List.getElem_cons_succ, List.getElem_cons_zero, List.setIfInBounds_toArray, List.set_cons_zero, List.set_cons_succ])
          refine wpAnyH_take (i := 11) (v := ?_) rfl (by kernel_rfl) (by kernel_rfl) (by kernel_rfl) (fun _ _ _ h => h) (Or.inl ⟨by rfl, ?_⟩) (by assumption) ?_
          rotate_left 1
          focus (intro w hSw; (try dsimp only at hSw); go_simp; (try with_reducible rfl))
          (try simp only [Act.put, List.getElem_toArray, List.getElem_cons_succ, List.getElem_cons_zero, List.setIfInBounds_toArray, List.set_cons_zero, List.set_cons_succ])
          refine wpAnyH_take (i := 12) (v := ?_) rfl (by kernel_rfl) (by kernel_rfl) (by kernel_rfl) (fun _ _ _ h => h) (Or.inl ⟨by rfl, ?_⟩) (by assumption) ?_
          rotate_left 1
          focus (intro w hSw; (try dsimp only at hSw); go_simp; (try with_reducible rfl))
          (try simp only [Act.put, List.getElem_toArray, List.getElem_cons_succ, List.getElem_cons_zero, List.setIfInBounds_toArray, List.set_cons_zero, List.set_cons_succ])
          refine wpAnyH_take (i := 13) (v := ?_) rfl (by kernel_rfl) (by kernel_rfl) (by kernel_rfl) (fun _ _ _ h => h) (Or.inl ⟨by rfl, ?_⟩) (by assumption) ?_
          rotate_left 1
          focus (intro w hSw; (try dsimp only at hSw); (try simp only [hSw]); go_simp; (try with_reducible rfl))
          (try simp only [Act.put, List.getElem_toArray, List.getElem_cons_succ, List.getElem_cons_zero, List.setIfInBounds_toArray, List.set_cons_zero, List.set_cons_succ])
          refine wpAnyH_take (i := 14) (v := ?_) rfl (by kernel_rfl) (by kernel_rfl) (by kernel_rfl) (fun _ _ _ h => h) (Or.inl ⟨by rfl, ?_⟩) (by assumption) ?_
          rotate_left 1
          focus (intro w hSw; (try dsimp only at hSw); go_simp; (try with_reducible rfl))
          (try simp only [Act.put, List.getElem_toArray, List.getElem_cons_succ, List.getElem_cons_zero, List.setIfInBounds_toArray, List.set_cons_zero, List.set_cons_succ])
          refine wpAnyH_take (i := 15) (v := ?_) rfl (by kernel_rfl) (by kernel_rfl) (by kernel_rfl) (fun _ _ _ h => h) (Or.inl ⟨by rfl, ?_⟩) (by assumption) ?_
          rotate_left 1
          focus (intro w hSw; (try dsimp only at hSw); go_simp; (try with_reducible rfl))
          (try simp only [Act.put, List.getElem_toArray, List.getElem_cons_succ, List.getElem_cons_zero, List.setIfInBounds_toArray, List.set_cons_zero, List.set_cons_succ])
          refine wpAnyH_take (i := 16) (v := ?_) rfl (by kernel_rfl) (by kernel_rfl) (by kernel_rfl) (fun _ _ _ h => h) (Or.inl ⟨by rfl, ?_⟩) (by assumption) ?_
          rotate_left 1
          focus (intro w hSw; (try dsimp only at hSw); go_simp; (try with_reducible rfl))
          (try simp only [Act.put, List.getElem_toArray, List.getElem_cons_succ, List.getElem_cons_zero, List.setIfInBounds_toArray, List.set_cons_zero, List.set_cons_succ])
          refine wpAnyH_take (i := 17) (v := ?_) rfl (by kernel_rfl) (by kernel_rfl) (by kernel_rfl) (fun _ _ _ h => h) (Or.inl ⟨by rfl, ?_⟩) (by assumption) ?_
          rotate_left 1
          focus (intro w hSw; (try dsimp only at hSw); go_simp; (try with_reducible rfl))
          (try simp only [Act.put, List.getElem_toArray, List.getElem_cons_succ, List.getElem_cons_zero, List.setIfInBounds_toArray, List.set_cons_zero, List.set_cons_succ])
          refine wpAnyH_take (i := 18) (v := ?_) rfl (by kernel_rfl) (by kernel_rfl) (by kernel_rfl) (fun _ _ _ h => h) (Or.inl ⟨by rfl, ?_⟩) (by assumption) ?_
          rotate_left 1
          focus (intro w hSw; (try dsimp only at hSw); (try simp only [hSw]); go_simp; (try with_reducible rfl))
          (try simp only [Act.put, List.getElem_toArray, List.getElem_cons_succ, List.getElem_cons_zero, List.setIfInBounds_toArray, List.set_cons_zero, List.set_cons_succ])
          refine wpAnyH_take (i := 19) (v := ?_) rfl (by kernel_rfl) (by kernel_rfl) (by kernel_rfl) (fun _ _ _ h => h) (Or.inl ⟨by rfl, ?_⟩) (by assumption) ?_
          rotate_left 1
          focus (intro w hSw; (try dsimp only at hSw); go_simp; (try with_reducible rfl))
          (try simp only [Act.put, List.getElem_toArray, List.getElem_cons_succ, List.getElem_cons_zero, List.setIfInBounds_toArray, List.set_cons_zero, List.set_cons_succ])
          refine wpAnyH_ready (rs := [20]) (by kernel_rfl) (by simp) ?_
          refine AllReadyH.cons rfl (fun K hK => ?_) AllReadyH.nil
          rw [if_pos (by rfl)]
          go_simp
          refine hK.out _ _ (cell_al (by assumption)) (fun hHeld => ?_)
          clear hK K
          (try simp only [Act.put, List.getElem_toArray, List.getElem_cons_succ, List.getElem_cons_zero, List.setIfInBounds_toArray, List.set_cons_zero, List.set_cons_succ])
          refine wpAnyH_ready (rs := [21]) (by kernel_rfl) (by simp) ?_
          refine AllReadyH.cons rfl (fun K hK => ?_) AllReadyH.nil
          rw [if_pos (by rfl)]
          go_simp
          refine hK.out _ _ (by assumption) (fun hHeld => ?_)
          clear hK K
          (try simp only [Act.put, List.getElem_toArray, List.getElem_cons_succ, List.getElem_cons_zero, List.setIfInBounds_toArray, List.set_cons_zero, List.set_cons_succ])
          refine wpAnyH_ready (rs := [22]) (by kernel_rfl) (by simp) ?_
          refine AllReadyH.cons rfl (fun K hK => ?_) AllReadyH.nil
          rw [if_pos (by rfl)]
          go_simp
          refine hK.out _ _ (by assumption) (fun hHeld => ?_)
          clear hK K
          (try simp only [Act.put, List.getElem_toArray, List.getElem_cons_succ, List.getElem_cons_zero, List.setIfInBounds_toArray, List.set_cons_zero, List.set_cons_succ])
          refine wpAnyH_ready (rs := [23]) (by kernel_rfl) (by simp) ?_
          refine AllReadyH.cons rfl (fun K hK => ?_) AllReadyH.nil
          rw [if_pos (by rfl)]
          go_simp
          refine hK.out _ _ (by assumption) (fun hHeld => ?_)
          clear hK K
          (try simp only [Act.put, List.getElem_toArray, List.getElem_cons_succ, List.getElem_cons_zero, List.setIfInBounds_toArray, List.set_cons_zero, List.set_cons_succ])
          refine wpAnyH_done (by kernel_rfl) ?_ _
          go_wp2_with fail
          go_roundw
          case rel =>
            have htx : txt (outB (v.take (k + 1))) = txt (outB (v.take k)) ++ txt (be4 x) := by rw [HT.out]; exact txt_app (outB_lt _) (be4_lt x)
            first
              | exact ⟨k + 1, by omega, by go_num, by rw [htx], Bk.alloc (show wr.drew.heap[D]? = _ from hV) _, hF.drew.alloc _⟩
              | ((repeat apply Exists.intro); refine And.intro ?_ rfl; exact ⟨k + 1, by omega, by go_num, by rw [htx], Bk.alloc (show wr.drew.heap[D]? = _ from hV) _, hF.drew.alloc _⟩)
              | exact ⟨k + 1, by omega, by go_num, by rw [htx], (show (wr.alloc _).heap[D]? = _ from Bk.alloc hV _), (hF.alloc _).drew⟩
          case measure => simp [intOf]; omega
        · obtain rfl : k = 8 := by omega
          rw [List.take_of_length_le (by rw [HVL.out]; exact Nat.le_refl _)]
          go_wp2_with fail
          go_ret
          rw [HV.out]
          exact ⟨rfl, hF⟩
end Sh
end Go.Proofs.Ytmpbgnopejeelaa
