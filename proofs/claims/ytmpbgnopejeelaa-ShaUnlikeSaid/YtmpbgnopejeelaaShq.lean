/- SHA-256: the reference's Hex; the walks of ShaTexts and ShaUnlike. -/
import Derived.Test.YtmpbgnopejeelaaShp
import Derived.Test.YtmpbgnopejeelaaShl
namespace Go.Proofs.Ytmpbgnopejeelaa
open Go.RowKit
set_option linter.unusedVariables false
set_option linter.unusedSimpArgs false
set_option maxRecDepth 100000
section
variable {P : Program} {ops : Array Oper} {rest : List Oper} {o : Oper} {a : Act} {w : World} {Q : Exit → Act → World → Prop}
/-- A struct loaded from the block that is its own, where a guard lets it. -/
theorem wpList_load_blk_g (hw : Region.wanted o (yielded ops a.tmps) = true) (ty : TypeId) (x : Operand) (ho : o.op = .load ty x) {b : Nat} {t : TypeId} {l : List Value} {d : TypeDesc} (h : w.heap[b]? = some (.cells l.toArray t (0, 0)))
    (hx : a.eval x = .pointer (some ⟨b, 0, none⟩)) (hu : P.underlying ty = some d) (hd : d.isRow = true) {n : Nat} (hi : (P.info? ty).map (·.size) = some n) (hl : l.length = n)
    (hK : wpList P ops Q rest (a.put o.dst (.agg l.toArray)) w) : wpList P ops Q (o :: rest) a w :=
  wpList_step fun _ hk => by rw [if_pos hw]; exact wp_load_mid ty x ho b 0 hx l d (Bk.range h l rfl) hu hd (by rw [hi, hl]) (hk _ _ hK)
end
namespace Sh
theorem conv1 (w : World) (y : Nat) (r : Int) (h : r = (y : Int)) :
    (convert 43 9 (.slice (some ⟨w.heap.size, 0, none⟩) 1 1)).run Try.prog (w.alloc (.cells #[.int .u8 r] 5)) = .ok (.string (txt [y])) (w.alloc (.cells #[.int .u8 r] 5)) := by
  subst h
  exact Bw.conv (Bw.first w [y] (show 1 ≤ 1000 by decide))
theorem hd_lt (n : Nat) (h : n < 16) : hd n < 256 := by unfold hd; split <;> omega
set_option maxHeartbeats 4000000 in
theorem rhex_any (s : ByteArray) (hs : s.size ≤ 1000) (w : World) : Calls Try.prog 34 #[.string s] w fun e w' => e = .returned (.string (txt (hexB (bytes s)))) ∧ Frm0 w w' := by
  go_enter Try.func34, Try.ntmps34
  go_wp2_with fail
  go_loopw [3, 4] (fun u i wr => ∃ (k : Nat), k ≤ s.size ∧ i = .int .i64 k ∧ u = .string (txt (hexB ((bytes s).take k))) ∧ Frm0 w wr) (fun _ i _ => s.size - (intOf i).toNat)
  case atStart => exact ⟨0, by omega, rfl, rfl, Frm.refl _ _⟩
  case round =>
    obtain ⟨k, hk, rfl, rfl, hF⟩ := hrel
    by_cases hlt : k < s.size
    · have hki : (k : Int) < (s.size : Int) := by omega
      have hol : (hexB ((bytes s).take k)).length = 2 * k := by rw [hexB_len, List.length_take, bytes_len]; omega
      have hb := bget s k hlt
      obtain ⟨x, hx⟩ : ∃ x, (s[k]'hlt).toNat = x := ⟨_, rfl⟩
      have hx256 : x < 256 := by rw [← hx]; exact (s[k]'hlt).toNat_lt
      rw [hx] at hb
      have HT := Lib.hid (hexB_take (bytes s) k x (by rw [bytes_len]; exact hlt) hb)
      have hlx : ∀ b ∈ hexB ((bytes s).take k), b < 256 := hex_lt _ (fun b hb => bytes_lt s b (List.mem_of_mem_take hb))
      clear hb
      generalize hexB ((bytes s).take k) = A at *
      have HOL := Lib.hid hol
      have HLX := Lib.hid hlx
      clear hol hlx
      go_wp2_with fail
      go_loopw [3, 5] (fun u i wq => ∃ (q : Nat), q ≤ 2 ∧ i = .int .i64 q ∧ u = .string (txt (A ++ [hd (x / 16), hd (x % 16)].take q)) ∧ Frm0 w wq) (fun _ i _ => 2 - (intOf i).toNat)
      case atStart => exact ⟨0, by omega, rfl, by rw [List.take_zero, List.append_nil], hF⟩
      case round =>
        clear hF
        obtain ⟨q, hq, rfl, rfl, hF⟩ := hrel
        have hq3 : q = 0 ∨ q = 1 ∨ q = 2 := by omega
        rcases hq3 with rfl | rfl | rfl
        · rw [List.take_zero, List.append_nil]
          have hy : hd (x / 16) < 256 := hd_lt _ (by omega)
          have htx : txt (A ++ [hd (x / 16), hd (x % 16)].take 1) = txt A ++ txt [hd (x / 16)] := txt_app HLX.out (fun b hb => by rw [List.mem_singleton.1 hb]; exact hy)
          have HTX := Lib.hid htx
          have z1 : (txt A).size = 2 * k := by rw [txt_size, HOL.out]
          have z2 : (txt [hd (x / 16)]).size = 1 := by rw [txt_size]; rfl
          have z3 : ¬ (9223372036854775807 : Int) < ((txt A).size : Int) + ((txt [hd (x / 16)]).size : Int) := by rw [z1, z2]; omega
          have z5 : ¬ 9223372036854775807 < 2 * k + 1 := by omega
          clear htx
          by_cases h10 : x / 16 < 10
          · have h10i : (x : Int) / 16 < 10 := by omega
            have hcv := conv1 wr (hd (x / 16)) (48 + (x : Int) / 16) (by unfold hd; rw [if_pos h10]; omega)
            go_wp2_with fail
            go_roundw
            case rel => exact ⟨1, by omega, rfl, by rw [HTX.out], hF.alloc _⟩
            case measure => simp [intOf]
          · have h10i : ¬ (x : Int) / 16 < 10 := by omega
            have h10d : decide ((x : Int) / 16 < 10) = false := decide_eq_false h10i
            have hcv := conv1 wr (hd (x / 16)) (97 + (x : Int) / 16 - 10) (by unfold hd; rw [if_neg h10]; omega)
            go_wp2_with fail
            go_roundw
            case rel => exact ⟨1, by omega, rfl, by rw [HTX.out], hF.alloc _⟩
            case measure => simp [intOf]
        · have e1 : A ++ [hd (x / 16), hd (x % 16)].take 1 = A ++ [hd (x / 16)] := rfl
          rw [e1]
          have hy0 : hd (x / 16) < 256 := hd_lt _ (by omega)
          have hy : hd (x % 16) < 256 := hd_lt _ (by omega)
          have htx : txt (A ++ [hd (x / 16), hd (x % 16)].take 2) = txt (A ++ [hd (x / 16)]) ++ txt [hd (x % 16)] := by
            rw [← txt_app (fun b hb => (List.mem_append.1 hb).elim (HLX.out b) (fun hb => by rw [List.mem_singleton.1 hb]; exact hy0)) (fun b hb => by rw [List.mem_singleton.1 hb]; exact hy), List.append_assoc]
            rfl
          have HTX := Lib.hid htx
          have z1 : (txt (A ++ [hd (x / 16)])).size = 2 * k + 1 := by rw [txt_size, List.length_append, HOL.out]; rfl
          have z2 : (txt [hd (x % 16)]).size = 1 := by rw [txt_size]; rfl
          have z3 : ¬ (9223372036854775807 : Int) < ((txt (A ++ [hd (x / 16)])).size : Int) + ((txt [hd (x % 16)]).size : Int) := by rw [z1, z2]; omega
          have z5 : ¬ 9223372036854775807 < 2 * k + 1 + 1 := by omega
          clear htx
          generalize txt (A ++ [hd (x / 16)]) = TA at *
          by_cases h10 : x % 16 < 10
          · have h10i : (x : Int) % 16 < 10 := by omega
            have hcv := conv1 wr (hd (x % 16)) (48 + (x : Int) % 16) (by unfold hd; rw [if_pos h10]; omega)
            go_wp2_with fail
            go_roundw
            case rel => exact ⟨2, by omega, rfl, by rw [HTX.out], hF.alloc _⟩
            case measure => simp [intOf]
          · have h10i : ¬ (x : Int) % 16 < 10 := by omega
            have h10d : decide ((x : Int) % 16 < 10) = false := decide_eq_false h10i
            have hcv := conv1 wr (hd (x % 16)) (97 + (x : Int) % 16 - 10) (by unfold hd; rw [if_neg h10]; omega)
            go_wp2_with fail
            go_roundw
            case rel => exact ⟨2, by omega, rfl, by rw [HTX.out], hF.alloc _⟩
            case measure => simp [intOf]
        · have e2 : txt (A ++ [hd (x / 16), hd (x % 16)].take 2) = txt (hexB ((bytes s).take (k + 1))) := by rw [HT.out]; rfl
          rw [e2]
          go_wp2_with fail
          go_roundw
          case rel => exact ⟨k + 1, by omega, by go_num, rfl, hF⟩
          case measure => simp [intOf]; omega
    · obtain rfl : k = s.size := by omega
      rw [List.take_of_length_le (by rw [bytes_len]; exact Nat.le_refl _)]
      go_wp2
      go_ret
      exact ⟨rfl, hF⟩
theorem bl_eq {w : World} {b : Nat} {t : TypeId} {l : List Nat} (h : Wd w b t l) : w.heap[b]? = some (.cells (u32s l).toArray t (0, 0)) := h
set_option maxHeartbeats 4000000 in
theorem texts_walk' (V KL : List Nat) (hVl : V.length = 8) (hKl : KL.length = 64)
    (hR : ∀ w, Calls Try.prog 29 #[] w fun e w' => e = .returned (.tuple #[.agg (u32s V).toArray, .agg (u32s KL).toArray]) ∧ Frm0 w w')
    (hT : ∀ w, Calls Try.prog 30 #[] w fun e w' => e = .returned (.tuple #[.agg (u32s V).toArray, .agg (u32s KL).toArray]) ∧ Frm0 w w')
    (eqV : ∀ w, (binOp .eql 37 (.agg (u32s V).toArray) (.agg (u32s V).toArray)).run Try.prog w = .ok (.bool true) w)
    (eqK : ∀ w, (binOp .eql 38 (.agg (u32s KL).toArray) (.agg (u32s KL).toArray)).run Try.prog w = .ok (.bool true) w)
    (s : ByteArray) (w : World) :
    Calls Try.prog 6 #[.string s] w fun e w' => e = .returned (.bool true) ∧ Below w.heap.size w w' := by
  by_cases h300 : 300 < s.size
  · go_enter Try.func6, Try.ntmps6
    go_wp2_with fail
    refine (awake_any _).mono ?_
    rintro e w1 ⟨rfl, hf1⟩
    go_wp2
    go_ret
    exact ⟨rfl, hf1.below (fun _ _ h => h)⟩
  have hsi : ¬ (300 : Int) < (s.size : Int) := by omega
  have hV8 : (u32s V).length = 8 := by rw [u32s_len, hVl]
  have hK64 : (u32s KL).length = 64 := by rw [u32s_len, hKl]
  have HV8 := Lib.hid hV8
  have HK64 := Lib.hid hK64
  have HR := Lib.hid hR
  have HTb := Lib.hid hT
  clear hVl hKl hV8 hK64 hR hT
  go_enter Try.func6, Try.ntmps6
  go_wp2_with fail
  refine (awake_any _).mono ?_
  rintro e w1 ⟨rfl, hf1⟩
  go_wp2_with fail
  refine (HR.out _).mono ?_
  rintro e w2 ⟨rfl, hf2⟩
  have hF2 := hf1.trans hf2
  go_wp2_with (first
    | (refine wpList_alloc_any rfl 37 3 rfl rfl (.cells (u32s (List.replicate 8 0)).toArray 37) (by rfl) ?_; intro w3 hz3 hN3 hf3)
    | (refine wpList_alloc_any rfl 38 4 rfl rfl (.cells (u32s (List.replicate 64 0)).toArray 38) (by rfl) ?_; intro w4 hz4 hN4 hf4)
    | (refine wpList_store_blk rfl 37 (.tmp 3) (.tmp 14) rfl (hf4.blk hN3 (fun h => h)) rfl rfl iV (us := (u32s V).toArray) (u32s_size (by have := HV8.out; rwa [u32s_len] at this)) zeros8 (u32s_one' _) ?_; intro w5 hb5 hf5)
    | (refine wpList_store_blk rfl 38 (.tmp 4) (.tmp 15) rfl (hf5.blk hN4 (by omega)) rfl rfl iW (us := (u32s KL).toArray) (u32s_size (by have := HK64.out; rwa [u32s_len] at this)) zeros64 (u32s_one' _) ?_; intro w6 hb6 hf6))
  have hb5 := hf6.blk hb5 (by omega)
  have hzz := hz3
  rw [hz3] at hb6
  have hg2 := hF2.size
  have hF6 := ((((hF2.trans hf3).trans hf4).then_ hf5 (fun i hi e => by omega)).then_ hf6 (fun i hi e => by omega))
  clear hf1 hf2 hf3 hf4 hf5 hf6 hN3 hN4 hz3 hz4 hF2
  generalize w2.heap.size = D at *
  refine (HTb.out _).mono ?_
  rintro e w7 ⟨rfl, hf7⟩
  have hb5 := hf7.blk hb5 (fun h => h)
  have hb6 := hf7.blk hb6 (fun h => h)
  have hF7 := hF6.trans hf7
  have hg7 := Bk.lt hb6
  clear hf7 hF6
  go_wp2_with (first
    | (refine wpList_alloc_any rfl 37 5 rfl rfl (.cells (u32s (List.replicate 8 0)).toArray 37) (by rfl) ?_; intro w8 hz8 hN8 hf8)
    | (refine wpList_alloc_any rfl 38 6 rfl rfl (.cells (u32s (List.replicate 64 0)).toArray 38) (by rfl) ?_; intro w9 hz9 hN9 hf9)
    | (refine wpList_store_blk rfl 37 (.tmp 5) (.tmp 18) rfl (hf9.blk hN8 (fun h => h)) rfl rfl iV (us := (u32s V).toArray) (u32s_size (by have := HV8.out; rwa [u32s_len] at this)) zeros8 (u32s_one' _) ?_; intro wa hba hfa)
    | (refine wpList_store_blk rfl 38 (.tmp 6) (.tmp 19) rfl (hfa.blk hN9 (by omega)) rfl rfl iW (us := (u32s KL).toArray) (u32s_size (by have := HK64.out; rwa [u32s_len] at this)) zeros64 (u32s_one' _) ?_; intro wb hbb hfb)
    | (refine wpList_load_blk rfl 37 (.tmp 3) rfl (hfb.blk (hfa.blk (hf9.blk (hf8.blk hb5 (fun h => h)) (fun h => h)) (by omega)) (by omega)) rfl Try.underlying37 rfl iV HV8.out ?_)
    | (refine wpList_load_blk rfl 37 (.tmp 5) rfl (hfb.blk hba (by omega)) rfl Try.underlying37 rfl iV HV8.out ?_)
    | (refine wpList_load_blk_g (by rfl) 38 (.tmp 4) rfl (hfb.blk (hfa.blk (hf9.blk (hf8.blk hb6 (fun h => h)) (fun h => h)) (by omega)) (by omega)) rfl Try.underlying38 rfl iW HK64.out ?_)
    | (refine wpList_load_blk_g (by rfl) 38 (.tmp 6) rfl (b := w7.heap.size + 1) (t := 38) (hz8 ▸ hbb) rfl Try.underlying38 rfl iW HK64.out ?_))
  have hFb := (((hF7.trans hf8).trans hf9).then_ hfa (fun i hi e => by have := hF7.size; omega)).then_ hfb (fun i hi e => by have := hF7.size; omega)
  clear hf8 hf9 hfa hfb hN8 hN9 hz8 hz9 hba hbb hb5 hb6 hF7
  obtain ⟨d, hd⟩ : ∃ d, dig (bytes s) = d := ⟨_, rfl⟩
  have HSM := Lib.hid (fun w => sha_sum s (by omega) w)
  have HRS := Lib.hid (fun w => rsum_any s (by omega) w)
  have HHX := Lib.hid (fun w => hex_any s (by omega) w)
  have HRH := Lib.hid (fun w => rhex_any s (by omega) w)
  rw [hd] at HSM HRS
  generalize txt (hexB (bytes s)) = hx at *
  clear hd
  refine (HSM.out _).mono ?_
  rintro e wc ⟨rfl, hfc⟩
  go_wp2_with fail
  refine (HRS.out _).mono ?_
  rintro e wd ⟨rfl, hfd⟩
  go_wp2_with fail
  refine (HHX.out _).mono ?_
  rintro e we ⟨rfl, hfe⟩
  go_wp2_with fail
  refine (HRH.out _).mono ?_
  rintro e wf ⟨rfl, hff⟩
  go_wp2_with fail
  go_ret
  exact ⟨rfl, ((((hFb.trans hfc).trans hfd).trans hfe).trans hff).below (fun _ _ h => h)⟩
theorem eqV0 (w : World) : (binOp .eql 37 (.agg (u32s V0).toArray) (.agg (u32s V0).toArray)).run Try.prog w = .ok (.bool true) w := by kernel_rfl
theorem eqKK (w : World) : (binOp .eql 38 (.agg (u32s KK).toArray) (.agg (u32s KK).toArray)).run Try.prog w = .ok (.bool true) w := by kernel_rfl
theorem texts_walk (s : ByteArray) (w : World) : Calls Try.prog 6 #[.string s] w fun e w' => e = .returned (.bool true) ∧ Below w.heap.size w w' :=
  texts_walk' V0 KK V0_len KK_len Rt.roots_any table_any eqV0 eqKK s w
end Sh
end Go.Proofs.Ytmpbgnopejeelaa
