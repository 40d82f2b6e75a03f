/- SHA-256: contract of schedule. -/
import Derived.Test.YtmpbgnopejeelaaShb
namespace Go.Proofs.Ytmpbgnopejeelaa
open Go.RowKit
set_option linter.unusedVariables false
set_option linter.unusedSimpArgs false
set_option maxRecDepth 100000
namespace Sh
theorem sched_len (b : List Nat) : ∀ n, (sched b n).length = n
  | 0 => rfl
  | n + 1 => by unfold sched; rw [List.length_append, sched_len b n]; rfl
/-- The words so far, and zeros. -/
def Lw (b : List Nat) (k : Nat) : List Nat := sched b k ++ List.replicate (64 - k) 0
theorem Lw_len (b : List Nat) {k : Nat} (h : k ≤ 64) : (Lw b k).length = 64 := by unfold Lw; rw [List.length_append, sched_len, List.length_replicate]; omega
theorem Lw_set (b : List Nat) {k : Nat} (h : k < 64) : (Lw b k).set k (if k < 16 then word b k else nextW (sched b k) k) = Lw b (k + 1) := by
  unfold Lw
  rw [List.set_append_right _ _ (by rw [sched_len]; exact Nat.le_refl _), sched_len, Nat.sub_self, show 64 - k = (64 - (k + 1)) + 1 by omega, List.replicate_succ, List.set_cons_zero]
  conv => rhs; unfold sched
  rw [List.append_assoc]
  rfl
theorem Lw_get (b : List Nat) {k j : Nat} (h : j < k) : (Lw b k).getD j 0 = (sched b k).getD j 0 := by
  unfold Lw
  rw [List.getD_eq_getElem?_getD, List.getD_eq_getElem?_getD, List.getElem?_append_left (by rw [sched_len]; exact h)]
theorem Lw_64 (b : List Nat) : Lw b 64 = sched b 64 := by unfold Lw; simp
theorem word_lt {b : List Nat} (hb : ∀ x ∈ b, x < 256) (i : Nat) : word b i < 4294967296 := by
  have g : ∀ j, b.getD j 0 < 256 := fun j => by
    rw [List.getD_eq_getElem?_getD]
    cases h : b[j]? with
    | none => simp
    | some x => simpa using hb x (List.mem_of_getElem? h)
  have h0 := g (4 * i)
  have h1 := g (4 * i + 1)
  have h2 := g (4 * i + 2)
  have h3 := g (4 * i + 3)
  unfold word
  omega
theorem sched_lt {b : List Nat} (hb : ∀ x ∈ b, x < 256) : ∀ n, ∀ x ∈ sched b n, x < 4294967296
  | 0, x, h => by cases h
  | n + 1, x, h => by
    unfold sched at h
    rcases List.mem_append.1 h with h | h
    · exact sched_lt hb n x h
    · rw [List.mem_singleton.1 h]
      split
      · exact word_lt hb n
      · exact m32_lt _
theorem getD_lt {l : List Nat} {m : Nat} (h : ∀ x ∈ l, x < m) (hm : 0 < m) (j : Nat) : l.getD j 0 < m := by
  rw [List.getD_eq_getElem?_getD]
  cases e : l[j]? with
  | none => simpa using hm
  | some x => simpa using h x (List.mem_of_getElem? e)
theorem bget (s : ByteArray) (k : Nat) (h : k < s.size) : (bytes s).getD k 0 = (s[k]'h).toNat := by
  unfold bytes
  have hl : k < s.data.toList.length := by rw [Array.length_toList]; exact h
  rw [List.getD_eq_getElem?_getD, List.getElem?_map, List.getElem?_eq_getElem hl]
  rfl
theorem joins (x0 x1 x2 x3 : Nat) (h0 : x0 < 256) (h1 : x1 < 256) (h2 : x2 < 256) (h3 : x3 < 256) :
    bits .or .u32 (bits .or .u32 (bits .or .u32 (IntKind.u32.wrap (IntKind.u32.wrap (x0 : Int) * 16777216)) (IntKind.u32.wrap (IntKind.u32.wrap (x1 : Int) * 65536))) (IntKind.u32.wrap (IntKind.u32.wrap (x2 : Int) * 256))) (IntKind.u32.wrap (x3 : Int)) = ((((x0 * 256 + x1) * 256 + x2) * 256 + x3 : Nat) : Int) := by
  have e0 : IntKind.u32.wrap (IntKind.u32.wrap (x0 : Int) * 16777216) = ((x0 * 16777216 : Nat) : Int) := by rw [IntKind.wrap_u32', IntKind.wrap_u32']; omega
  have e1 : IntKind.u32.wrap (IntKind.u32.wrap (x1 : Int) * 65536) = ((x1 * 65536 : Nat) : Int) := by rw [IntKind.wrap_u32', IntKind.wrap_u32']; omega
  have e2 : IntKind.u32.wrap (IntKind.u32.wrap (x2 : Int) * 256) = ((x2 * 256 : Nat) : Int) := by rw [IntKind.wrap_u32', IntKind.wrap_u32']; omega
  have e3 : IntKind.u32.wrap (x3 : Int) = ((x3 : Nat) : Int) := by rw [IntKind.wrap_u32']; omega
  rw [e0, e1, e2, e3]
  rw [u32_or_nat _ _ (by omega) (by omega), nat_join 24 (x0 * 16777216) (x1 * 65536) (by omega) (by omega), u32_or_nat _ _ (by omega) (by omega), nat_join 16 (x0 * 16777216 + x1 * 65536) (x2 * 256) (by omega) (by omega), u32_or_nat _ _ (by omega) (by omega), nat_join 8 _ x3 (by omega) (by omega)]
  congr 1
  omega
theorem Wd.set' {w : World} {b : Nat} {t : TypeId} {l : List Nat} (h : Wd w b t l) (k v : Nat) (x : Int) (hx : x = (v : Int)) : Wd (w.setCell ⟨b, k, none⟩ (.int .u32 x)) b t (l.set k v) := hx ▸ h.set k v
theorem flip {P : Program} {f : FuncId} {args : Array Value} {w : World} {v : Value} (h : Calls P f args w fun e w' => e = .returned v ∧ w = w') : Calls P f args w fun e w' => e = .returned v ∧ w' = w := h.mono fun _ _ ⟨he, hm⟩ => ⟨he, hm.symm⟩
theorem xor_lt {a b : Nat} (ha : a < 4294967296) (hb : b < 4294967296) : a ^^^ b < 4294967296 := Nat.xor_lt_two_pow (n := 32) ha hb
theorem and_lt {a b : Nat} (ha : a < 4294967296) : a &&& b < 4294967296 := Nat.lt_of_le_of_lt Nat.and_le_left ha
theorem xors (a b c : Nat) (ha : a < 4294967296) (hb : b < 4294967296) (hc : c < 4294967296) : bits .xor .u32 (bits .xor .u32 (a : Int) (b : Int)) (c : Int) = (((a ^^^ b) ^^^ c : Nat) : Int) := by
  rw [u32_xor_nat a b ha hb, u32_xor_nat _ c (xor_lt ha hb) hc]
theorem shr_lt {x : Nat} (n : Nat) (hx : x < 4294967296) : x >>> n < 4294967296 := Nat.lt_of_le_of_lt (Nat.shiftRight_le _ _) hx
theorem sgx0 (x : Nat) (hx : x < 4294967296) : bits .xor .u32 (bits .xor .u32 ((rr x 7 : Nat) : Int) ((rr x 18 : Nat) : Int)) ((x : Int) / 8) = ((sg0 x : Nat) : Int) := by
  have e0 : x >>> 3 = x / 8 := Nat.shiftRight_eq_div_pow x 3
  have e : (x : Int) / (8 : Int) = ((x >>> 3 : Nat) : Int) := by rw [e0]; omega
  rw [e, xors _ _ _ (rr_lt x 7 hx) (rr_lt x 18 hx) (shr_lt 3 hx)]
  rfl
theorem sgx1 (x : Nat) (hx : x < 4294967296) : bits .xor .u32 (bits .xor .u32 ((rr x 17 : Nat) : Int) ((rr x 19 : Nat) : Int)) ((x : Int) / 1024) = ((sg1 x : Nat) : Int) := by
  have e0 : x >>> 10 = x / 1024 := Nat.shiftRight_eq_div_pow x 10
  have e : (x : Int) / (1024 : Int) = ((x >>> 10 : Nat) : Int) := by rw [e0]; omega
  rw [e, xors _ _ _ (rr_lt x 17 hx) (rr_lt x 19 hx) (shr_lt 10 hx)]
  rfl
theorem u32s_one' (l : List Nat) : (u32s l).toArray.toList.all (·.oneCell') = true := u32s_one l
theorem zeros64 : ((u32s (List.replicate 64 0)).toArray).size = 64 := by rw [List.size_toArray, u32s_len, List.length_replicate]
set_option maxHeartbeats 4000000 in
theorem sched_any (s : ByteArray) (hs : s.size = 64) (w : World) : Calls Try.prog 76 #[.string s] w fun e w' => e = .returned (.agg (u32s (sched (bytes s) 64)).toArray) ∧ Frm0 w w' := by
  have HS := Lib.hid hs
  have hsz : (64 : Int) = (s.size : Int) := by omega
  have HSI := Lib.hid hsz
  clear hsz hs
  go_enter Try.func76, Try.ntmps76
  go_wp2_with fail
  go_loopw [8] (fun i wr => ∃ (k : Nat), k ≤ 16 ∧ i = .int .i64 k ∧ Wd wr (w.heap.size + 1) 38 (Lw (bytes s) k) ∧ Wd wr w.heap.size 38 (List.replicate 64 0) ∧ Frm0 w wr) (fun i _ => 16 - (intOf i).toNat)
  case atStart => exact ⟨0, by omega, rfl, new_second w (.cells (u32s (List.replicate 64 0)).toArray 38) (.cells (u32s (List.replicate 64 0)).toArray 38), Bk.alloc (Bk.new w (.cells (u32s (List.replicate 64 0)).toArray 38)) (.cells (u32s (List.replicate 64 0)).toArray 38), ((Frm.refl _ w).alloc (.cells (u32s (List.replicate 64 0)).toArray 38)).alloc (.cells (u32s (List.replicate 64 0)).toArray 38)⟩
  case round =>
    obtain ⟨k, hk, rfl, hW, hR, hF⟩ := hrel
    by_cases hlt : k < 16
    · have hki : (k : Int) < 16 := by omega
      have q0 : 4 * k < s.size := by have := HS.out; omega
      have q1 : 4 * k + 1 < s.size := by have := HS.out; omega
      have q2 : 4 * k + 2 < s.size := by have := HS.out; omega
      have q3 : 4 * k + 3 < s.size := by have := HS.out; omega
      have p0 : (4 : Int) * (k : Int) < (s.size : Int) := by omega
      have p1 : (4 : Int) * (k : Int) + 1 < (s.size : Int) := by omega
      have p2 : (4 : Int) * (k : Int) + 2 < (s.size : Int) := by omega
      have p3 : (4 : Int) * (k : Int) + 3 < (s.size : Int) := by omega
      have e0 : IntKind.i64.wrap (4 * (k : Int)) = 4 * (k : Int) := IntWalk.i64_in _ (by omega)
      have e1 : IntKind.i64.wrap (4 * (k : Int) + 1) = 4 * (k : Int) + 1 := IntWalk.i64_in _ (by omega)
      have e2 : IntKind.i64.wrap (4 * (k : Int) + 2) = 4 * (k : Int) + 2 := IntWalk.i64_in _ (by omega)
      have e3 : IntKind.i64.wrap (4 * (k : Int) + 3) = 4 * (k : Int) + 3 := IntWalk.i64_in _ (by omega)
      have n0 : (0 : Int) ≤ 4 * (k : Int) := by omega
      have n1 : (0 : Int) ≤ 4 * (k : Int) + 1 := by omega
      have n2 : (0 : Int) ≤ 4 * (k : Int) + 2 := by omega
      have n3 : (0 : Int) ≤ 4 * (k : Int) + 3 := by omega
      have t0 : (4 * (k : Int)).toNat = 4 * k := by omega
      have t1 : (4 * (k : Int) + 1).toNat = 4 * k + 1 := by omega
      have t2 : (4 * (k : Int) + 2).toNat = 4 * k + 2 := by omega
      have t3 : (4 * (k : Int) + 3).toNat = 4 * k + 3 := by omega
      obtain ⟨x0, hx0⟩ : ∃ x, (s[4 * k]'q0).toNat = x := ⟨_, rfl⟩
      obtain ⟨x1, hx1⟩ : ∃ x, (s[4 * k + 1]'q1).toNat = x := ⟨_, rfl⟩
      obtain ⟨x2, hx2⟩ : ∃ x, (s[4 * k + 2]'q2).toNat = x := ⟨_, rfl⟩
      obtain ⟨x3, hx3⟩ : ∃ x, (s[4 * k + 3]'q3).toNat = x := ⟨_, rfl⟩
      have b0 : (x0 : Int) < 256 := by have := (s[4 * k]'q0).toNat_lt; omega
      have b1 : (x1 : Int) < 256 := by have := (s[4 * k + 1]'q1).toNat_lt; omega
      have b2 : (x2 : Int) < 256 := by have := (s[4 * k + 2]'q2).toNat_lt; omega
      have b3 : (x3 : Int) < 256 := by have := (s[4 * k + 3]'q3).toNat_lt; omega
      have c3 := hW.cell k (by rw [Lw_len _ (by omega)]; omega)
      have f3 := hW.free k
      have hki64 : (k : Int) < 64 := by omega
      have hki0 : (0 : Int) ≤ (k : Int) := by omega
      have hE := joins x0 x1 x2 x3 (by omega) (by omega) (by omega) (by omega)
      have HX := Lib.hid (show (((x0 * 256 + x1) * 256 + x2) * 256 + x3) = (if k < 16 then word (bytes s) k else nextW (sched (bytes s) k) k) by
        rw [if_pos hlt]
        unfold word
        rw [bget s _ q0, bget s _ q1, bget s _ q2, bget s _ q3, hx0, hx1, hx2, hx3])
      generalize ((x0 * 256 + x1) * 256 + x2) * 256 + x3 = X at hE HX
      go_wp2_with fail
      refine st_tail 31 (by kernel_rfl) (by kernel_rfl) ?_
      simp only [List.take_succ_cons, List.take_zero, List.drop_succ_cons, List.drop_zero]
      repeat still_step
      refine wpStill_nil ?_
      go_wp2_with fail
      go_roundw
      case rel => exact ⟨k + 1, by omega, by go_num, by rw [← Lw_set _ (by omega), ← HX.out]; exact hW.set k X, Bk.far (show wr.drew.heap[w.heap.size]? = _ from hR) (p := ⟨w.heap.size + 1, k, none⟩) (show w.heap.size ≠ w.heap.size + 1 from by omega) _, hF.drew.setCell ⟨w.heap.size + 1, k, none⟩ (fun h => absurd h (Nat.not_lt.2 (Nat.le_succ _))) _⟩
      case measure => simp [intOf]; omega
    · obtain rfl : k = 16 := by omega
      go_wp2_with fail
      go_loopw [5] (fun i wq => ∃ (k : Nat), 16 ≤ k ∧ k ≤ 64 ∧ i = .int .i64 k ∧ Wd wq (w.heap.size + 1) 38 (Lw (bytes s) k) ∧ Wd wq w.heap.size 38 (List.replicate 64 0) ∧ Frm0 w wq) (fun i _ => 64 - (intOf i).toNat)
      case atStart => exact ⟨16, by omega, by omega, rfl, hW, hR, hF⟩
      case round =>
        clear hW hR hF
        obtain ⟨k, hk16, hk, rfl, hW, hR, hF⟩ := hrel
        by_cases hlt : k < 64
        · have hki : (k : Int) < 64 := by omega
          have hB := sched_lt (b := bytes s) (fun x hx => bytes_lt s x hx) k
          have e2 : IntKind.i64.wrap ((k : Int) - 2) = (k : Int) - 2 := IntWalk.i64_in _ (by omega)
          have e7 : IntKind.i64.wrap ((k : Int) - 7) = (k : Int) - 7 := IntWalk.i64_in _ (by omega)
          have e15 : IntKind.i64.wrap ((k : Int) - 15) = (k : Int) - 15 := IntWalk.i64_in _ (by omega)
          have e16 : IntKind.i64.wrap ((k : Int) - 16) = (k : Int) - 16 := IntWalk.i64_in _ (by omega)
          have k16i : (16 : Int) ≤ (k : Int) := by omega
          have k7i : (7 : Int) ≤ (k : Int) := by omega
          have n2 : (0 : Int) ≤ (k : Int) - 2 := by omega
          have n7 : (0 : Int) ≤ (k : Int) - 7 := by omega
          have n15 : (0 : Int) ≤ (k : Int) - 15 := by omega
          have n16 : (0 : Int) ≤ (k : Int) - 16 := by omega
          have m2 : (k : Int) - 2 < 64 := by omega
          have m7 : (k : Int) - 7 < 64 := by omega
          have m15 : (k : Int) - 15 < 64 := by omega
          have m16 : (k : Int) - 16 < 64 := by omega
          have t2 : ((k : Int) - 2).toNat = k - 2 := by omega
          have t7 : ((k : Int) - 7).toNat = k - 7 := by omega
          have t15 : ((k : Int) - 15).toNat = k - 15 := by omega
          have t16 : ((k : Int) - 16).toNat = k - 16 := by omega
          have c2 := hW.cell (k - 2) (by rw [Lw_len _ (by omega)]; omega)
          have c7 := hW.cell (k - 7) (by rw [Lw_len _ (by omega)]; omega)
          have c15 := hW.cell (k - 15) (by rw [Lw_len _ (by omega)]; omega)
          have c16 := hW.cell (k - 16) (by rw [Lw_len _ (by omega)]; omega)
          rw [Lw_get _ (by omega)] at c2 c7 c15 c16
          have b2 := getD_lt hB (by omega) (k - 2)
          have b7 := getD_lt hB (by omega) (k - 7)
          have b15 := getD_lt hB (by omega) (k - 15)
          have b16 := getD_lt hB (by omega) (k - 16)
          have hx : nextW (sched (bytes s) k) k = nextW (sched (bytes s) k) k := rfl
          conv at hx => rhs; unfold nextW
          have HX := Lib.hid hx
          clear hx
          generalize (sched (bytes s) k).getD (k - 2) 0 = y2 at *
          generalize (sched (bytes s) k).getD (k - 7) 0 = y7 at *
          generalize (sched (bytes s) k).getD (k - 15) 0 = y15 at *
          generalize (sched (bytes s) k).getD (k - 16) 0 = y16 at *
          clear hB
          have c3 := hW.cell k (by rw [Lw_len _ (by omega)]; omega)
          have f3 := hW.free k
          have hki0 : (0 : Int) ≤ (k : Int) := by omega
          go_wp2_with fail
          go_quiet (fail)
          go_wp2_with fail
          refine st_tail 29 (by kernel_rfl) (by kernel_rfl) ?_
          simp only [List.take_succ_cons, List.take_zero, List.drop_succ_cons, List.drop_zero]
          repeat (first | still_step | still_call (flip (right_7 _ b15 _)) | still_call (flip (right_18 _ b15 _)) | still_call (flip (right_17 _ b2 _)) | still_call (flip (right_19 _ b2 _)))
          refine wpStill_nil ?_
          go_wp2_with fail
          go_roundw
          case rel =>
            repeat apply Exists.intro
            refine And.intro ?_ rfl
            exact ⟨k + 1, by omega, by omega, by go_num, by rw [← Lw_set _ (by omega), if_neg (by omega : ¬ k < 16), HX.out]; exact hW.set' k _ _ (by rw [sgx0 _ b15, sgx1 _ b2]; unfold m32; omega), Bk.far (show wr.heap[w.heap.size]? = _ from hR) (p := ⟨w.heap.size + 1, k, none⟩) (show w.heap.size ≠ w.heap.size + 1 from by omega) _, (hF.drewN _).setCell ⟨w.heap.size + 1, k, none⟩ (fun h => absurd h (Nat.not_lt.2 (Nat.le_succ _))) _⟩
          case measure => simp [intOf]; omega
        · obtain rfl : k = 64 := by omega
          rw [Lw_64] at hW
          have hl := u32s_len (sched (bytes s) 64) |>.trans (sched_len (bytes s) 64)
          go_wp2_with (first | (refine wpList_load_blk rfl 38 (.tmp 3) rfl hW rfl Try.underlying38 rfl iW hl ?_) | (refine wpList_store_blk rfl 38 (.tmp 2) (.tmp 84) rfl hR rfl rfl iW (us := (u32s (sched (bytes s) 64)).toArray) (by rw [List.size_toArray]; exact hl) zeros64 (u32s_one' _) ?_; intro w2 hb3 hf3))
          (try simp only [Exit.inBlock, Exit.then])
          refine ret_cell rfl Try.underlying38 rfl iW hb3 hl rfl rfl ?_
          exact ⟨rfl, hF.then_ hf3 (fun i hi e => by omega)⟩
end Sh
end Go.Proofs.Ytmpbgnopejeelaa
