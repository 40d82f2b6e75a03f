/- SHA-256: contract of step. -/
import Derived.Test.YtmpbgnopejeelaaShc
namespace Go.Proofs.Ytmpbgnopejeelaa
open Go.RowKit
set_option linter.unusedVariables false
set_option linter.unusedSimpArgs false
set_option maxRecDepth 100000
section
variable {P : Program} {ops : Array Oper} {rest : List Oper} {o : Oper} {a : Act} {w : World} {Q : Exit → Act → World → Prop}
/-- A block made, and the world behind it by a name of its own. -/
theorem wpList_alloc_any (hgd : o.guard = none) (ty : TypeId) (d : Tmp) (ho : o.op = .alloc ty) (hd : o.dst = some d) (obj : Obj) (hr : (execOp a.eval o).run P w = .ok (.value (.pointer (some ⟨w.heap.size, 0, none⟩))) (w.alloc obj))
    (h : ∀ w', w'.heap.size = w.heap.size + 1 → w'.heap[w.heap.size]? = some obj → Frm0 w w' → wpList P ops Q rest (a.put (some d) (.pointer (some ⟨w.heap.size, 0, none⟩))) w') : wpList P ops Q (o :: rest) a w := by
  rw [← hd] at h
  refine wpList_plain hgd fun K hK => ?_
  unfold Oper.wp
  simp only [hr]
  exact hK _ _ (h _ (by simp) (Bk.new w obj) ((Frm.refl _ w).alloc obj))
end
namespace Sh
theorem KK_len : KK.length = 64 := rfl
theorem zeros8 : ((u32s (List.replicate 8 0)).toArray).size = 8 := by rw [List.size_toArray, u32s_len, List.length_replicate]
theorem quiet_same2 {P : Program} {f : FuncId} {args : Array Value} {w : World} {n m : Nat} {v : Value}
    (h : Calls P f args (w.drewN (n + m)) fun e w' => e = .returned v ∧ w.drewN (n + m) = w') : Calls P f args (w.drewN (n + m)) fun e w'' => e = .returned v ∧ ∃ k, w'' = w.drewN (n + k) :=
  h.mono fun _ _ ⟨he, hm⟩ => ⟨he, m, hm.symm⟩
theorem alloc_size (w : World) (o : Obj) : (w.alloc o).heap.size = w.heap.size + 1 := by simp
theorem u32s_size {l : List Nat} {n : Nat} (h : l.length = n) : (u32s l).toArray.size = n := by rw [List.size_toArray, u32s_len, h]
set_option maxHeartbeats 4000000 in
theorem consts_any (w : World) : Calls Try.prog 75 #[] w fun e w' => e = .returned (.agg (u32s KK).toArray) ∧ Frm0 w w' := by
  go_enter Try.func75, Try.ntmps75
  go_wp2_with (first
    | (refine wpList_alloc_any rfl 38 0 rfl rfl (.cells (u32s (List.replicate 64 0)).toArray 38) (by rfl) ?_; intro w1 hz1 hN hF)
    | (refine wpList_store_blk rfl 38 (.tmp 0) (.tmp 1) rfl hN rfl (by kernel_rfl) iW (us := (u32s KK).toArray) (u32s_size KK_len) zeros64 (u32s_one' _) ?_; intro w3 hb5 hf3))
  (try simp only [Exit.inBlock, Exit.then])
  refine ret_cell rfl Try.underlying38 rfl iW hb5 (by rw [u32s_len]; rfl) rfl rfl ?_
  exact ⟨rfl, hF.then_ hf3 (fun i hi e => by omega)⟩
theorem rnds_len (w v : List Nat) (hv : v.length = 8) : ∀ k, (rnds w v k).length = 8
  | 0 => hv
  | k + 1 => rfl
theorem rnds_lt (w v : List Nat) (hv : ∀ x ∈ v, x < 4294967296) : ∀ k, ∀ x ∈ rnds w v k, x < 4294967296
  | 0 => hv
  | k + 1 => by
    have ih := rnds_lt w v hv k
    have g := fun j => getD_lt ih (by omega : 0 < 4294967296) j
    intro x hx
    unfold rnds rnd at hx
    simp only [List.mem_cons, List.not_mem_nil, or_false] at hx
    rcases hx with h | h | h | h | h | h | h | h <;> rw [h] <;> first | exact m32_lt _ | exact g _
theorem eight {l : List Nat} (hl : l.length = 8) (hb : ∀ x ∈ l, x < 4294967296) :
    ∃ x0 x1 x2 x3 x4 x5 x6 x7, l = [x0, x1, x2, x3, x4, x5, x6, x7] ∧ x0 < 4294967296 ∧ x1 < 4294967296 ∧ x2 < 4294967296 ∧ x3 < 4294967296 ∧ x4 < 4294967296 ∧ x5 < 4294967296 ∧ x6 < 4294967296 ∧ x7 < 4294967296 := by
  match l, hl with
  | [x0, x1, x2, x3, x4, x5, x6, x7], _ =>
    exact ⟨x0, x1, x2, x3, x4, x5, x6, x7, rfl, hb _ (by simp), hb _ (by simp), hb _ (by simp), hb _ (by simp), hb _ (by simp), hb _ (by simp), hb _ (by simp), hb _ (by simp)⟩
theorem KK_lt (k : Nat) : KK.getD k 0 < 4294967296 := getD_lt (fun x hx => by
  have : KK.all (· < 4294967296) = true := by decide +kernel
  exact of_decide_eq_true (List.all_eq_true.1 this x hx)) (by omega) k
theorem Wd.c8 {w : World} {b : Nat} {t : TypeId} {x0 x1 x2 x3 x4 x5 x6 x7 : Nat} (h : Wd w b t [x0, x1, x2, x3, x4, x5, x6, x7]) :
    w.cell? ⟨b, 0, none⟩ = some (.int .u32 (x0 : Nat)) ∧ w.cell? ⟨b, 1, none⟩ = some (.int .u32 (x1 : Nat)) ∧ w.cell? ⟨b, 2, none⟩ = some (.int .u32 (x2 : Nat)) ∧ w.cell? ⟨b, 3, none⟩ = some (.int .u32 (x3 : Nat)) ∧ w.cell? ⟨b, 4, none⟩ = some (.int .u32 (x4 : Nat)) ∧ w.cell? ⟨b, 5, none⟩ = some (.int .u32 (x5 : Nat)) ∧ w.cell? ⟨b, 6, none⟩ = some (.int .u32 (x6 : Nat)) ∧ w.cell? ⟨b, 7, none⟩ = some (.int .u32 (x7 : Nat)) :=
  ⟨h.cell 0 (by simp), h.cell 1 (by simp), h.cell 2 (by simp), h.cell 3 (by simp), h.cell 4 (by simp), h.cell 5 (by simp), h.cell 6 (by simp), h.cell 7 (by simp)⟩
theorem Wd.of8 {w : World} {b : Nat} {t : TypeId} {x0 x1 x2 x3 x4 x5 x6 x7 : Nat} {r0 r1 r2 r3 r4 r5 r6 r7 : Int} (h : w.heap[b]? = some (.cells #[.int .u32 r0, .int .u32 r1, .int .u32 r2, .int .u32 r3, .int .u32 r4, .int .u32 r5, .int .u32 r6, .int .u32 r7] t (0, 0)))
    (h0 : r0 = (x0 : Int)) (h1 : r1 = (x1 : Int)) (h2 : r2 = (x2 : Int)) (h3 : r3 = (x3 : Int)) (h4 : r4 = (x4 : Int)) (h5 : r5 = (x5 : Int)) (h6 : r6 = (x6 : Int)) (h7 : r7 = (x7 : Int)) : Wd w b t [x0, x1, x2, x3, x4, x5, x6, x7] := by
  subst h0 h1 h2 h3 h4 h5 h6 h7
  exact h
theorem up1s (x : Nat) (hx : x < 4294967296) : bits .xor .u32 (bits .xor .u32 ((rr x 6 : Nat) : Int) ((rr x 11 : Nat) : Int)) ((rr x 25 : Nat) : Int) = ((up1 x : Nat) : Int) := by
  rw [xors _ _ _ (rr_lt x 6 hx) (rr_lt x 11 hx) (rr_lt x 25 hx)]
  rfl
theorem up0s (x : Nat) (hx : x < 4294967296) : bits .xor .u32 (bits .xor .u32 ((rr x 2 : Nat) : Int) ((rr x 13 : Nat) : Int)) ((rr x 22 : Nat) : Int) = ((up0 x : Nat) : Int) := by
  rw [xors _ _ _ (rr_lt x 2 hx) (rr_lt x 13 hx) (rr_lt x 22 hx)]
  rfl
theorem mjs (a b c : Nat) (ha : a < 4294967296) (hb : b < 4294967296) (hc : c < 4294967296) : bits .xor .u32 (bits .xor .u32 (bits .and .u32 (a : Int) (b : Int)) (bits .and .u32 (a : Int) (c : Int))) (bits .and .u32 (b : Int) (c : Int)) = ((mj a b c : Nat) : Int) := by
  rw [u32_and_nat a b ha hb, u32_and_nat a c ha hc, u32_and_nat b c hb hc, xors _ _ _ (and_lt ha) (and_lt ha) (and_lt hb)]
  rfl
theorem chs (e f g : Nat) (n : Int) (he : e < 4294967296) (hf : f < 4294967296) (hg : g < 4294967296) (hn : n = 4294967295 - (e : Int)) : bits .xor .u32 (bits .and .u32 (e : Int) (f : Int)) (bits .and .u32 n (g : Int)) = ((ch e f g : Nat) : Int) := by
  have hn' : n = ((4294967295 - e : Nat) : Int) := by omega
  rw [hn', u32_and_nat e f he hf, u32_and_nat _ g (by omega) hg, u32_xor_nat _ _ (and_lt he) (and_lt (by omega))]
  rfl
theorem xor_all (x : Nat) (hx : x < 4294967296) : 4294967295 ^^^ x = 4294967295 - x := by
  have h : (BitVec.ofNat 32 x).toNat = x := by rw [BitVec.toNat_ofNat]; omega
  have h2 := BitVec.toNat_not (x := BitVec.ofNat 32 x)
  rw [h] at h2
  have h3 : ~~~ (BitVec.ofNat 32 x) = BitVec.allOnes 32 ^^^ BitVec.ofNat 32 x := by rw [BitVec.allOnes_xor]
  rw [h3, BitVec.toNat_xor, h, BitVec.toNat_allOnes] at h2
  exact h2
theorem not_u32 (x : Nat) (hx : x < 4294967296) : bits .xor .u32 IntKind.u32.max (x : Int) = 4294967295 - (x : Int) := by
  have e : (IntKind.u32.max : Int) = ((4294967295 : Nat) : Int) := by decide +kernel
  rw [e, u32_xor_nat 4294967295 x (by decide) hx]
  have h : 4294967295 ^^^ x = 4294967295 - x := xor_all x hx
  rw [h]
  omega
/-- The sums so far. -/
def Av (v x : List Nat) (k : Nat) : List Nat := (add8 v x).take k ++ v.drop k
theorem eight0 {l : List Nat} (hl : l.length = 8) : ∃ x0 x1 x2 x3 x4 x5 x6 x7, l = [x0, x1, x2, x3, x4, x5, x6, x7] := by
  match l, hl with
  | [x0, x1, x2, x3, x4, x5, x6, x7], _ => exact ⟨x0, x1, x2, x3, x4, x5, x6, x7, rfl⟩
section
variable {v x : List Nat} (hv : v.length = 8) (hx : x.length = 8)
include hv hx
theorem add8_len : (add8 v x).length = 8 := by unfold add8; rw [List.length_zipWith, hv, hx]; rfl
theorem Av_len {k : Nat} : (Av v x k).length = 8 := by
  unfold Av
  rw [List.length_append, List.length_take, List.length_drop, add8_len hv hx, hv]
  omega
theorem Av_get {k : Nat} (hk : k < 8) : (Av v x k).getD k 0 = v.getD k 0 := by
  obtain ⟨a0, a1, a2, a3, a4, a5, a6, a7, rfl⟩ := eight0 hv
  obtain ⟨b0, b1, b2, b3, b4, b5, b6, b7, rfl⟩ := eight0 hx
  match k, hk with
  | 0, _ => rfl
  | 1, _ => rfl
  | 2, _ => rfl
  | 3, _ => rfl
  | 4, _ => rfl
  | 5, _ => rfl
  | 6, _ => rfl
  | 7, _ => rfl
theorem Av_set {k : Nat} (hk : k < 8) : (Av v x k).set k (m32 (v.getD k 0 + x.getD k 0)) = Av v x (k + 1) := by
  obtain ⟨a0, a1, a2, a3, a4, a5, a6, a7, rfl⟩ := eight0 hv
  obtain ⟨b0, b1, b2, b3, b4, b5, b6, b7, rfl⟩ := eight0 hx
  match k, hk with
  | 0, _ => rfl
  | 1, _ => rfl
  | 2, _ => rfl
  | 3, _ => rfl
  | 4, _ => rfl
  | 5, _ => rfl
  | 6, _ => rfl
  | 7, _ => rfl
theorem Av_8 : Av v x 8 = add8 v x := by
  obtain ⟨a0, a1, a2, a3, a4, a5, a6, a7, rfl⟩ := eight0 hv
  obtain ⟨b0, b1, b2, b3, b4, b5, b6, b7, rfl⟩ := eight0 hx
  rfl
end
set_option maxHeartbeats 4000000 in
theorem step_any' (kk sw : List Nat) (hkl : kk.length = 64) (hsl : sw.length = 64) (hkk : ∀ k, kk.getD k 0 = KK.getD k 0) (hsb : ∀ x ∈ sw, x < 4294967296)
    (hC : ∀ w, Calls Try.prog 75 #[] w fun e w' => e = .returned (.agg (u32s kk).toArray) ∧ Frm0 w w')
    (s : ByteArray) (hS : ∀ w, Calls Try.prog 76 #[.string s] w fun e w' => e = .returned (.agg (u32s sw).toArray) ∧ Frm0 w w') (v : List Nat) (hv : v.length = 8) (hvb : ∀ x ∈ v, x < 4294967296) (w : World) :
    Calls Try.prog 60 #[.agg (u32s v).toArray, .string s] w fun e w' => e = .returned (.agg (u32s (add8 v (rnds sw v 64))).toArray) ∧ Frm0 w w' := by
  have HKK := Lib.hid hkk
  have HSB := Lib.hid hsb
  clear hkk hsb
  have HC := Lib.hid hC
  have HS := Lib.hid hS
  have HKL := Lib.hid hkl
  have HSL := Lib.hid hsl
  clear hC hS hkl hsl
  have HV := Lib.hid hv
  have HVB := Lib.hid hvb
  clear hv hvb
  have hF0 := ((Frm.refl (fun _ => False) w).alloc (.cells (u32s v).toArray 37)).alloc (.cells (u32s (List.replicate 8 0)).toArray 37)
  have hA := new_second w (.cells (u32s v).toArray 37) (.cells (u32s (List.replicate 8 0)).toArray 37)
  have hB := Bk.alloc (Bk.new w (.cells (u32s v).toArray 37)) (.cells (u32s (List.replicate 8 0)).toArray 37)
  go_enter Try.func60, Try.ntmps60
  go_wp2_with fail
  refine (HC.out _).mono ?_
  rintro e w1 ⟨rfl, hf1⟩
  go_wp2_with fail
  refine (HS.out _).mono ?_
  rintro e w2 ⟨rfl, hf2⟩
  have hF2 := (hF0.trans hf1).trans hf2
  have hA := hf2.blk (hf1.blk hA (fun h => h)) (fun h => h)
  have hB := hf2.blk (hf1.blk hB (fun h => h)) (fun h => h)
  have hD : w.heap.size + 2 ≤ w2.heap.size := by
    have h1 := hf1.size
    have h2 := hf2.size
    rw [alloc_size, alloc_size] at h1
    exact Nat.le_trans h1 h2
  clear hF0 hf1 hf2
  go_wp2_with (first
    | (refine wpList_alloc_any rfl 38 5 rfl rfl (.cells (u32s (List.replicate 64 0)).toArray 38) (by rfl) ?_; intro w5 hz5 hN5 hf5)
    | (refine wpList_alloc_any rfl 38 6 rfl rfl (.cells (u32s (List.replicate 64 0)).toArray 38) (by rfl) ?_; intro w6 hz6 hN6 hf6)
    | (refine wpList_store_blk rfl 38 (.tmp 5) (.tmp 14) rfl (hf6.blk hN5 (fun h => h)) rfl rfl iW (us := (u32s kk).toArray) (u32s_size HKL.out) zeros64 (u32s_one' _) ?_; intro w7 hb5 hf7)
    | (refine wpList_store_blk rfl 38 (.tmp 6) (.tmp 16) rfl (hf7.blk hN6 (by omega)) rfl rfl iW (us := (u32s sw).toArray) (u32s_size HSL.out) zeros64 (u32s_one' _) ?_; intro w8 hb6 hf8)
    | (refine wpList_load_blk rfl 37 (.tmp 2) rfl (hf8.blk (hf7.blk (hf6.blk (hf5.blk hB (fun h => h)) (fun h => h)) (by omega)) (by omega)) rfl Try.underlying37 rfl iV ((u32s_len v).trans HV.out) ?_)
    | (refine wpList_alloc_any rfl 37 7 rfl rfl (.cells (u32s (List.replicate 8 0)).toArray 37) (by rfl) ?_; intro w9 hz9 hN9 hf9)
    | (refine wpList_store_blk rfl 37 (.tmp 7) (.tmp 17) rfl hN9 rfl rfl iV (us := (u32s v).toArray) (u32s_size HV.out) zeros8 (u32s_one' _) ?_; intro w10 hb7 hf10))
  have z5 := hz5
  have z6 := hz6
  have s7 := hf7.size
  have s8 := hf8.size
  have s9 := hz9
  have hF := ((((((hF2.trans hf5).trans hf6).then_ hf7 (fun i hi e => by omega)).then_ hf8 (fun i hi e => by omega)).trans hf9).then_ hf10 (fun i hi e => by omega))
  have hb5 := hf10.blk (hf9.blk (hf8.blk hb5 (by omega)) (fun h => h)) (by omega)
  have hb6 := hf10.blk (hf9.blk hb6 (fun h => h)) (by omega)
  have hA := hf10.blk (hf9.blk (hf8.blk (hf7.blk (hf6.blk (hf5.blk hA (fun h => h)) (fun h => h)) (by omega)) (by omega)) (fun h => h)) (by omega)
  have hB := hf10.blk (hf9.blk (hf8.blk (hf7.blk (hf6.blk (hf5.blk hB (fun h => h)) (fun h => h)) (by omega)) (by omega)) (fun h => h)) (by omega)
  rw [hz5] at hb6
  have hD7 : w2.heap.size + 1 < w8.heap.size := by omega
  clear hz5 hz6 hz9 z5 z6 s7 s8 s9 hf5 hf6 hf7 hf8 hf9 hf10 hN5 hN6 hN9 hF2
  generalize w2.heap.size = D at *
  generalize w8.heap.size = E at *
  go_loopw [18] (fun i wr => ∃ (k : Nat), k ≤ 64 ∧ i = .int .i64 k ∧ Wd wr E 37 (rnds sw v k) ∧ Wd wr D 38 kk ∧ Wd wr (D + 1) 38 sw ∧ Wd wr w.heap.size 37 v ∧ Wd wr (w.heap.size + 1) 37 (List.replicate 8 0) ∧ Frm0 w wr) (fun i _ => 64 - (intOf i).toNat)
  case atStart => exact ⟨0, by omega, rfl, hb7, hb5, hb6, hB, hA, hF⟩
  case round =>
    clear hb5 hb6 hb7 hA hB hF
    obtain ⟨k, hk, rfl, hX, hK, hW, hB, hA, hF⟩ := hrel
    by_cases hlt : k < 64
    · have hki : (k : Int) < 64 := by omega
      have hki0 : (0 : Int) ≤ (k : Int) := by omega
      obtain ⟨x0, x1, x2, x3, x4, x5, x6, x7, hx, b0, b1, b2, b3, b4, b5, b6, b7⟩ := eight (rnds_len sw v HV.out k) (rnds_lt sw v HVB.out k)
      have HX := Lib.hid hx
      rw [hx] at hX
      clear hx
      obtain ⟨c0, c1, c2, c3, c4, c5, c6, c7⟩ := Wd.c8 hX
      have ck := hK.cell k (by rw [HKL.out]; exact hlt)
      have cw := hW.cell k (by rw [HSL.out]; exact hlt)
      have bk := KK_lt k
      rw [HKK.out k] at ck
      have bw := getD_lt HSB.out (by omega) k
      obtain ⟨y, hy⟩ : ∃ y, KK.getD k 0 = y := ⟨_, rfl⟩
      obtain ⟨z, hz⟩ : ∃ z, sw.getD k 0 = z := ⟨_, rfl⟩
      rw [hy] at ck bk
      rw [hz] at cw bw
      have HY := Lib.hid hy
      have HZ := Lib.hid hz
      clear hy hz
      go_wp2_with fail
      go_quiet (fail)
      go_wp2_with fail
      go_quiet (first | exact quiet_same2 (right_6 x4 b4 _) | exact quiet_same2 (right_11 x4 b4 _) | exact quiet_same2 (right_25 x4 b4 _))
      go_wp2_with fail
      go_quiet (first | exact quiet_same2 (right_2 x0 b0 _) | exact quiet_same2 (right_13 x0 b0 _) | exact quiet_same2 (right_22 x0 b0 _))
      go_wp2_with (refine wpList_store_blk rfl 37 (.tmp 7) (.tmp 96) rfl (show (wr.drewN _).heap[E]? = _ from hX) rfl rfl iV (us := _) rfl rfl rfl ?_; intro w11 hb11 hf11)
      go_roundw
      case rel =>
        have hx' : rnds sw v (k + 1) = rnd y z [x0, x1, x2, x3, x4, x5, x6, x7] := by
          show rnd (KK.getD k 0) (sw.getD k 0) (rnds sw v k) = _
          rw [HX.out, HY.out, HZ.out]
        refine ⟨k + 1, by omega, by go_num, ?_, hf11.blk (show (wr.drewN _).heap[D]? = _ from hK) (by omega), hf11.blk (show (wr.drewN _).heap[D + 1]? = _ from hW) (by omega), hf11.blk (show (wr.drewN _).heap[w.heap.size]? = _ from hB) (by omega), hf11.blk (show (wr.drewN _).heap[w.heap.size + 1]? = _ from hA) (by omega), (hF.drewN _).then_ hf11 (fun i hi e => by omega)⟩
        rw [hx']
        have hn : bits .xor .u32 IntKind.u32.max (x4 : Int) = 4294967295 - (x4 : Int) := not_u32 x4 b4
        refine Wd.of8 hb11 ?_ rfl rfl rfl ?_ rfl rfl rfl
        · rw [up1s x4 b4, chs x4 x5 x6 _ b4 b5 b6 hn, up0s x0 b0, mjs x0 x1 x2 b0 b1 b2]
          simp only [List.getD_cons_zero, List.getD_cons_succ]
          unfold m32
          omega
        · rw [up1s x4 b4, chs x4 x5 x6 _ b4 b5 b6 hn]
          simp only [List.getD_cons_zero, List.getD_cons_succ]
          unfold m32
          omega
      case measure => simp [intOf]; omega
    · obtain rfl : k = 64 := by omega
      have hX8 := rnds_len sw v HV.out 64
      have hXb := rnds_lt sw v HVB.out 64
      obtain ⟨x, hx⟩ : ∃ x, rnds sw v 64 = x := ⟨_, rfl⟩
      rw [hx] at hX hX8 hXb
      have HXE := Lib.hid hx
      clear hx
      have HX8 := Lib.hid hX8
      have HXB := Lib.hid hXb
      clear hX8 hXb
      go_wp2_with fail
      go_loopw [98] (fun i wq => ∃ (k : Nat), k ≤ 8 ∧ i = .int .i64 k ∧ Wd wq w.heap.size 37 (Av v x k) ∧ Wd wq E 37 x ∧ Wd wq (w.heap.size + 1) 37 (List.replicate 8 0) ∧ Frm0 w wq) (fun i _ => 8 - (intOf i).toNat)
      case atStart => exact ⟨0, by omega, rfl, hB, hX, hA, hF⟩
      case round =>
        clear hB hX hA hF hK hW
        obtain ⟨k, hk, rfl, hB, hX, hA, hF⟩ := hrel
        by_cases hlt : k < 8
        · have hki : (k : Int) < 8 := by omega
          have hki0 : (0 : Int) ≤ (k : Int) := by omega
          have ca := hB.cell k (by rw [Av_len HV.out HX8.out]; exact hlt)
          have cb := hX.cell k (by rw [HX8.out]; exact hlt)
          rw [Av_get HV.out HX8.out hlt] at ca
          have ba := getD_lt HVB.out (by omega) k
          have bb := getD_lt HXB.out (by omega) k
          have HS2 := Lib.hid (Av_set HV.out HX8.out hlt)
          have fa := hB.free k
          generalize v.getD k 0 = a at *
          generalize x.getD k 0 = b at *
          go_wp2_with fail
          refine st_tail 8 (by kernel_rfl) (by kernel_rfl) ?_
          simp only [List.take_succ_cons, List.take_zero, List.drop_succ_cons, List.drop_zero]
          repeat still_step
          refine wpStill_nil ?_
          go_wp2_with fail
          go_roundw
          case rel =>
            repeat apply Exists.intro
            refine And.intro ?_ rfl
            exact ⟨k + 1, by omega, by go_num, by rw [← HS2.out]; exact hB.set' k _ _ (by unfold m32; omega), Bk.far (show wr.drew.heap[E]? = _ from hX) (p := ⟨w.heap.size, k, none⟩) (show E ≠ w.heap.size from by omega) _, Bk.far (show wr.drew.heap[w.heap.size + 1]? = _ from hA) (p := ⟨w.heap.size, k, none⟩) (show w.heap.size + 1 ≠ w.heap.size from by omega) _, hF.drew.setCell ⟨w.heap.size, k, none⟩ (fun h => absurd h (Nat.lt_irrefl _)) _⟩
          case measure => simp [intOf]; omega
        · obtain rfl : k = 8 := by omega
          rw [Av_8 HV.out HX8.out] at hB
          have hl8 : (u32s (add8 v x)).length = 8 := (u32s_len _).trans (add8_len HV.out HX8.out)
          go_wp2_with (first | (refine wpList_load_blk rfl 37 (.tmp 2) rfl hB rfl Try.underlying37 rfl iV hl8 ?_) | (refine wpList_store_blk rfl 37 (.tmp 4) (.tmp 110) rfl hA rfl rfl iV (us := (u32s (add8 v x)).toArray) (by rw [List.size_toArray]; exact hl8) zeros8 (u32s_one' _) ?_; intro w12 hb12 hf12))
          (try simp only [Exit.inBlock, Exit.then])
          refine ret_cell rfl Try.underlying37 rfl iV hb12 hl8 rfl rfl ?_
          exact ⟨by rw [HXE.out], hF.then_ hf12 (fun i hi e => by omega)⟩
/-- A block more. -/
theorem step_any (s : ByteArray) (hs : s.size = 64) (v : List Nat) (hv : v.length = 8) (hvb : ∀ x ∈ v, x < 4294967296) (w : World) :
    Calls Try.prog 60 #[.agg (u32s v).toArray, .string s] w fun e w' => e = .returned (.agg (u32s (step v (bytes s))).toArray) ∧ Frm0 w w' :=
  step_any' KK (sched (bytes s) 64) rfl (sched_len _ _) (fun _ => rfl) (sched_lt (fun x hx => bytes_lt s x hx) 64) consts_any s (sched_any s hs) v hv hvb w
end Sh
end Go.Proofs.Ytmpbgnopejeelaa
