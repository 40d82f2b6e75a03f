/- Check sums: the law CrcBursts is walked: a text of which up to 32 bits side by side are turned has another sum. -/
import Derived.Test.YtkmafgmlcocjiaaCrcl
import Derived.Lib.ConvBytes
namespace Go.Proofs.Ytkmafgmlcocjiaa
open Go.RowKit CrcMath
set_option linter.unusedVariables false
set_option linter.unusedSimpArgs false

/-- Bytes in a block: they may be read, and written. -/
structure Bts (w : World) (g : Nat) (l : List Nat) : Prop where
  lt : g < w.heap.size
  cell : ∀ j, j < l.length → w.cell? ⟨g, j, none⟩ = some (.int .u8 (l.getD j 0 : Nat))
  free : ∀ j, j < l.length → w.frozen? ⟨g, j, none⟩ = false
theorem Bts.new (w : World) (s : ByteArray) : Bts (Lib.bytesWorld w 5 s) w.heap.size (bytes s) := by
  refine ⟨by rw [Lib.bytesWorld_size]; omega, fun j hj => ?_, fun j hj => ?_⟩
  · rw [bytes_len] at hj
    rw [Lib.bytesWorld_cell w _ s j hj]
    congr 2
    unfold bytes
    have hj' : j < s.data.toList.length := by rw [Array.length_toList]; exact hj
    rw [List.getD_eq_getElem?_getD, List.getD_eq_getElem?_getD, List.getElem?_map, List.getElem?_eq_getElem hj']
    rfl
  · rw [bytes_len] at hj
    have := Lib.bytesWorld_at_new w 5 s
    have hz : j < (Lib.bytesCells w 5 s).size := by
      unfold Lib.bytesCells
      rw [Array.size_append, Array.size_map]
      have : s.data.size = s.size := rfl
      omega
    unfold World.frozen?
    simp only [this]
    rw [Bool.and_eq_false_iff]
    left
    simp; omega
theorem Bts.drewN {w : World} {g : Nat} {l : List Nat} (h : Bts w g l) (n : Nat) : Bts (w.drewN n) g l := ⟨h.lt, h.cell, h.free⟩
theorem Bts.drew {w : World} {g : Nat} {l : List Nat} (h : Bts w g l) : Bts w.drew g l := ⟨h.lt, h.cell, h.free⟩
theorem Bts.frm {S : Nat → Prop} {w w1 : World} {g : Nat} {l : List Nat} (h : Bts w g l) (hf : Frm S w w1) (hs : ¬ S g) : Bts w1 g l :=
  ⟨Nat.lt_of_lt_of_le h.lt hf.size, fun j hj => hf.cell (h.cell j hj) hs, fun j hj => (World.frozen?_of_block (hf.block g h.lt hs)).trans (h.free j hj)⟩
theorem Bts.set {w : World} {g : Nat} {l : List Nat} (h : Bts w g l) (i v : Nat) (hi : i < l.length) : Bts (w.setCell ⟨g, i, none⟩ (.int .u8 (v : Nat))) g (l.set i v) := by
  refine ⟨by simpa [World.setCell] using h.lt, fun j hj => ?_, fun j hj => ?_⟩
  · simp only [List.length_set] at hj
    by_cases e : j = i
    · subst e
      rw [World.cell?_setCell_same _ _ _ (h.cell j hj)]
      simp [hj]
    · rw [World.cell?_setCell_other _ _ _ _ (by simp [e]), h.cell j hj]
      simp [Ne.symm e]
  · simp only [List.length_set] at hj
    rw [World.frozen?_setCell]
    exact h.free j hj

theorem xor_bit (v r : Nat) (hv : v < 256) (hr : r < 8) : bits .xor .u8 (v : Int) (2 ^ r % 256) = ((v ^^^ 2 ^ r : Nat) : Int) := by
  have : r = 0 ∨ r = 1 ∨ r = 2 ∨ r = 3 ∨ r = 4 ∨ r = 5 ∨ r = 6 ∨ r = 7 := by omega
  rcases this with rfl | rfl | rfl | rfl | rfl | rfl | rfl | rfl
  all_goals exact u8_xor_nat v _ hv (by decide)
theorem burst_step {l : List Nat} {n x f k base : Nat} (hl : l.length = n) (hlb : ∀ b ∈ l, b < 256) (hx : x < 2 ^ k) (hin : f + k < 8 * n) (hval : val l = base ^^^ (x * 2 ^ f)) :
    (l.set ((f + k) / 8) (l.getD ((f + k) / 8) 0 ^^^ 2 ^ ((f + k) % 8))).length = n ∧ (∀ b ∈ l.set ((f + k) / 8) (l.getD ((f + k) / 8) 0 ^^^ 2 ^ ((f + k) % 8)), b < 256) ∧ x + 2 ^ k < 2 ^ (k + 1) ∧
    (x + 2 ^ k) * 2 ^ f < 2 ^ (8 * n) ∧ val (l.set ((f + k) / 8) (l.getD ((f + k) / 8) 0 ^^^ 2 ^ ((f + k) % 8))) = base ^^^ ((x + 2 ^ k) * 2 ^ f) ∧ x + 2 ^ k ≠ 0 := by
  have hq : (f + k) / 8 < l.length := by rw [hl]; omega
  have hr : (f + k) % 8 < 8 := Nat.mod_lt _ (by omega)
  have hg : l.getD ((f + k) / 8) 0 = l[(f + k) / 8] := by rw [List.getD_eq_getElem?_getD, List.getElem?_eq_getElem hq]; rfl
  have hgl : l[(f + k) / 8] < 256 := hlb _ (List.getElem_mem _)
  have hp : 0 < 2 ^ k := Nat.two_pow_pos k
  have hv : l.getD ((f + k) / 8) 0 ^^^ 2 ^ ((f + k) % 8) < 256 := by
    rw [hg]; exact Nat.xor_lt_two_pow (n := 8) hgl (Nat.pow_lt_pow_right (by omega) hr)
  have hxk : x + 2 ^ k < 2 ^ (k + 1) := by rw [Nat.pow_succ]; omega
  have hxf : x * 2 ^ f < 2 ^ (k + f) := by rw [Nat.pow_add]; exact Nat.mul_lt_mul_of_pos_right hx (Nat.two_pow_pos f)
  refine ⟨by rw [List.length_set, hl], fun b hb => ?_, hxk, ?_, ?_, by omega⟩
  · rcases List.mem_or_eq_of_mem_set hb with hb | rfl
    · exact hlb b hb
    · exact hv
  · refine Nat.lt_of_lt_of_le (Nat.mul_lt_mul_of_pos_right hxk (Nat.two_pow_pos f)) ?_
    rw [← Nat.pow_add]
    exact Nat.pow_le_pow_right (by omega) (by omega)
  · rw [val_set hq hlb hr (by rw [hg]), hval, Nat.xor_assoc]
    congr 1
    rw [Nat.add_mul, ← Nat.pow_add, show 8 * ((f + k) / 8) + (f + k) % 8 = k + f by omega]
    have := disjoint_xor (b := 1) hxf
    rw [Nat.mul_one] at this
    exact this.symm
theorem bit_and (bt k : Nat) (h : bt < 4294967296) : bits .and .u32 ((bt : Int) / 2 ^ k) 1 = ((bt / 2 ^ k % 2 : Nat) : Int) := by
  have e : ((bt : Int) / 2 ^ k) = ((bt / 2 ^ k : Nat) : Int) := by simp
  rw [e, and_one _ (Nat.lt_of_le_of_lt (Nat.div_le_self _ _) h)]
theorem frm_bytes (w : World) (e : TypeId) (s : ByteArray) : Frm0 w (Lib.bytesWorld w e s) :=
  ⟨rfl, rfl, rfl, by rw [Lib.bytesWorld_size]; omega, fun k hk _ => Lib.bytesWorld_at_old w e s k hk⟩
set_option maxHeartbeats 2000000 in
set_option maxRecDepth 100000 in
theorem bursts_walk (s : ByteArray) (at_ bt : Nat) (w : World) (hs : s.size ≤ 300) (h0 : 0 < s.size) (hb0 : 0 < bt) (hc : at_ < 65536) (ho : bt < 4294967296) :
    Calls Try.prog 7 #[.string s, .int .u16 at_, .int .u32 bt] w fun e w' => e = .returned (.bool true) ∧ Below w.heap.size w w' := by
  have hconv := fun w => Lib.run_convert_string_bytes (P := Try.prog) w 9 42 5 s Try.underlying9 Try.underlying42 Try.underlying5
  have hf : at_ % (8 * s.size) < 8 * s.size := Nat.mod_lt _ (by omega)
  have hfi : ((at_ : Int) % (8 * (s.size : Int))) = ((at_ % (8 * s.size) : Nat) : Int) := by simp
  have HFI := Lib.hid hfi
  clear hfi
  generalize at_ % (8 * s.size) = f at *
  have hlb := bytes_len s
  have HLB := Lib.hid hlb
  clear hlb
  have hbz : ((bt : Int) == 0) = false := by rw [beq_eq_false_iff_ne]; omega
  have hz0 : ((s.size : Int) == 0) = false := by rw [beq_eq_false_iff_ne]; omega
  go_enter Try.func7, Try.ntmps7
  go_wp2_with fail
  refine (cawake _).mono ?_
  rintro e w1 ⟨rfl, hf1⟩
  go_wp2
  rw [HFI.out]
  clear hconv
  have hB1 := Bts.new w1 s
  have hF1 : Frm0 w (Lib.bytesWorld w1 5 s) := hf1.trans (frm_bytes w1 _ s)
  have hg : w.heap.size ≤ w1.heap.size := hf1.size
  generalize w1.heap.size = g at *
  generalize Lib.bytesWorld w1 5 s = w2 at *
  have HBS := bytes_lt s
  have HBS' := Lib.hid HBS
  clear HBS
  go_loopw [9, 34] (fun t i wr => ∃ k : Nat, k ≤ 32 ∧ i = .int .i64 k ∧ (∃ l x, Bts wr g l ∧ l.length = s.size ∧ Hid (∀ b ∈ l, b < 256) ∧ x < 2 ^ k ∧ x * 2 ^ f < 2 ^ (8 * s.size) ∧ Hid (val l = val (bytes s) ^^^ (x * 2 ^ f)) ∧ t = .bool (decide (x ≠ 0))) ∧ Frm0 w wr) (fun _ i _ => 32 - (intOf i).toNat)
  case atStart => exact ⟨0, by omega, rfl, ⟨bytes s, 0, hB1, HLB.out, HBS'.out, by omega, by rw [Nat.zero_mul]; exact Nat.two_pow_pos _, by show val (bytes s) = val (bytes s) ^^^ (0 * 2 ^ f); rw [Nat.zero_mul, Nat.xor_zero], rfl⟩, hF1⟩
  case round =>
    obtain ⟨k, hk, rfl, ⟨l, x, hB, hl, hlb, hx, hxf, hval, rfl⟩, hFr⟩ := hrel
    by_cases hk32 : k < 32
    · by_cases hbit : bt / 2 ^ k % 2 = 1
      · have hand : bits .and .u32 ((bt : Int) / 2 ^ k) 1 = 1 := by rw [bit_and bt k ho]; omega
        by_cases hin : f + k < 8 * s.size
        · have hq : (f + k) / 8 < l.length := by rw [hl]; omega
          have hcell := hB.cell _ hq
          have hfree := hB.free _ hq
          have hst := burst_step hl hlb.out hx hin hval.out
          have hvl : l.getD ((f + k) / 8) 0 < 256 := by
            rw [List.getD_eq_getElem?_getD, List.getElem?_eq_getElem hq]
            exact hlb.out _ (List.getElem_mem _)
          have hset := hB.set ((f + k) / 8) (l.getD ((f + k) / 8) 0 ^^^ 2 ^ ((f + k) % 8)) hq
          rw [← xor_bit _ _ hvl (Nat.mod_lt _ (by omega))] at hset
          have HST := Lib.hid hst
          have HSET := Lib.hid hset
          clear hst hset
          generalize hv : l.getD ((f + k) / 8) 0 = v at *
          clear hv
          go_wp2
          go_region
          go_wp2
          go_round
          case rel => exact ⟨k + 1, by omega, by go_num, ⟨_, _, HSET.out.drew, HST.out.1, HST.out.2.1, HST.out.2.2.1, HST.out.2.2.2.1, HST.out.2.2.2.2.1, by rw [decide_eq_true HST.out.2.2.2.2.2]⟩, (hFr.setCell ⟨g, (f + k) / 8, none⟩ (fun h => absurd h (by show ¬ g < _; omega)) _).drew⟩
          case measure => simp [intOf]; omega
        · go_wp2
          go_round
          case rel => exact ⟨k + 1, by omega, by go_num, ⟨l, x, hB, hl, hlb, Nat.lt_of_lt_of_le hx (Nat.pow_le_pow_right (by omega) (by omega)), hxf, hval, by simp⟩, hFr⟩
          case measure => simp [intOf]; omega
      · have hand : bits .and .u32 ((bt : Int) / 2 ^ k) 1 = 0 := by rw [bit_and bt k ho]; omega
        go_wp2
        go_round
        case rel => exact ⟨k + 1, by omega, by go_num, ⟨l, x, hB, hl, hlb, Nat.lt_of_lt_of_le hx (Nat.pow_le_pow_right (by omega) (by omega)), hxf, hval, by simp⟩, hFr⟩
        case measure => simp [intOf]; omega
    · obtain rfl : k = 32 := by omega
      have hcv := fun cap => run_convert_bytes_arg (P := Try.prog) wr 42 5 Try.underlying42 Try.underlying5 g 0 s.size cap (l.map (fun n : Nat => (n : Int))) (by rw [List.length_map, hl]) (fun i hi => by
        rw [Nat.zero_add, hB.cell i (by omega)]
        simp [List.getElem?_eq_getElem (show i < l.length by omega)]) 9 Try.underlying9
      have hbt : bytes (strOfNums (l.map (fun n : Nat => (n : Int)))) = l := by
        unfold bytes
        rw [strOfNums_data]
        simp only [List.map_map]
        conv => rhs; rw [← List.map_id l]
        refine List.map_congr_left fun b hb => ?_
        have := hlb.out b hb
        simp [Nat.mod_eq_of_lt this]
      have hsz : (strOfNums (l.map (fun n : Nat => (n : Int)))).size = s.size := by rw [strOfNums_size, List.length_map, hl]
      have HBT := Lib.hid hbt
      clear hbt
      generalize strOfNums (l.map (fun n : Nat => (n : Int))) = t at *
      have HO1 := Lib.hid (show ∀ w, Calls Try.prog 29 #[.string t] w fun e w' => e = .returned (.int .u32 (crcOf l : Nat)) ∧ w = w' from fun w => by
        have := of_crc t w (by omega)
        rwa [HBT.out] at this)
      have hburst : (crcOf l = crcOf (bytes s)) ↔ x = 0 := by
        have := burst (s := inv32 0) (l := bytes s) (m := l) (x := x) (f := f) (bytes_lt s) hlb.out (by rw [HLB.out, hl]) hx (by rw [HLB.out]; omega) hval.out
        rw [← this]
        unfold crcOf crcNext
        have h1 := run_lt (n := inv32 0) (inv32_lt 0) hlb.out
        have h2 := run_lt (n := inv32 0) (inv32_lt 0) (bytes_lt s)
        constructor
        · intro h; unfold inv32 at h h1 h2 ⊢; omega
        · intro h; rw [h]
      have hneq : (((crcOf l : Nat) : Int) != ((crcOf (bytes s) : Nat) : Int)) = decide (x ≠ 0) := by
        rw [Bool.eq_iff_iff]
        simp
        rw [Int.ofNat_inj, hburst]
      have HNEQ := Lib.hid hneq
      clear hneq hburst
      generalize crcOf l = c1 at *
      go_wp2_with fail
      refine (HO1.out _).mono ?_
      rintro e w5 ⟨rfl, rfl⟩
      go_wp2_with fail
      refine (of_crc s _ (by omega)).mono ?_
      rintro e w5 ⟨rfl, rfl⟩
      generalize crcOf (bytes s) = c2 at *
      go_wp2
      go_ret
      exact ⟨ret_bool (by rw [HNEQ.out]; simp), hFr.below (fun _ _ h => h)⟩

theorem bursts_any (s : ByteArray) (at_ bt : Int) (w : World) (hs : s.size ≤ 9223372036854775807) (ha : 0 ≤ at_ ∧ at_ ≤ 65535) (hb : 0 ≤ bt ∧ bt ≤ 4294967295) :
    Calls Try.prog 7 #[.string s, .int .u16 at_, .int .u32 bt] w fun e w' => e = .returned (.bool true) ∧ Below w.heap.size w w' := by
  obtain ⟨a, rfl⟩ := Int.eq_ofNat_of_zero_le ha.1
  obtain ⟨b, rfl⟩ := Int.eq_ofNat_of_zero_le hb.1
  by_cases h3 : 300 < s.size
  · go_enter Try.func7, Try.ntmps7
    go_wp2_with (go_at_call 25; refine (cawake _).mono ?_; rintro e w1 ⟨rfl, hf1⟩)
    go_ret
    exact ⟨rfl, hf1.below (fun _ _ h => h)⟩
  · by_cases h0 : s.size = 0
    · have hz0 : ((s.size : Int) == 0) = true := by rw [beq_iff_eq]; omega
      clear h0
      go_enter Try.func7, Try.ntmps7
      go_wp2_with (go_at_call 25; refine (cawake _).mono ?_; rintro e w1 ⟨rfl, hf1⟩)
      go_ret
      exact ⟨rfl, hf1.below (fun _ _ h => h)⟩
    · by_cases hb0 : b = 0
      · have hz0 : ((s.size : Int) == 0) = false := by rw [beq_eq_false_iff_ne]; omega
        have hbz : ((b : Int) == 0) = true := by rw [beq_iff_eq]; omega
        clear h0 hb0
        go_enter Try.func7, Try.ntmps7
        go_wp2_with (go_at_call 25; refine (cawake _).mono ?_; rintro e w1 ⟨rfl, hf1⟩)
        go_ret
        exact ⟨rfl, hf1.below (fun _ _ h => h)⟩
      · exact bursts_walk s a b w (by omega) (by omega) (by omega) (by omega) (by omega)
end Go.Proofs.Ytkmafgmlcocjiaa
