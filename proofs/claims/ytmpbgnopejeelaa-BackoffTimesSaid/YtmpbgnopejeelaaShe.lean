/- SHA-256: the padded end; New, Len and end of a Hash. -/
import Derived.Test.YtmpbgnopejeelaaShd
import Derived.Test.YtmpbgnopejeelaaPka
namespace Go.Proofs.Ytmpbgnopejeelaa
open Go.RowKit
set_option linter.unusedVariables false
set_option linter.unusedSimpArgs false
set_option maxRecDepth 100000
namespace Sh
/-- Eight bytes, the highest first. -/
def be8 (m : Nat) : List Nat := [m / 72057594037927936 % 256, m / 281474976710656 % 256, m / 1099511627776 % 256, m / 4294967296 % 256, m / 16777216 % 256, m / 65536 % 256, m / 256 % 256, m % 256]
def byteAt (m k : Nat) : Nat := m / 2 ^ (8 * (7 - k)) % 256
theorem be8_succ (m k : Nat) (hk : k < 8) : (be8 m).take (k + 1) = (be8 m).take k ++ [byteAt m k] := by
  match k, hk with
  | 0, _ => rfl
  | 1, _ => rfl
  | 2, _ => rfl
  | 3, _ => rfl
  | 4, _ => rfl
  | 5, _ => rfl
  | 6, _ => rfl
  | 7, _ => show _ = _ ++ [m / 1 % 256]; rw [Nat.div_one]; rfl
def padz (r : Nat) : Nat := (119 - r % 64) % 64
/-- What comes behind a text of n bytes. -/
def pad (n : Nat) : List Nat := 128 :: (List.replicate (padz n) 0 ++ be8 (8 * n))
theorem be8_lt (m : Nat) : ∀ b ∈ be8 m, b < 256 := by
  intro b hb
  unfold be8 at hb
  simp only [List.mem_cons, List.not_mem_nil, or_false] at hb
  omega
theorem pad_lt (n : Nat) : ∀ b ∈ pad n, b < 256 := by
  intro b hb
  unfold pad at hb
  rcases List.mem_cons.1 hb with rfl | hb
  · decide
  · rcases List.mem_append.1 hb with hb | hb
    · rw [(List.mem_replicate.1 hb).2]; decide
    · exact be8_lt _ b hb
theorem pad_len (n : Nat) : (pad n).length = 1 + padz n + 8 := by
  unfold pad
  rw [List.length_cons, List.length_append, List.length_replicate]
  show padz n + 8 + 1 = _
  omega
theorem pad_all (n : Nat) : (n + (pad n).length) % 64 = 0 := by
  rw [pad_len]
  unfold padz
  omega
/-- A row of bytes of one's own. -/
def Bw (w : World) (base : Nat) (v : Value) (l : List Nat) : Prop := w.ownsRow base 5 1 v l.length (Pk.u8s l)
theorem Bw.conv {w : World} {base : Nat} {v : Value} {l : List Nat} (h : Bw w base v l) : (convert 43 9 v).run Try.prog w = .ok (.string (txt l)) w := by
  rcases h.2 with ⟨rfl, h0⟩ | ⟨g, cap, cur, rfl, hb, hg, hr⟩
  · have : l = [] := List.eq_nil_of_length_eq_zero h0
    subst this
    rfl
  · refine Bts.conv (l := l) ⟨Bk.lt hg, fun j hj => ?_, fun j hj => Bk.frozen hg j⟩ rfl cap
    rw [World.ownsRow.cellAt h j (by omega)]
    simp [Pk.u8s, List.getElem?_eq_getElem hj]
theorem Bw.app {w : World} {base : Nat} {v : Value} {l m : List Nat} {n : Nat} (h : w.ownsRow base 5 1 v n (Pk.u8s l ++ Pk.u8s m)) (hn : n = l.length + m.length) : Bw w base v (l ++ m) := by
  unfold Bw
  rw [List.length_append, Pk.u8s_app, ← hn]
  exact h
theorem Bw.app1 {w : World} {base : Nat} {v : Value} {l : List Nat} {n : Nat} {x : Int} {y : Nat} (h : w.ownsRow base 5 1 v n (Pk.u8s l ++ [.int .u8 x])) (hx : x = (y : Int)) (hn : n = l.length + 1) : Bw w base v (l ++ [y]) := by
  subst hx
  exact Bw.app (m := [y]) h hn
theorem Bw.first (w : World) (l : List Nat) (hl : l.length ≤ 1000) : Bw (w.alloc (.cells (Pk.u8s l).toArray 5)) w.heap.size (.slice (some ⟨w.heap.size, 0, none⟩) l.length l.length) l :=
  ⟨by rw [Pk.u8s_len, Nat.mul_one], .inr ⟨w.heap.size, l.length, (Pk.u8s l).toArray, rfl, Nat.le_refl _, heap_alloc_new w _, Nat.le_refl _, by unfold maxLen; omega, by rw [List.size_toArray, Pk.u8s_len, Nat.mul_one], by rw [List.take_of_length_le (by rw [Pk.u8s_len, Nat.mul_one]; exact Nat.le_refl _)]⟩⟩
def lenV : Value → Nat
  | .slice _ n _ => n
  | _ => 0
/-- A Hash: eight words, the rest's text, how many bytes. -/
structure Hh (w : World) (b : Nat) (v : List Nat) (r : ByteArray) (n : Nat) : Prop where
  blk : w.heap[b]? = some (.cells (u32s v ++ [Value.string r, Value.int .i64 (n : Int)] : List Value).toArray 73 (0, 0))
  len : v.length = 8
  lt : ∀ x ∈ v, x < 4294967296
section
variable {w w1 : World} {b : Nat} {v : List Nat} {r : ByteArray} {n : Nat} {S : Nat → Prop}
theorem Hh.c8 (h : Hh w b v r n) : w.cell? ⟨b, 8, none⟩ = some (.string r) := by
  rw [Bk.cell h.blk, List.getElem?_toArray, List.getElem?_append_right (by rw [u32s_len, h.len]; exact Nat.le_refl _), u32s_len, h.len]; rfl
theorem Hh.c9 (h : Hh w b v r n) : w.cell? ⟨b, 9, none⟩ = some (.int .i64 n) := by
  rw [Bk.cell h.blk, List.getElem?_toArray, List.getElem?_append_right (by rw [u32s_len, h.len]; omega), u32s_len, h.len]; rfl
theorem Hh.free (h : Hh w b v r n) (i : Nat) : w.frozen? ⟨b, i, none⟩ = false := Bk.frozen h.blk i
theorem Hh.lt' (h : Hh w b v r n) : b < w.heap.size := Bk.lt h.blk
theorem Hh.frm (h : Hh w b v r n) (hf : Frm S w w1) (hs : ¬ S b) : Hh w1 b v r n := ⟨hf.blk h.blk hs, h.len, h.lt⟩
theorem Hh.frm0 (h : Hh w b v r n) (hf : Frm0 w w1) : Hh w1 b v r n := h.frm hf (fun h => h)
theorem Hh.range (h : Hh w b v r n) : w.rangeAt b 0 (u32s v) := fun j u hu => by
  have hj : j < (u32s v).length := (List.getElem?_eq_some_iff.1 hu).1
  rw [Bk.cell h.blk, Nat.zero_add, List.getElem?_toArray, List.getElem?_append_left hj, hu]
theorem Hh.set8 (h : Hh w b v r n) (r' : ByteArray) : Hh (w.setCell ⟨b, 8, none⟩ (.string r')) b v r' n := by
  refine ⟨?_, h.len, h.lt⟩
  have := Bk.set h.blk 8 (.string r')
  rw [this, List.setIfInBounds_toArray, List.set_append_right _ _ (by rw [u32s_len, h.len]; exact Nat.le_refl _), u32s_len, h.len]
  rfl
theorem Hh.set9 (h : Hh w b v r n) (n' : Nat) : Hh (w.setCell ⟨b, 9, none⟩ (.int .i64 n')) b v r n' := by
  refine ⟨?_, h.len, h.lt⟩
  have := Bk.set h.blk 9 (.int .i64 n')
  rw [this, List.setIfInBounds_toArray, List.set_append_right _ _ (by rw [u32s_len, h.len]; omega), u32s_len, h.len]
  rfl
end
theorem len_nil (w : World) : Calls Try.prog 39 #[.pointer none] w fun e w' => e = .returned (.int .i64 0) ∧ w = w' := by
  go_enter Try.func39, Try.ntmps39
  go_wp2
  go_ret
  exact ⟨rfl, rfl⟩
theorem len_any {w : World} {b : Nat} {v : List Nat} {r : ByteArray} {n : Nat} (h : Hh w b v r n) : Calls Try.prog 39 #[.pointer (some ⟨b, 0, none⟩)] w fun e w' => e = .returned (.int .i64 n) ∧ w = w' := by
  have c9 := h.c9
  go_enter Try.func39, Try.ntmps39
  go_wp2
  go_ret
  exact ⟨rfl, rfl⟩
theorem sum_nil (w : World) : Calls Try.prog 38 #[.pointer none] w fun e w' => e = .returned (.string ⟨#[]⟩) ∧ w = w' := by
  go_enter Try.func38, Try.ntmps38
  go_wp2
  go_ret
  exact ⟨rfl, rfl⟩
theorem write_nil (s : ByteArray) (w : World) : Calls Try.prog 37 #[.pointer none, .string s] w fun e w' => (∃ v, e = .returned v) ∧ w = w' := by
  go_enter Try.func37, Try.ntmps37
  go_wp2
  go_returns
  exact ⟨⟨_, rfl⟩, rfl⟩
set_option maxHeartbeats 2000000 in
theorem end_any {w : World} {b : Nat} {v : List Nat} {r : ByteArray} {n : Nat} (h : Hh w b v r n) (hn : n ≤ 1000000) (hr : r.size = n % 64) :
    Calls Try.prog 61 #[.pointer (some ⟨b, 0, none⟩)] w fun e w' => e = .returned (.string (txt (pad n))) ∧ Frm0 w w' := by
  have hz : padz n = (119 - r.size) % 64 := by unfold padz; rw [hr]
  have hr64 : r.size < 64 := by omega
  have HR := Lib.hid hr
  clear hr
  have c8 := h.c8
  have c9 := h.c9
  have hbl := h.lt'
  clear h
  obtain ⟨z, hz'⟩ : ∃ z, padz n = z := ⟨_, rfl⟩
  rw [hz'] at hz
  have HZ := Lib.hid hz'
  clear hz'
  have hB0 := Bw.first w [128] (by decide)
  have hF0 := (Frm.refl (fun _ => False) w).alloc (.cells (Pk.u8s [128]).toArray 5)
  go_enter Try.func61, Try.ntmps61
  go_wp2_with fail
  go_loopw [3] (fun u wr => ∃ (j : Nat), j ≤ z ∧ lenV u = 1 + j ∧ Bw wr w.heap.size u (128 :: List.replicate j 0) ∧ Frm0 w wr) (fun u _ => z + 1 - lenV u)
  case atStart => exact ⟨0, by omega, rfl, hB0, hF0⟩
  case round =>
    obtain ⟨j, hj, hlu, hB, hF⟩ := hrel
    have d8 := hF.cell c8 (fun h => h)
    have d9 := hF.cell c9 (fun h => h)
    have hB' := hB
    unfold Bw at hB'
    rw [List.length_cons, List.length_replicate] at hB'
    obtain ⟨g, cap, rfl⟩ := owns_form hB'
    clear hB'
    clear hlu
    have hbs := (World.ownsRow.lt hB g rfl).1
    have hbl2 := (World.ownsRow.lt hB g rfl).2
    have hll : (128 :: List.replicate j 0).length = j + 1 := by simp
    have hsz := hF.size
    by_cases hjz : j < z
    · have hne : ¬ ((r.size : Int) + ((j : Int) + 1) + 8) % 64 = 0 := by omega
      have hbn : (((r.size : Int) + ((j : Int) + 1) + 8) % 64 != 0) = true := bne_iff_ne.2 hne
      unfold Bw at hB
      rw [hll] at hB
      go_wp2_with (at_builtin; refine wpList_append_sl rfl (.tmp 18) (.tmp 19) rfl Pk.Euint8 w.heap.size _ (.slice (some ⟨wr.heap.size, 0, none⟩) 1 1) (j + 1) 1 (Pk.u8s (128 :: List.replicate j 0)) (Pk.u8s [0]) rfl rfl (hB.alloc _) (Sl.new _ _ _ 1 (by decide) (by omega)) rfl (Pk.u8s_one _) (by unfold maxLen; omega) (by omega) (by simp; omega) ?_; intro v2 w2 hown2 hf2 hat2)
      go_roundw
      case rel =>
        have hB2 := Bw.app hown2 (by rw [hll]; rfl)
        rw [List.cons_append, ← List.replicate_succ'] at hB2
        refine ⟨j + 1, by omega, ?_, hB2, (hF.alloc _).then_ hf2 (fun i hi e => by have := (World.ownsRow.lt hB i e).1; omega)⟩
        obtain ⟨g2, cap2, rfl⟩ := owns_form hown2
        simp only [lenV]
        omega
      case measure =>
        obtain ⟨g2, cap2, rfl⟩ := owns_form hown2
        simp only [lenV]
        omega
    · obtain rfl : j = z := by omega
      have hne : ((r.size : Int) + ((j : Int) + 1) + 8) % 64 = 0 := by omega
      have hbn : (((r.size : Int) + ((j : Int) + 1) + 8) % 64 != 0) = false := by rw [hne]; rfl
      have hj64 : j < 64 := by omega
      clear hz
      have m0 : IntKind.u64.wrap (n : Int) = (n : Int) := by rw [IntKind.wrap_u64]; omega
      have m1 : IntKind.u64.wrap ((n : Int) * 8) = ((8 * n : Nat) : Int) := by rw [IntKind.wrap_u64]; omega
      go_wp2_with fail
      clear hne hbn
      go_loopw [3, 5] (fun u i wq => ∃ (k : Nat) (m : Int), k ≤ 8 ∧ i = .int .i64 m ∧ m = 7 - (k : Int) ∧ Bw wq w.heap.size u ((128 :: List.replicate j 0) ++ (be8 (8 * n)).take k) ∧ Frm0 w wq) (fun _ i _ => (intOf i + 1).toNat)
      case atStart => exact ⟨0, 7, by omega, rfl, rfl, by simpa using hB, hF⟩
      case round =>
        clear hB hF d8 d9
        obtain ⟨k, m, hk, rfl, hm, hB, hF⟩ := hrel
        have hll3 : ((128 :: List.replicate j 0) ++ (be8 (8 * n)).take k).length = j + 1 + k := by
          have : (be8 (8 * n)).length = 8 := rfl
          rw [List.length_append, List.length_take, hll, this]
          omega
        have hB' := hB
        unfold Bw at hB'
        have hsz := hF.size
        have e1 : j + 1 + k = (j + k) + 1 := by omega
        rw [hll3, e1] at hB'
        obtain ⟨g, cap, rfl⟩ := owns_form hB'
        by_cases hlt : k < 8
        · have hj100 : j ≤ 64 := by omega
          have HQ := Lib.hid (be8_succ (8 * n) k hlt)
          have HLL := Lib.hid hll3
          clear hll3 e1 hB hll
          generalize hL : (128 :: List.replicate j 0 ++ (be8 (8 * n)).take k) = L at *
          have HL := Lib.hid hL
          clear hL
          have hk8 : k = 0 ∨ k = 1 ∨ k = 2 ∨ k = 3 ∨ k = 4 ∨ k = 5 ∨ k = 6 ∨ k = 7 := by omega
          rcases hk8 with rfl | rfl | rfl | rfl | rfl | rfl | rfl | rfl
          · have hm7 : m = 7 := by omega
            clear hm hk hlt
            subst hm7
            go_wp2_with (at_builtin; refine wpList_append_sl rfl (.tmp 31) (.tmp 37) rfl Pk.Euint8 w.heap.size _ (.slice (some ⟨wr.heap.size, 0, none⟩) 1 1) (j + 0 + 1) 1 (Pk.u8s L) [.int .u8 _] rfl rfl (hB'.alloc _) (Sl.new _ _ _ 1 (by decide) (by omega)) rfl (by simp [Value.oneCell']) (by unfold maxLen; omega) (by omega) (by simp; omega) ?_; intro v2 w2 hown2 hf2 hat2)
            go_roundw
            case rel =>
              have hB2 := Bw.app1 (y := byteAt (8 * n) 0) hown2 (by simp [byteAt] <;> omega) (by rw [HLL.out])
              rw [← HL.out, List.append_assoc, ← HQ.out] at hB2
              exact ⟨1, 6, by omega, rfl, by omega, hB2, (hF.alloc _).then_ hf2 (fun i hi e => by have := (World.ownsRow.lt hB' i e).1; omega)⟩
            case measure => simp [intOf]
          · have hm7 : m = 6 := by omega
            clear hm hk hlt
            subst hm7
            go_wp2_with (at_builtin; refine wpList_append_sl rfl (.tmp 31) (.tmp 37) rfl Pk.Euint8 w.heap.size _ (.slice (some ⟨wr.heap.size, 0, none⟩) 1 1) (j + 1 + 1) 1 (Pk.u8s L) [.int .u8 _] rfl rfl (hB'.alloc _) (Sl.new _ _ _ 1 (by decide) (by omega)) rfl (by simp [Value.oneCell']) (by unfold maxLen; omega) (by omega) (by simp; omega) ?_; intro v2 w2 hown2 hf2 hat2)
            go_roundw
            case rel =>
              have hB2 := Bw.app1 (y := byteAt (8 * n) 1) hown2 (by simp [byteAt] <;> omega) (by rw [HLL.out])
              rw [← HL.out, List.append_assoc, ← HQ.out] at hB2
              exact ⟨2, 5, by omega, rfl, by omega, hB2, (hF.alloc _).then_ hf2 (fun i hi e => by have := (World.ownsRow.lt hB' i e).1; omega)⟩
            case measure => simp [intOf]
          · have hm7 : m = 5 := by omega
            clear hm hk hlt
            subst hm7
            go_wp2_with (at_builtin; refine wpList_append_sl rfl (.tmp 31) (.tmp 37) rfl Pk.Euint8 w.heap.size _ (.slice (some ⟨wr.heap.size, 0, none⟩) 1 1) (j + 2 + 1) 1 (Pk.u8s L) [.int .u8 _] rfl rfl (hB'.alloc _) (Sl.new _ _ _ 1 (by decide) (by omega)) rfl (by simp [Value.oneCell']) (by unfold maxLen; omega) (by omega) (by simp; omega) ?_; intro v2 w2 hown2 hf2 hat2)
            go_roundw
            case rel =>
              have hB2 := Bw.app1 (y := byteAt (8 * n) 2) hown2 (by simp [byteAt] <;> omega) (by rw [HLL.out])
              rw [← HL.out, List.append_assoc, ← HQ.out] at hB2
              exact ⟨3, 4, by omega, rfl, by omega, hB2, (hF.alloc _).then_ hf2 (fun i hi e => by have := (World.ownsRow.lt hB' i e).1; omega)⟩
            case measure => simp [intOf]
          · have hm7 : m = 4 := by omega
            clear hm hk hlt
            subst hm7
            go_wp2_with (at_builtin; refine wpList_append_sl rfl (.tmp 31) (.tmp 37) rfl Pk.Euint8 w.heap.size _ (.slice (some ⟨wr.heap.size, 0, none⟩) 1 1) (j + 3 + 1) 1 (Pk.u8s L) [.int .u8 _] rfl rfl (hB'.alloc _) (Sl.new _ _ _ 1 (by decide) (by omega)) rfl (by simp [Value.oneCell']) (by unfold maxLen; omega) (by omega) (by simp; omega) ?_; intro v2 w2 hown2 hf2 hat2)
            go_roundw
            case rel =>
              have hB2 := Bw.app1 (y := byteAt (8 * n) 3) hown2 (by simp [byteAt] <;> omega) (by rw [HLL.out])
              rw [← HL.out, List.append_assoc, ← HQ.out] at hB2
              exact ⟨4, 3, by omega, rfl, by omega, hB2, (hF.alloc _).then_ hf2 (fun i hi e => by have := (World.ownsRow.lt hB' i e).1; omega)⟩
            case measure => simp [intOf]
          · have hm7 : m = 3 := by omega
            clear hm hk hlt
            subst hm7
            go_wp2_with (at_builtin; refine wpList_append_sl rfl (.tmp 31) (.tmp 37) rfl Pk.Euint8 w.heap.size _ (.slice (some ⟨wr.heap.size, 0, none⟩) 1 1) (j + 4 + 1) 1 (Pk.u8s L) [.int .u8 _] rfl rfl (hB'.alloc _) (Sl.new _ _ _ 1 (by decide) (by omega)) rfl (by simp [Value.oneCell']) (by unfold maxLen; omega) (by omega) (by simp; omega) ?_; intro v2 w2 hown2 hf2 hat2)
            go_roundw
            case rel =>
              have hB2 := Bw.app1 (y := byteAt (8 * n) 4) hown2 (by simp [byteAt] <;> omega) (by rw [HLL.out])
              rw [← HL.out, List.append_assoc, ← HQ.out] at hB2
              exact ⟨5, 2, by omega, rfl, by omega, hB2, (hF.alloc _).then_ hf2 (fun i hi e => by have := (World.ownsRow.lt hB' i e).1; omega)⟩
            case measure => simp [intOf]
          · have hm7 : m = 2 := by omega
            clear hm hk hlt
            subst hm7
            go_wp2_with (at_builtin; refine wpList_append_sl rfl (.tmp 31) (.tmp 37) rfl Pk.Euint8 w.heap.size _ (.slice (some ⟨wr.heap.size, 0, none⟩) 1 1) (j + 5 + 1) 1 (Pk.u8s L) [.int .u8 _] rfl rfl (hB'.alloc _) (Sl.new _ _ _ 1 (by decide) (by omega)) rfl (by simp [Value.oneCell']) (by unfold maxLen; omega) (by omega) (by simp; omega) ?_; intro v2 w2 hown2 hf2 hat2)
            go_roundw
            case rel =>
              have hB2 := Bw.app1 (y := byteAt (8 * n) 5) hown2 (by simp [byteAt] <;> omega) (by rw [HLL.out])
              rw [← HL.out, List.append_assoc, ← HQ.out] at hB2
              exact ⟨6, 1, by omega, rfl, by omega, hB2, (hF.alloc _).then_ hf2 (fun i hi e => by have := (World.ownsRow.lt hB' i e).1; omega)⟩
            case measure => simp [intOf]
          · have hm7 : m = 1 := by omega
            clear hm hk hlt
            subst hm7
            go_wp2_with (at_builtin; refine wpList_append_sl rfl (.tmp 31) (.tmp 37) rfl Pk.Euint8 w.heap.size _ (.slice (some ⟨wr.heap.size, 0, none⟩) 1 1) (j + 6 + 1) 1 (Pk.u8s L) [.int .u8 _] rfl rfl (hB'.alloc _) (Sl.new _ _ _ 1 (by decide) (by omega)) rfl (by simp [Value.oneCell']) (by unfold maxLen; omega) (by omega) (by simp; omega) ?_; intro v2 w2 hown2 hf2 hat2)
            go_roundw
            case rel =>
              have hB2 := Bw.app1 (y := byteAt (8 * n) 6) hown2 (by simp [byteAt] <;> omega) (by rw [HLL.out])
              rw [← HL.out, List.append_assoc, ← HQ.out] at hB2
              exact ⟨7, 0, by omega, rfl, by omega, hB2, (hF.alloc _).then_ hf2 (fun i hi e => by have := (World.ownsRow.lt hB' i e).1; omega)⟩
            case measure => simp [intOf]
          · have hm7 : m = 0 := by omega
            clear hm hk hlt
            subst hm7
            go_wp2_with (at_builtin; refine wpList_append_sl rfl (.tmp 31) (.tmp 37) rfl Pk.Euint8 w.heap.size _ (.slice (some ⟨wr.heap.size, 0, none⟩) 1 1) (j + 7 + 1) 1 (Pk.u8s L) [.int .u8 _] rfl rfl (hB'.alloc _) (Sl.new _ _ _ 1 (by decide) (by omega)) rfl (by simp [Value.oneCell']) (by unfold maxLen; omega) (by omega) (by simp; omega) ?_; intro v2 w2 hown2 hf2 hat2)
            go_roundw
            case rel =>
              have hB2 := Bw.app1 (y := byteAt (8 * n) 7) hown2 (by simp [byteAt] <;> omega) (by rw [HLL.out])
              rw [← HL.out, List.append_assoc, ← HQ.out] at hB2
              exact ⟨8, -1, by omega, rfl, by omega, hB2, (hF.alloc _).then_ hf2 (fun i hi e => by have := (World.ownsRow.lt hB' i e).1; omega)⟩
            case measure => simp [intOf]
        · obtain rfl : k = 8 := by omega
          have hm1 : m = -1 := by omega
          clear hm
          subst hm1
          have e8 : (128 :: List.replicate j 0 ++ (be8 (8 * n)).take 8) = pad n := by
            unfold pad
            rw [HZ.out]
            rfl
          rw [e8] at hB
          have hcv := Bw.conv hB
          go_wp2
          go_ret
          exact ⟨rfl, hF⟩
end Sh
end Go.Proofs.Ytmpbgnopejeelaa
