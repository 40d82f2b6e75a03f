/- SHA-256: the digest of a Hash, and of a text. -/
import Derived.Test.YtmpbgnopejeelaaShf
namespace Go.Proofs.Ytmpbgnopejeelaa
open Go.RowKit
set_option linter.unusedVariables false
set_option linter.unusedSimpArgs false
set_option maxRecDepth 100000
namespace Sh
def be4 (x : Nat) : List Nat := [x / 16777216 % 256, x / 65536 % 256, x / 256 % 256, x % 256]
def outB (v : List Nat) : List Nat := v.flatMap be4
/-- The digest's bytes. -/
def digB (l : List Nat) : List Nat := outB (blocks V0 (l ++ pad l.length) ((l ++ pad l.length).length / 64))
/-- The digest. -/
def dig (l : List Nat) : ByteArray := txt (digB l)
theorem be4_lt (x : Nat) : ∀ b ∈ be4 x, b < 256 := by
  intro b hb
  unfold be4 at hb
  simp only [List.mem_cons, List.not_mem_nil, or_false] at hb
  omega
theorem outB_lt (v : List Nat) : ∀ b ∈ outB v, b < 256 := by
  intro b hb
  obtain ⟨x, _, hx⟩ := List.mem_flatMap.1 hb
  exact be4_lt x b hx
theorem outB_take (v : List Nat) (k : Nat) (hk : k < v.length) : outB (v.take (k + 1)) = outB (v.take k) ++ be4 (v.getD k 0) := by
  unfold outB
  rw [List.take_add_one, List.getElem?_eq_getElem hk, List.getD_eq_getElem?_getD, List.getElem?_eq_getElem hk, List.flatMap_append]
  simp
theorem outB_len (v : List Nat) : (outB v).length = 4 * v.length := by
  unfold outB
  induction v with
  | nil => rfl
  | cons a v ih => rw [List.flatMap_cons, List.length_append, ih, List.length_cons]; show 4 + _ = _; omega
theorem idx8 (v : List Nat) (hv : v.length = 8) (k : Nat) (hk : k < 8) (w : World) : (Instr.index 37 (.agg (u32s v).toArray) (.int .i64 (k : Int))).run Try.prog w = .ok (.int .u32 (v.getD k 0 : Nat)) w := by
  have hn : 0 ≤ (k : Int) ∧ (k : Int) < (8 : Nat) := by omega
  have hc : (u32s v).toArray[k]? = some (.int .u32 (v.getD k 0 : Nat)) := by rw [List.getElem?_toArray]; exact u32s_at v k (by omega)
  simp [Instr.index, run_underlying Try.underlying37, asIntOf, hn, go_sem]
  rw [if_pos hk]
  have hc' := hc
  simp at hc'
  simp [hc']
theorem Bw.app4 {w : World} {base : Nat} {v : Value} {l : List Nat} {n : Nat} {x0 x1 x2 x3 : Int} {x : Nat} (h : w.ownsRow base 5 1 v n (Pk.u8s l ++ [.int .u8 x0, .int .u8 x1, .int .u8 x2, .int .u8 x3]))
    (h0 : x0 = (x : Int) / 16777216 % 256) (h1 : x1 = (x : Int) / 65536 % 256) (h2 : x2 = (x : Int) / 256 % 256) (h3 : x3 = (x : Int) % 256) (hn : n = l.length + 4) : Bw w base v (l ++ be4 x) := by
  have e0 : x0 = ((x / 16777216 % 256 : Nat) : Int) := by omega
  have e1 : x1 = ((x / 65536 % 256 : Nat) : Int) := by omega
  have e2 : x2 = ((x / 256 % 256 : Nat) : Int) := by omega
  have e3 : x3 = ((x % 256 : Nat) : Int) := by omega
  subst e0 e1 e2 e3
  exact Bw.app (m := be4 x) h hn
theorem Hs.size {w : World} {b : Nat} {l : List Nat} {r : ByteArray} (hr : bytes r = l.drop (64 * (l.length / 64))) : r.size = l.length % 64 := by
  have := congrArg List.length hr
  rw [bytes_len, List.length_drop] at this
  omega
theorem Hs.copy {w w' : World} {b c : Nat} {r : ByteArray} {v : List Nat} {n : Nat} (h : Hh w b v r n) (hc : w'.heap[c]? = some (.cells (u32s v ++ [Value.string r, Value.int .i64 (n : Int)] : List Value).toArray 73 (0, 0))) : Hh w' c v r n := ⟨hc, h.len, h.lt⟩
theorem iH : (Try.prog.info? 73).map (·.size) = some 10 := by kernel_rfl
theorem len10 (v : List Nat) (hv : v.length = 8) (a b : Value) : (u32s v ++ [a, b]).length = 10 := by rw [List.length_append, u32s_len, hv]; rfl
theorem one10 (v : List Nat) (r : ByteArray) (n : Int) : (u32s v ++ [Value.string r, Value.int .i64 n] : List Value).all (·.oneCell') = true := by
  rw [List.all_append, u32s_one]
  rfl
set_option maxHeartbeats 2000000 in
theorem sum_any {w : World} {b : Nat} {l : List Nat} (h : Hs w b l) (hl : l.length ≤ 500000) :
    Calls Try.prog 38 #[.pointer (some ⟨b, 0, none⟩)] w fun e w' => e = .returned (.string (dig l)) ∧ Frm0 w w' := by
  obtain ⟨r, h, hr⟩ := h
  have hrs := Hs.size (w := w) (b := b) hr
  have hpl := pad_len l.length
  have hpm := pad_all l.length
  have hpb : (pad l.length).length ≤ 100 := by rw [hpl]; unfold padz; omega
  have HE := Lib.hid (fun (w : World) (h : Hh w b (blocks V0 l (l.length / 64)) r l.length) => end_any h (by omega) hrs)
  have HW := Lib.hid (fun (w : World) (c : Nat) (h : Hs w c l) => write_any (txt (pad l.length)) h (by rw [txt_size]; omega))
  have hbp := bytes_txt (pad_lt l.length)
  have HB := Lib.hid hbp
  have HR := Lib.hid hr
  have HPM := Lib.hid hpm
  have HH := Lib.hid h
  have hl10 := len10 _ h.len (.string r) (.int .i64 l.length)
  have ho10 := one10 (blocks V0 l (l.length / 64)) r l.length
  have HL10 := Lib.hid hl10
  have HO10 := Lib.hid ho10
  clear hr hrs hpl hpm hpb hbp h hl10 ho10
  go_enter Try.func38, Try.ntmps38
  go_wp2_with (first
    | (refine wpList_load_blk rfl 73 (.tmp 10) rfl HH.out.blk rfl Try.underlying73 rfl iH HL10.out ?_)
    | (refine wpList_alloc_any rfl 73 3 rfl rfl (.cells _ 73) (by rfl) ?_; intro w1 hz1 hN1 hf1)
    | (refine wpList_store_blk rfl 73 (.tmp 3) (.tmp 11) rfl hN1 rfl rfl iH (us := (u32s (blocks V0 l (l.length / 64)) ++ [Value.string r, Value.int .i64 (l.length : Int)] : List Value).toArray) (by rw [List.size_toArray]; exact HL10.out) rfl HO10.out ?_; intro w2 hb2 hf2))
  have hF2 := (((Frm.refl (fun _ => False) w).trans hf1).then_ hf2 (fun i hi e => by omega))
  have hH2 : Hh w2 b _ r l.length := HH.out.frm0 hF2
  have hs2 : Hs w2 w.heap.size l := ⟨r, Hs.copy HH.out hb2, HR.out⟩
  clear hN1 hf1 hf2 hz1 hb2
  refine (HE.out _ hH2).mono ?_
  rintro e w3 ⟨rfl, hf3⟩
  have hs3 : Hs w3 w.heap.size l := by
    obtain ⟨r', h', hr'⟩ := hs2
    exact ⟨r', h'.frm0 hf3, hr'⟩
  have hF3 := hF2.trans hf3
  go_wp2_with fail
  refine (HW.out _ _ hs3).mono ?_
  rintro e w4 ⟨rfl, hs4, hf4⟩
  have hF4 := hF3.then_ hf4 (fun i hi e => by omega)
  rw [HB.out] at hs4
  obtain ⟨r5, hH5, hr5⟩ := hs4
  have hVL := Lib.hid hH5.len
  have hVB := Lib.hid hH5.lt
  have hsz4 : w.heap.size < w4.heap.size := hH5.lt'
  have hD : digB l = outB (blocks V0 (l ++ pad l.length) ((l ++ pad l.length).length / 64)) := rfl
  have HD := Lib.hid hD
  have hRG := hH5.range
  clear hD hs2 hs3 hf3 hf4 hF2 hF3 hH2 hr5 hH5
  generalize blocks V0 (l ++ pad l.length) ((l ++ pad l.length).length / 64) = v at *
  have hiv := Lib.hid (idx8 v hVL.out)
  go_wp2_with (refine wpList_load_mid rfl 37 (.tmp 15) rfl w.heap.size 0 rfl (u32s v) _ hRG Try.underlying37 rfl (by rw [iV, u32s_len, hVL.out]) ?_)
  go_loopw [4, 17] (fun u i wr => ∃ (k : Nat), k ≤ 8 ∧ i = .int .i64 k ∧ Bw wr w.heap.size u (outB (v.take k)) ∧ Frm0 w wr) (fun _ i _ => 8 - (intOf i).toNat)
  case atStart => exact ⟨0, by omega, rfl, World.ownsRow_nil _ _ _ _, hF4⟩
  case round =>
    clear hRG hF4
    obtain ⟨k, hk, rfl, hB, hF⟩ := hrel
    by_cases hlt : k < 8
    · have hki : (k : Int) < 8 := by omega
      have hix := hiv.out k hlt
      have hxb := getD_lt hVB.out (by omega) k
      have HT := Lib.hid (outB_take v k (by rw [hVL.out]; exact hlt))
      have hol : (outB (v.take k)).length = 4 * k := by rw [outB_len, List.length_take, hVL.out]; omega
      generalize v.getD k 0 = x at *
      unfold Bw at hB
      rw [hol] at hB
      have hsz := hF.size
      go_wp2_with (at_builtin; refine wpList_append_sl rfl (.tmp 20) (.tmp 32) rfl Pk.Euint8 w.heap.size _ (.slice (some ⟨wr.heap.size, 0, none⟩) 4 4) (4 * k) 4 (Pk.u8s (outB (v.take k))) [.int .u8 _, .int .u8 _, .int .u8 _, .int .u8 _] rfl rfl (hB.alloc _) (Sl.new _ _ _ 4 (by decide) (by omega)) rfl (by simp [Value.oneCell']) (by unfold maxLen; omega) (by omega) (by simp; omega) ?_; intro v2 w5 hown2 hf2 hat2)
      go_roundw
      case rel =>
        have hB2 := Bw.app4 (x := x) hown2 (by omega) (by omega) (by omega) (by omega) (by rw [hol])
        rw [← HT.out] at hB2
        exact ⟨k + 1, by omega, by go_num, hB2, (hF.alloc _).then_ hf2 (fun i hi e => by have := (World.ownsRow.lt hB i e).1; omega)⟩
      case measure => simp [intOf]; omega
    · obtain rfl : k = 8 := by omega
      rw [List.take_of_length_le (by rw [hVL.out]; exact Nat.le_refl _), ← HD.out] at hB
      have hcv := Bw.conv hB
      go_wp2
      go_ret
      exact ⟨rfl, hF⟩
end Sh
end Go.Proofs.Ytmpbgnopejeelaa
