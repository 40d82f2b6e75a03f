/- The opener where it fails, the reference's First, the closures of PackReads. -/
import Derived.Test.YthggbohoedfkpaaPkh
import Derived.Test.YthggbohoedfkpaaR
namespace Go.Proofs.Ythggbohoedfkpaa
open Go.RowKit Go.ChangeShapes Go.WideShapes
set_option linter.unusedVariables false
set_option linter.unusedSimpArgs false
set_option maxRecDepth 100000
namespace Pk
theorem number_bad (ob : Nat) (s : ByteArray) (w : World) (h : Op w ob s true) : Calls Try.prog 62 #[.pointer (some ⟨ob, 0, none⟩)] w fun e w' => e = .returned (.int .i64 (-1)) ∧ Op w' ob ⟨#[]⟩ true ∧ Frm (fun k => k = ob) w w' := by
  go_enter Try.func62, Try.ntmps62
  go_wp2_with fail
  go_loopw [6] (fun i wr => i = .int .i64 0 ∧ wr = w) (fun _ _ => 0)
  case atStart => exact ⟨rfl, rfl⟩
  case round =>
    obtain ⟨rfl, rfl⟩ := hrel
    go_wp2_with fail
    refine (oraw_bad 1 ob s _ h).mono ?_
    rintro e w' ⟨rfl, h', hf'⟩
    go_wp2
    go_ret
    exact ⟨rfl, h', hf'⟩
theorem onum_no (lim n : Int) {ob : Nat} {t : ByteArray} {b : Bool} {w : World} (HN : Calls Try.prog 62 #[.pointer (some ⟨ob, 0, none⟩)] w fun e w' => e = .returned (.int .i64 n) ∧ Op w' ob t b ∧ Frm (fun k => k = ob) w w')
    (hc : b = true ∨ n < 0 ∨ 4611686018427387904 < n ∨ lim < n) :
    Calls Try.prog 46 #[.pointer (some ⟨ob, 0, none⟩), .int .i64 lim] w fun e w' => e = .returned (.int .i64 0) ∧ Op w' ob ⟨#[]⟩ true ∧ Frm (fun k => k = ob) w w' := by
  have hcs : b = true ∨ (b = false ∧ decide (n < 0) = true) ∨ (b = false ∧ decide (n < 0) = false ∧ decide (4611686018427387904 < n) = true) ∨ (b = false ∧ decide (n < 0) = false ∧ decide (4611686018427387904 < n) = false ∧ decide (lim < n) = true) := by
    cases b
    · simp only [decide_eq_true_eq, decide_eq_false_iff_not]
      simp at hc ⊢
      omega
    · exact .inl rfl
  have HN := Lib.hid HN
  clear hc
  rcases hcs with rfl | ⟨rfl, d1⟩ | ⟨rfl, d1, d2⟩ | ⟨rfl, d1, d2, d3⟩
  all_goals
    go_enter Try.func46, Try.ntmps46
    go_wp2_with fail
    refine HN.out.mono ?_
    rintro e w1 ⟨rfl, hO1, hf1⟩
    go_wp2_with fail
    refine (ook_any ob _ _ _ hO1).mono ?_
    rintro e w' ⟨rfl, rfl⟩
    go_wp2_with fail
    refine (fail_any ob _ _ _ hO1).mono ?_
    rintro e w2 ⟨rfl, hO2, hf2⟩
    go_wp2
    go_ret
    exact ⟨rfl, hO2, hf1.trans hf2⟩
theorem otext_no (lim : Int) {ob : Nat} {w : World} (HN : Calls Try.prog 46 #[.pointer (some ⟨ob, 0, none⟩), .int .i64 lim] w fun e w' => e = .returned (.int .i64 0) ∧ Op w' ob ⟨#[]⟩ true ∧ Frm (fun k => k = ob) w w') :
    Calls Try.prog 73 #[.pointer (some ⟨ob, 0, none⟩), .int .i64 lim] w fun e w' => e = .returned (.string ⟨#[]⟩) ∧ Op w' ob ⟨#[]⟩ true ∧ Frm (fun k => k = ob) w w' := by
  have HN := Lib.hid HN
  go_enter Try.func73, Try.ntmps73
  go_wp2_with fail
  refine HN.out.mono ?_
  rintro e w1 ⟨rfl, hO1, hf1⟩
  go_wp2_with fail
  refine (oraw_bad 0 ob _ _ hO1).mono ?_
  rintro e w2 ⟨rfl, hO2, hf2⟩
  go_wp2
  go_ret
  exact ⟨rfl, hO2, hf1.trans hf2⟩
theorem otext_short (lim : Int) {ob : Nat} {s t : ByteArray} {n : Nat} {w : World} (h : Op w ob s false) (hs : s.size ≤ 1000000) (hr : rd 9 0 0 s = ((n : Int), t, false)) (h1 : n ≤ 4611686018427387904) (h2 : (n : Int) ≤ lim) (ht : t.size < n) :
    Calls Try.prog 73 #[.pointer (some ⟨ob, 0, none⟩), .int .i64 lim] w fun e w' => e = .returned (.string ⟨#[]⟩) ∧ Op w' ob ⟨#[]⟩ true ∧ Frm (fun k => k = ob) w w' := by
  have HN := Lib.hid (onum_ok lim h hs hr h1 h2)
  have HR := Lib.hid (fun w (h : Op w ob t false) => oraw_short (n : Int) ob t w h (by rw [if_neg (by omega)]; omega))
  clear hr h
  go_enter Try.func73, Try.ntmps73
  go_wp2_with fail
  refine HN.out.mono ?_
  rintro e w1 ⟨rfl, hO1, hf1⟩
  go_wp2_with fail
  refine (HR.out _ hO1).mono ?_
  rintro e w2 ⟨rfl, hO2, hf2⟩
  go_wp2
  go_ret
  exact ⟨rfl, hO2, hf1.trans hf2⟩

/-! What is read, as the document says. -/
def gn (s : ByteArray) : Option (Nat × ByteArray) := if (rd 9 0 0 s).2.2 = false ∧ 0 ≤ (rd 9 0 0 s).1 ∧ (rd 9 0 0 s).1 ≤ 4611686018427387904 then some ((rd 9 0 0 s).1.toNat, (rd 9 0 0 s).2.1) else none
def fk (s : ByteArray) : Nat × Nat := match gn s with | some (n, t) => (n, s.size - t.size) | none => (0, 0)
theorem gn_some {s t : ByteArray} {n : Nat} (h : rd 9 0 0 s = ((n : Int), t, false)) (hn : n ≤ 4611686018427387904) : gn s = some (n, t) := by
  unfold gn
  rw [h]
  simp only
  rw [if_pos ⟨trivial, by omega, by omega⟩]
  simp
theorem gn_none {s t : ByteArray} {n : Int} {b : Bool} (h : rd 9 0 0 s = (n, t, b)) (hc : b = true ∨ n < 0 ∨ 4611686018427387904 < n) : gn s = none := by
  unfold gn
  rw [h]
  simp only
  rw [if_neg]
  rintro ⟨rfl, h1, h2⟩
  simp at hc
  omega
theorem gn_is {s t : ByteArray} {n : Nat} (h : gn s = some (n, t)) : rd 9 0 0 s = ((n : Int), t, false) ∧ n ≤ 4611686018427387904 := by
  unfold gn at h
  split at h
  · rename_i hc
    obtain ⟨h1, h2, h3⟩ := hc
    simp only [Option.some.injEq, Prod.mk.injEq] at h
    obtain ⟨e1, e2⟩ := h
    refine ⟨?_, by omega⟩
    rcases hr : rd 9 0 0 s with ⟨a, b, c⟩
    rw [hr] at h1 h2 h3 e1 e2
    simp only at h1 h2 h3 e1 e2
    subst h1 e2
    simp
    omega
  · cases h
theorem gn_not {s : ByteArray} (h : gn s = none) : ∃ n t b, rd 9 0 0 s = (n, t, b) ∧ (b = true ∨ n < 0 ∨ 4611686018427387904 < n) := by
  unfold gn at h
  rcases hr : rd 9 0 0 s with ⟨a, b, c⟩
  rw [hr] at h
  refine ⟨a, b, c, rfl, ?_⟩
  split at h
  · cases h
  · rename_i hc
    simp only [not_and] at hc
    cases c
    · have := hc rfl
      simp
      omega
    · exact .inl rfl
theorem pre_head : ∀ (m : Nat), 0 < m → (pre m).head? ≠ some 128 ∧ pre m ≠ [] := by
  intro m
  induction m using Nat.strongRecOn with
  | _ m ih =>
    intro hm
    rw [pre_pos hm]
    by_cases h0 : m / 128 = 0
    · rw [h0, pre_zero]
      simp
      omega
    · obtain ⟨h1, h2⟩ := ih (m / 128) (by omega) (by omega)
      refine ⟨?_, by simp⟩
      rw [List.head?_append]
      cases hp : pre (m / 128) with
      | nil => exact absurd hp h2
      | cons x r => rw [hp] at h1; simpa using h1
theorem numB_head (n : Nat) : (numB n).head? ≠ some 128 := by
  unfold numB
  by_cases h0 : n / 128 = 0
  · rw [h0, pre_zero]
    simp
    omega
  · obtain ⟨h1, h2⟩ := pre_head (n / 128) (by omega)
    rw [List.head?_append]
    cases hp : pre (n / 128) with
    | nil => exact absurd hp h2
    | cons x r => rw [hp] at h1; simpa using h1
/-- How far First has come: k bytes, and n of them. -/
def far (s : ByteArray) (k n : Nat) : Prop :=
  (k = 0 ∧ n = 0) ∨ (0 < k ∧ b0 s = 128) ∨ (0 < k ∧ b0 s ≠ 128 ∧ 0 < n ∧ rd 9 0 0 s = rd (9 - k) k n (s.extract k s.size) ∧ (bytes s).take k = pre n)
theorem b0_ext {s : ByteArray} {k : Nat} (hk : k < s.size) : b0 (s.extract k s.size) = (s[k]'hk).toNat := by
  unfold b0
  rw [bytes_extract, List.take_of_length_le (by rw [List.length_drop, bytes_len]; omega), List.getD_eq_getElem?_getD, List.getElem?_drop, Nat.add_zero, ← List.getD_eq_getElem?_getD, bytes_get]
theorem ext_ext (s : ByteArray) (k : Nat) : (s.extract k s.size).extract 1 (s.extract k s.size).size = s.extract (k + 1) s.size := by
  refine bytes_inj ?_
  rw [bytes_extract, bytes_extract, bytes_extract, ByteArray.size_extract]
  rw [List.take_of_length_le (by rw [List.length_drop, List.length_take, List.length_drop, bytes_len]; omega), List.take_of_length_le (l := (bytes s).drop k) (by rw [List.length_drop, bytes_len]; omega), List.take_of_length_le (by rw [List.length_drop, bytes_len]; omega), List.drop_drop]
theorem b0_at {s : ByteArray} (h : 0 < s.size) : b0 s = (s[0]'h).toNat := bytes_get s 0 h
theorem ext_all (s : ByteArray) : s.extract 0 s.size = s := by
  refine bytes_inj ?_
  rw [bytes_extract, List.drop_zero, List.take_of_length_le]
  rw [bytes_len]; omega
theorem rd_no128 {s : ByteArray} (h0 : 0 < s.size) (h : b0 s = 128) : gn s = none := gn_none (rd_no (by omega) h) (.inr (.inl (by decide)))
theorem take_snoc {s : ByteArray} {k : Nat} (hk : k < s.size) : (bytes s).take (k + 1) = (bytes s).take k ++ [(s[k]'hk).toNat] := by
  have hl : k < (bytes s).length := by rw [bytes_len]; exact hk
  rw [List.take_add_one, List.getElem?_eq_getElem hl]
  simp [bytes]
  rfl
theorem far_more {s : ByteArray} {k n : Nat} (h : far s k n) (hk : k < s.size) (h9 : k < 9) (hc : ¬ (s[k]'hk).toNat < 128) : far s (k + 1) (n * 128 + (s[k]'hk).toNat % 128) := by
  have hlt : (s[k]'hk).toNat < 256 := UInt8.toNat_lt _
  rcases h with ⟨rfl, rfl⟩ | ⟨h0, h1⟩ | ⟨h0, h1, h2, h3, h4⟩
  · by_cases hb : b0 s = 128
    · exact .inr (.inl ⟨by omega, hb⟩)
    · have hb2 := b0_at hk
      refine .inr (.inr ⟨by omega, hb, by omega, ?_, ?_⟩)
      · rw [rd_more (by omega) (by omega) (by omega), hb2]
      · rw [take_snoc hk, List.take_zero, List.nil_append, pre_pos (by omega), show (0 * 128 + (s[0]'hk).toNat % 128) / 128 = 0 by omega, pre_zero, List.nil_append]
        congr 1
        omega
  · exact .inr (.inl ⟨by omega, h1⟩)
  · refine .inr (.inr ⟨by omega, h1, by omega, ?_, ?_⟩)
    · rw [h3, show 9 - k = 9 - (k + 1) + 1 by omega]
      have e := b0_ext hk
      rw [rd_more (by rw [ByteArray.size_extract]; omega) (by omega) (by rw [e]; exact hc), e, ext_ext]
    · rw [take_snoc hk, h4, pre_pos (m := n * 128 + _) (by omega), show (n * 128 + (s[k]'hk).toNat % 128) / 128 = n by omega]
      congr 2
      omega
theorem far_end {s : ByteArray} {k n : Nat} (h : far s k n) (hk : k ≤ s.size) (hc : k = s.size ∨ 9 ≤ k) (h9 : k ≤ 9) : gn s = none := by
  rcases h with ⟨rfl, rfl⟩ | ⟨h0, h1⟩ | ⟨h0, h1, h2, h3, h4⟩
  · exact gn_none (rd_end (by omega)) (.inl rfl)
  · exact rd_no128 (by omega) h1
  · by_cases e : k = 9
    · subst e
      exact gn_none (h3.trans rfl) (.inr (.inl (by decide)))
    · have e2 := rd_end (f := 9 - k - 1) (k := k) (n := n) (s := s.extract k s.size) (by rw [ByteArray.size_extract]; omega)
      rw [show 9 - k = 9 - k - 1 + 1 by omega, e2] at h3
      exact gn_none h3 (.inl rfl)
theorem far_got {s : ByteArray} {k n : Nat} (h : far s k n) (hk : k < s.size) (h9 : k < 9) (hc : (s[k]'hk).toNat < 128) (hne : ¬ (0 < k ∧ b0 s = 128)) :
    rd 9 0 0 s = (((n * 128 + (s[k]'hk).toNat % 128 : Nat) : Int), s.extract (k + 1) s.size, false) ∧ txt (numB (n * 128 + (s[k]'hk).toNat % 128)) = s.extract 0 (k + 1) := by
  have hpn : (bytes s).take k = pre n ∧ rd 9 0 0 s = rd (9 - k) k n (s.extract k s.size) := by
    rcases h with ⟨rfl, rfl⟩ | ⟨h0, h1⟩ | ⟨h0, h1, h2, h3, h4⟩
    · exact ⟨by rw [List.take_zero, pre_zero], by rw [ext_all]⟩
    · exact absurd ⟨h0, h1⟩ hne
    · exact ⟨h4, h3⟩
  constructor
  · rw [hpn.2, show 9 - k = 9 - k - 1 + 1 by omega]
    have e := b0_ext hk
    rw [rd_got (by rw [ByteArray.size_extract]; omega) (by rw [e]; exact hc), e, ext_ext]
  · refine bytes_inj ?_
    rw [bytes_txt (numB_lt _), bytes_extract, List.drop_zero, Nat.sub_zero, take_snoc hk, hpn.1]
    unfold numB
    rw [show (n * 128 + (s[k]'hk).toNat % 128) / 128 = n by omega]
    congr 2
    omega
theorem far_128 {s : ByteArray} {k m : Nat} (hk : k < s.size) (h0 : 0 < k) (h : b0 s = 128) : txt (numB m) ≠ s.extract 0 (k + 1) := by
  intro e
  have := congrArg bytes e
  rw [bytes_txt (numB_lt _), bytes_extract, List.drop_zero, Nat.sub_zero] at this
  have h2 := numB_head m
  rw [this] at h2
  apply h2
  unfold b0 at h
  cases hb : bytes s with
  | nil => rw [hb] at h; simp at h
  | cons x r => rw [hb] at h; simp at h; simp [h]
theorem fk_none {s : ByteArray} (h : gn s = none) : fk s = (0, 0) := by unfold fk; rw [h]
theorem fk_some {s t : ByteArray} {n k : Nat} (h : gn s = some (n, t)) (hk : s.size - t.size = k) : fk s = (n, k) := by unfold fk; rw [h]; simp only; rw [hk]
end Pk
end Go.Proofs.Ythggbohoedfkpaa
