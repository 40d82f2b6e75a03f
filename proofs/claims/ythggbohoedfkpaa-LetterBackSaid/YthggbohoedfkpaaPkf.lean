/- Packed numbers: the opener's Num and Text; awake; the order of numbers' bytes. -/
import Derived.Test.YthggbohoedfkpaaPke
namespace Go.Proofs.Ythggbohoedfkpaa
open Go.RowKit
set_option linter.unusedVariables false
set_option linter.unusedSimpArgs false
set_option maxRecDepth 100000
namespace Pk
theorem number_to {ob : Nat} {s t : ByteArray} {n : Int} {b : Bool} {w : World} (h : Op w ob s false) (hs : s.size ≤ 1000000) (hr : rd 9 0 0 s = (n, t, b)) :
    Calls Try.prog 62 #[.pointer (some ⟨ob, 0, none⟩)] w fun e w' => e = .returned (.int .i64 n) ∧ Op w' ob t b ∧ Frm (fun k => k = ob) w w' := by
  have := number_any ob s w h hs
  rwa [hr] at this
theorem onum_ok (lim : Int) {ob : Nat} {s t : ByteArray} {n : Nat} {w : World} (h : Op w ob s false) (hs : s.size ≤ 1000000) (hr : rd 9 0 0 s = ((n : Int), t, false)) (h1 : n ≤ 4611686018427387904) (h2 : (n : Int) ≤ lim) :
    Calls Try.prog 46 #[.pointer (some ⟨ob, 0, none⟩), .int .i64 lim] w fun e w' => e = .returned (.int .i64 n) ∧ Op w' ob t false ∧ Frm (fun k => k = ob) w w' := by
  have HN := Lib.hid (number_to h hs hr)
  have d1 : decide ((n : Int) < 0) = false := decide_eq_false (by omega)
  have d2 : decide ((4611686018427387904 : Int) < (n : Int)) = false := decide_eq_false (by omega)
  have d3 : decide (lim < (n : Int)) = false := decide_eq_false (by omega)
  clear hr h
  go_enter Try.func46, Try.ntmps46
  go_wp2_with fail
  refine HN.out.mono ?_
  rintro e w1 ⟨rfl, hO1, hf1⟩
  go_wp2_with fail
  refine (ook_any ob _ _ _ hO1).mono ?_
  rintro e w' ⟨rfl, rfl⟩
  go_wp2
  go_ret
  exact ⟨rfl, hO1, hf1⟩
theorem otext_ok (lim : Int) {ob : Nat} {s t : ByteArray} {n : Nat} {w : World} (h : Op w ob s false) (hs : s.size ≤ 1000000) (hr : rd 9 0 0 s = ((n : Int), t, false)) (h1 : n ≤ 4611686018427387904) (h2 : (n : Int) ≤ lim) (ht : n ≤ t.size) (ht2 : t.size ≤ 1000000) :
    Calls Try.prog 73 #[.pointer (some ⟨ob, 0, none⟩), .int .i64 lim] w fun e w' => e = .returned (.string (t.extract 0 n)) ∧ Op w' ob (t.extract n t.size) false ∧ Frm (fun k => k = ob) w w' := by
  have HN := Lib.hid (onum_ok lim h hs hr h1 h2)
  have HR := Lib.hid (fun w (h : Op w ob t false) => oraw_ok (n : Int) n ob t w h (if_neg (by omega)) ht (by omega))
  clear hr h
  go_enter Try.func73, Try.ntmps73
  go_wp2_with fail
  refine HN.out.mono ?_
  rintro e w1 ⟨rfl, hO1, hf1⟩
  go_wp2_with fail
  refine (HR.out _ hO1).mono ?_
  rintro e w2 ⟨rfl, hO2, hf2⟩
  go_wp2
  go_ret
  exact ⟨rfl, hO2, hf1.trans hf2⟩

theorem new_packer (w : World) : At (w.alloc (.cells #[.slice none 0 0, .bool false] 83)) w.heap.size (.slice none 0 0) [] false := ⟨Bk.new _ _, World.ownsRow_nil _ _ _ _, by simp⟩

/-! The order of numbers' bytes. -/
def u8l (l : List Nat) : List UInt8 := l.map UInt8.ofNat
theorem lex_snoc : ∀ (l m : List UInt8) (x y : UInt8), l.length = m.length → ((l ++ [x] < m ++ [y]) ↔ (l < m ∨ (l = m ∧ x < y)))
  | [], [], x, y, _ => by simp [List.cons_lt_cons_iff]
  | [], _ :: _, _, _, h => by simp at h
  | _ :: _, [], _, _, h => by simp at h
  | a :: l, b :: m, x, y, h => by
    have ih := lex_snoc l m x y (by simpa using h)
    rw [List.cons_append, List.cons_append, List.cons_lt_cons_iff, List.cons_lt_cons_iff, ih]
    constructor
    · rintro (h | ⟨h, h' | ⟨h', h''⟩⟩)
      · exact .inl (.inl h)
      · exact .inl (.inr ⟨h, h'⟩)
      · exact .inr ⟨by rw [h, h'], h''⟩
    · rintro ((h | ⟨h, h'⟩) | ⟨h, h'⟩)
      · exact .inl h
      · exact .inr ⟨h, .inl h'⟩
      · cases h
        exact .inr ⟨rfl, .inr ⟨rfl, h'⟩⟩
theorem of_lt {a b : Nat} (ha : a < 256) (hb : b < 256) : (UInt8.ofNat a < UInt8.ofNat b) ↔ a < b := by
  rw [UInt8.lt_iff_toNat_lt, UInt8.toNat_ofNat', UInt8.toNat_ofNat']
  omega
theorem of_eq {a b : Nat} (ha : a < 256) (hb : b < 256) : (UInt8.ofNat a = UInt8.ofNat b) ↔ a = b := by
  rw [← UInt8.toNat_inj, UInt8.toNat_ofNat', UInt8.toNat_ofNat']
  omega
theorem pre_order : ∀ (m m' : Nat), (pre m).length = (pre m').length → ((u8l (pre m) < u8l (pre m')) ↔ m < m') ∧ (u8l (pre m) = u8l (pre m') ↔ m = m') := by
  intro m
  induction m using Nat.strongRecOn with
  | _ m ih =>
    intro m' hl
    by_cases h : m = 0
    · subst h
      rw [pre_zero] at hl ⊢
      by_cases h' : m' = 0
      · subst h'; rw [pre_zero]; simp [u8l]
      · rw [pre_pos (by omega)] at hl; simp at hl
    · by_cases h' : m' = 0
      · subst h'; rw [pre_zero, pre_pos (by omega)] at hl; simp at hl
      · rw [pre_pos (by omega), pre_pos (show 0 < m' by omega)] at hl ⊢
        have hl2 : (pre (m / 128)).length = (pre (m' / 128)).length := by simpa using hl
        obtain ⟨i1, i2⟩ := ih (m / 128) (by omega) (m' / 128) hl2
        have e : ∀ (l : List Nat) (x : Nat), u8l (l ++ [x]) = u8l l ++ [UInt8.ofNat x] := fun l x => by simp [u8l]
        rw [e, e]
        constructor
        · rw [lex_snoc _ _ _ _ (by simp [u8l, hl2]), i1, i2, of_lt (by omega) (by omega)]
          omega
        · constructor
          · intro h9
            have := List.append_inj' h9 rfl
            have h3 := i2.1 this.1
            have h4 := (of_eq (by omega) (by omega)).1 (List.cons.inj this.2).1
            omega
          · rintro rfl; rfl
theorem num_order (a b : Nat) (hl : (numB a).length = (numB b).length) : ((u8l (numB a) < u8l (numB b)) ↔ a < b) ∧ (u8l (numB a) = u8l (numB b) ↔ a = b) := by
  have hl2 : (pre (a / 128)).length = (pre (b / 128)).length := by simpa [numB] using hl
  obtain ⟨i1, i2⟩ := pre_order _ _ hl2
  have e : ∀ (l : List Nat) (x : Nat), u8l (l ++ [x]) = u8l l ++ [UInt8.ofNat x] := fun l x => by simp [u8l]
  unfold numB
  rw [e, e]
  constructor
  · rw [lex_snoc _ _ _ _ (by simp [u8l, hl2]), i1, i2, of_lt (by omega) (by omega)]
    omega
  · constructor
    · intro h9
      have := List.append_inj' h9 rfl
      have h3 := i2.1 this.1
      have h4 := (of_eq (by omega) (by omega)).1 (List.cons.inj this.2).1
      omega
    · rintro rfl; rfl
theorem pre_mono : ∀ (m m' : Nat), m ≤ m' → (pre m).length ≤ (pre m').length := by
  intro m
  induction m using Nat.strongRecOn with
  | _ m ih =>
    intro m' h
    by_cases h0 : m = 0
    · subst h0; rw [pre_zero]; exact Nat.zero_le _
    · rw [pre_pos (by omega), pre_pos (show 0 < m' by omega), List.length_append, List.length_append]
      have := ih (m / 128) (by omega) (m' / 128) (by omega)
      simp
      omega
theorem num_mono {a b : Nat} (h : a ≤ b) : (numB a).length ≤ (numB b).length := by
  have := pre_mono (a / 128) (b / 128) (by omega)
  simp [numB]
  omega
theorem num_len {n : Nat} (h : n ≤ 4611686018427387904) : 1 ≤ (numB n).length ∧ (numB n).length ≤ 9 := by
  have := pre_len 8 (n / 128) (by omega)
  simp [numB]
  omega
end Pk
end Go.Proofs.Ythggbohoedfkpaa
