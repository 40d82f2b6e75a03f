/- Letters: what is read, field by field. -/
import Derived.Test.YthggbohoedfkpaaLth
namespace Go.Proofs.Ythggbohoedfkpaa
open Go.RowKit
set_option linter.unusedVariables false
set_option linter.unusedSimpArgs false
set_option maxRecDepth 100000
namespace Pk
theorem rd_ext2 : ∀ (f k n : Nat) (s : ByteArray) (m : Int) (t : ByteArray), rd f k n s = (m, t, false) → 0 ≤ m → ∃ j, 0 < j ∧ j ≤ s.size ∧ t = s.extract j s.size
  | 0, k, n, s, m, t, h, hm => by
    simp [rd] at h
    omega
  | f + 1, k, n, s, m, t, h, hm => by
    by_cases h0 : s.size = 0
    · rw [rd_end h0] at h
      simp at h
    · by_cases h1 : k = 0 ∧ b0 s = 128
      · obtain ⟨rfl, h1⟩ := h1
        rw [rd_no h0 h1] at h
        simp at h
        omega
      · by_cases h2 : b0 s < 128
        · rw [rd_got h0 h2] at h
          simp only [Prod.mk.injEq] at h
          exact ⟨1, by omega, by omega, h.2.1.symm⟩
        · rw [rd_more h0 h1 h2] at h
          obtain ⟨j, j0, j1, rfl⟩ := rd_ext2 f _ _ _ m t h hm
          rw [ByteArray.size_extract] at j1
          refine ⟨j + 1, by omega, by omega, ?_⟩
          refine bytes_inj ?_
          rw [bytes_extract, bytes_extract, bytes_extract, ByteArray.size_extract]
          rw [List.take_of_length_le (by rw [List.length_drop, List.length_take, List.length_drop, bytes_len]; omega), List.take_of_length_le (l := (bytes s).drop 1) (by rw [List.length_drop, bytes_len]; omega), List.take_of_length_le (by rw [List.length_drop, bytes_len]; omega), List.drop_drop, Nat.add_comm]
theorem far_all : ∀ (f k n : Nat) (s : ByteArray) (m : Int) (t : ByteArray), f = 9 - k → k ≤ 9 → k ≤ s.size → far s k n → ¬ (0 < k ∧ b0 s = 128) → rd f k n (s.extract k s.size) = (m, t, false) → 0 ≤ m → bytes s = numB m.toNat ++ bytes t
  | 0, k, n, s, m, t, hf, h9, hk, hfar, hne, h, hm => by
    simp [rd] at h
    omega
  | f + 1, k, n, s, m, t, hf, h9, hk, hfar, hne, h, hm => by
    by_cases h0 : k = s.size
    · rw [rd_end (by rw [ByteArray.size_extract]; omega)] at h
      simp at h
    · have hk2 : k < s.size := by omega
      have e0 := b0_ext hk2
      have hz : ¬ (s.extract k s.size).size = 0 := by rw [ByteArray.size_extract]; omega
      by_cases h1 : k = 0 ∧ b0 (s.extract k s.size) = 128
      · obtain ⟨rfl, h1⟩ := h1
        rw [rd_no hz h1] at h
        simp at h
        omega
      · by_cases h2 : b0 (s.extract k s.size) < 128
        · obtain ⟨g1, g2⟩ := far_got hfar hk2 (by omega) (by rw [← e0]; exact h2) hne
          rw [rd_got hz h2] at h
          simp only [Prod.mk.injEq] at h
          obtain ⟨h3, h4, _⟩ := h
          rw [ext_ext] at h4
          subst h4
          rw [e0] at h3
          rw [← h3, show ((n * 128 + (s[k]'hk2).toNat % 128 : Nat) : Int).toNat = n * 128 + (s[k]'hk2).toNat % 128 from Int.toNat_natCast _]
          have g3 := congrArg bytes g2
          rw [bytes_txt (numB_lt _), bytes_extract, List.drop_zero, Nat.sub_zero] at g3
          rw [g3, bytes_extract]
          rw [List.take_of_length_le (l := List.drop (k + 1) (bytes s)) (by rw [List.length_drop, bytes_len]; omega), List.take_append_drop]
        · rw [rd_more hz h1 h2, ext_ext] at h
          refine far_all f (k + 1) _ s m t (by omega) (by omega) (by omega) (far_more hfar hk2 (by omega) (by rw [← e0]; exact h2)) ?_ (by rw [e0] at h; exact h) hm
          rintro ⟨_, h3⟩
          by_cases hk0 : k = 0
          · subst hk0
            exact h1 ⟨rfl, by rw [e0, ← h3]; exact (b0_at (by omega)).symm⟩
          · exact hne ⟨by omega, h3⟩
/-- What a number is read from. -/
theorem gn_bytes {s t : ByteArray} {n : Nat} (h : gn s = some (n, t)) : bytes s = numB n ++ bytes t := by
  obtain ⟨hr, hn⟩ := gn_is h
  have := far_all 9 0 0 s n t rfl (by decide) (by omega) (.inl ⟨rfl, rfl⟩) (by omega) (by rw [ext_all]; exact hr) (by omega)
  simpa using this
theorem gn_lay {n : Nat} (hn : n ≤ 4611686018427387904) (t : ByteArray) {s : ByteArray} (h : bytes s = numB n ++ bytes t) : gn s = some (n, t) := by
  have e : s = txt (numB n ++ bytes t) := by rw [← h]; exact (txt_bytes s).symm
  have := gn_some (rd_num n hn (bytes t) (bytes_lt t)) hn
  rw [txt_bytes, ← e] at this
  exact this
theorem gn_size {s t : ByteArray} {n : Nat} (h : gn s = some (n, t)) : t.size < s.size ∧ t = s.extract (s.size - t.size) s.size := by
  obtain ⟨hr, hn⟩ := gn_is h
  obtain ⟨j, j0, j1, e⟩ := rd_ext2 _ _ _ _ _ _ hr (by omega)
  have hs : t.size = s.size - j := by rw [e, ByteArray.size_extract]; omega
  refine ⟨by omega, ?_⟩
  rw [hs, show s.size - (s.size - j) = j by omega]
  exact e
end Pk
namespace Lt
open Pk
/-- A number read up to a limit, of what is left (none: it has failed). -/
def oN (lim : Int) : Option ByteArray → Int × Option ByteArray
  | none => (0, none)
  | some s => match gn s with
    | some (n, t) => if (n : Int) ≤ lim then ((n : Int), some t) else (0, none)
    | none => (0, none)
/-- A text read up to a limit. -/
def oT (lim : Int) : Option ByteArray → ByteArray × Option ByteArray
  | none => (⟨#[]⟩, none)
  | some s => match gn s with
    | some (n, t) => if (n : Int) ≤ lim ∧ n ≤ t.size then (t.extract 0 n, some (t.extract n t.size)) else (⟨#[]⟩, none)
    | none => (⟨#[]⟩, none)
/-- The opener's state. -/
structure OO (w : World) (ob : Nat) (o : Option ByteArray) : Prop where
  op : Pk.Op w ob (o.getD ⟨#[]⟩) (o.isNone)
  small : ∀ s, o = some s → s.size ≤ 10000
section
variable {w w1 : World} {ob : Nat} {o : Option ByteArray} {S : Nat → Prop}
theorem OO.frm (h : OO w ob o) (hf : Frm S w w1) (hs : ¬ S ob) : OO w1 ob o := ⟨h.op.frm hf hs, h.small⟩
theorem onum_any (lim : Int) (h : OO w ob o) (h2 : lim ≤ 4611686018427387904) {x : Int} {o' : Option ByteArray} (he : oN lim o = (x, o')) :
    Calls Try.prog 46 #[.pointer (some ⟨ob, 0, none⟩), .int .i64 lim] w fun e w' => e = .returned (.int .i64 x) ∧ OO w' ob o' ∧ Frm (fun k => k = ob) w w' := by
  cases o with
  | none =>
    simp only [oN, Prod.mk.injEq] at he
    obtain ⟨rfl, rfl⟩ := he
    refine (onum_no lim (-1) (number_bad ob _ w h.op) (.inl rfl)).mono ?_
    rintro e w' ⟨rfl, h1, h2⟩
    exact ⟨rfl, ⟨h1, fun s h => by cases h⟩, h2⟩
  | some s =>
    have hs := h.small s rfl
    cases hg : gn s with
    | none =>
      simp only [oN, hg, Prod.mk.injEq] at he
      obtain ⟨rfl, rfl⟩ := he
      obtain ⟨n, t, b, hr, hc⟩ := gn_not hg
      refine (onum_no lim n (number_to h.op (by show s.size ≤ _; omega) hr) (by rcases hc with h | h | h <;> simp [h])).mono ?_
      rintro e w' ⟨rfl, h1, h2⟩
      exact ⟨rfl, ⟨h1, fun s h => by cases h⟩, h2⟩
    | some p =>
      obtain ⟨n, t⟩ := p
      obtain ⟨hr, hn⟩ := gn_is hg
      by_cases hl : (n : Int) ≤ lim
      · simp only [oN, hg, if_pos hl, Prod.mk.injEq] at he
        obtain ⟨rfl, rfl⟩ := he
        have hz := gn_size hg
        refine (onum_ok lim h.op (by show s.size ≤ _; omega) hr hn hl).mono ?_
        rintro e w' ⟨rfl, h1, h2⟩
        exact ⟨rfl, ⟨h1, fun s h => by cases h; omega⟩, h2⟩
      · simp only [oN, hg, if_neg hl, Prod.mk.injEq] at he
        obtain ⟨rfl, rfl⟩ := he
        refine (onum_no lim n (number_to h.op (by show s.size ≤ _; omega) hr) (.inr (.inr (.inr (by omega))))).mono ?_
        rintro e w' ⟨rfl, h1, h2⟩
        exact ⟨rfl, ⟨h1, fun s h => by cases h⟩, h2⟩
theorem otext_any (lim : Int) (h : OO w ob o) (h2 : lim ≤ 4611686018427387904) {x : ByteArray} {o' : Option ByteArray} (he : oT lim o = (x, o')) :
    Calls Try.prog 73 #[.pointer (some ⟨ob, 0, none⟩), .int .i64 lim] w fun e w' => e = .returned (.string x) ∧ OO w' ob o' ∧ Frm (fun k => k = ob) w w' := by
  cases o with
  | none =>
    simp only [oT, Prod.mk.injEq] at he
    obtain ⟨rfl, rfl⟩ := he
    refine (otext_no lim (onum_no lim (-1) (number_bad ob _ w h.op) (.inl rfl))).mono ?_
    rintro e w' ⟨rfl, h1, h2⟩
    exact ⟨rfl, ⟨h1, fun s h => by cases h⟩, h2⟩
  | some s =>
    have hs := h.small s rfl
    cases hg : gn s with
    | none =>
      simp only [oT, hg, Prod.mk.injEq] at he
      obtain ⟨rfl, rfl⟩ := he
      obtain ⟨n, t, b, hr, hc⟩ := gn_not hg
      refine (otext_no lim (onum_no lim n (number_to h.op (by show s.size ≤ _; omega) hr) (by rcases hc with h | h | h <;> simp [h]))).mono ?_
      rintro e w' ⟨rfl, h1, h2⟩
      exact ⟨rfl, ⟨h1, fun s h => by cases h⟩, h2⟩
    | some p =>
      obtain ⟨n, t⟩ := p
      obtain ⟨hr, hn⟩ := gn_is hg
      have hz := gn_size hg
      by_cases hl : (n : Int) ≤ lim
      · by_cases hm : n ≤ t.size
        · simp only [oT, hg, if_pos (And.intro hl hm), Prod.mk.injEq] at he
          obtain ⟨rfl, rfl⟩ := he
          refine (otext_ok lim h.op (by show s.size ≤ _; omega) hr hn hl hm (by omega)).mono ?_
          rintro e w' ⟨rfl, h1, h2⟩
          exact ⟨rfl, ⟨h1, fun s h => by cases h; rw [ByteArray.size_extract]; omega⟩, h2⟩
        · simp only [oT, hg, if_neg (show ¬ ((n : Int) ≤ lim ∧ n ≤ t.size) from fun h => hm h.2), Prod.mk.injEq] at he
          obtain ⟨rfl, rfl⟩ := he
          refine (otext_short lim h.op (by show s.size ≤ _; omega) hr hn hl (by omega)).mono ?_
          rintro e w' ⟨rfl, h1, h2⟩
          exact ⟨rfl, ⟨h1, fun s h => by cases h⟩, h2⟩
      · simp only [oT, hg, if_neg (show ¬ ((n : Int) ≤ lim ∧ n ≤ t.size) from fun h => hl h.1), Prod.mk.injEq] at he
        obtain ⟨rfl, rfl⟩ := he
        refine (otext_no lim (onum_no lim n (number_to h.op (by show s.size ≤ _; omega) hr) (.inr (.inr (.inr (by omega)))))).mono ?_
        rintro e w' ⟨rfl, h1, h2⟩
        exact ⟨rfl, ⟨h1, fun s h => by cases h⟩, h2⟩
end
/-! Fields of a list. -/
inductive Fl where
  | n (most : Int)
  | t (most : Int)
inductive V where
  | i (x : Int)
  | s (x : ByteArray)
def V.val : V → Value
  | .i x => .int .i64 x
  | .s x => .string x
def V.enc : V → List Nat
  | .i x => nl x
  | .s x => tx x
def Fl.fit : Fl → V → Bool
  | .n m, .i x => nf x m
  | .t m, .s x => tf x m
  | _, _ => false
def Fl.most : Fl → Int
  | .n m => m
  | .t m => m
def Fl.dec : Fl → Option ByteArray → V × Option ByteArray
  | .n m, o => (.i (oN m o).1, (oN m o).2)
  | .t m, o => (.s (oT m o).1, (oT m o).2)
def decs : List Fl → Option ByteArray → List V × Option ByteArray
  | [], o => ([], o)
  | f :: r, o => ((f.dec o).1 :: (decs r (f.dec o).2).1, (decs r (f.dec o).2).2)
def fits : List Fl → List V → Bool
  | [], [] => true
  | f :: r, v :: l => f.fit v && fits r l
  | _, _ => false
def encs (l : List V) : List Nat := l.flatMap V.enc
theorem dec_none (f : Fl) : (f.dec none).2 = none := by cases f <;> rfl
theorem decs_none : ∀ fs, (decs fs none).2 = none
  | [] => rfl
  | f :: r => by simp only [decs]; rw [dec_none]; exact decs_none r
theorem V.enc_lt (v : V) : ∀ b ∈ v.enc, b < 256 := by
  cases v with
  | i x => exact numB_lt _
  | s x =>
    intro b hb
    rcases List.mem_append.1 hb with h | h
    · exact numB_lt _ b h
    · exact bytes_lt x b h
theorem encs_lt (l : List V) : ∀ b ∈ encs l, b < 256 := by
  intro b hb
  obtain ⟨v, _, h⟩ := List.mem_flatMap.1 hb
  exact v.enc_lt b h
theorem dec_lay {f : Fl} {v : V} (h : f.fit v = true) (hm : f.most ≤ 4611686018427387904) (s t : ByteArray) (he : bytes s = v.enc ++ bytes t) : f.dec (some s) = (v, some t) := by
  cases f with
  | n m =>
    cases v with
    | s x => cases h
    | i x =>
      simp only [Fl.fit, nf, Bool.and_eq_true, decide_eq_true_eq] at h
      simp only [Fl.most] at hm
      have hg := gn_lay (n := x.toNat) (by omega) t he
      have e : ((x.toNat : Nat) : Int) = x := by omega
      simp only [Fl.dec, oN, hg, e, if_pos h.2]
  | t m =>
    cases v with
    | i x => cases h
    | s x =>
      simp only [Fl.fit, tf, decide_eq_true_eq] at h
      simp only [Fl.most] at hm
      have hg := gn_lay (n := x.size) (by omega) (x ++ t) (s := s) (by rw [he, bytes_append]; simp [V.enc, tx])
      have hz : x.size ≤ (x ++ t).size := by rw [ByteArray.size_append]; omega
      have e1 : (x ++ t).extract 0 x.size = x := by
        refine bytes_inj ?_
        rw [bytes_extract, bytes_append, List.drop_zero, Nat.sub_zero, ← bytes_len x, List.take_left]
      have e2 : (x ++ t).extract x.size (x ++ t).size = t := by
        refine bytes_inj ?_
        rw [bytes_extract, bytes_append, ← bytes_len x, List.drop_left, List.take_of_length_le]
        rw [bytes_len, bytes_len, ByteArray.size_append]; omega
      simp only [Fl.dec, oT, hg, if_pos (And.intro h hz), e1, e2]
theorem dec_is {f : Fl} {v : V} {s t : ByteArray} (h : f.dec (some s) = (v, some t)) : f.fit v = true ∧ bytes s = v.enc ++ bytes t := by
  cases f with
  | n m =>
    simp only [Fl.dec] at h
    cases hg : gn s with
    | none => simp [oN, hg] at h
    | some p =>
      obtain ⟨n, u⟩ := p
      by_cases hl : (n : Int) ≤ m
      · simp [oN, hg, hl] at h
        obtain ⟨rfl, rfl⟩ := h
        refine ⟨by simp [Fl.fit, nf, hl], ?_⟩
        rw [gn_bytes hg]; simp [V.enc, nl]
      · simp [oN, hg, hl] at h
  | t m =>
    simp only [Fl.dec] at h
    cases hg : gn s with
    | none => simp [oT, hg] at h
    | some p =>
      obtain ⟨n, u⟩ := p
      by_cases hl : (n : Int) ≤ m ∧ n ≤ u.size
      · simp [oT, hg, hl] at h
        obtain ⟨rfl, rfl⟩ := h
        have hz : (u.extract 0 n).size = n := by rw [ByteArray.size_extract]; omega
        refine ⟨by simp only [Fl.fit, tf, hz, decide_eq_true_eq]; exact hl.1, ?_⟩
        rw [gn_bytes hg]
        show _ = (numB (u.extract 0 n).size ++ bytes (u.extract 0 n)) ++ _
        rw [hz, List.append_assoc, bytes_extract, bytes_extract, List.drop_zero, Nat.sub_zero, List.take_of_length_le (l := List.drop n (bytes u)) (by rw [List.length_drop, bytes_len]; omega), List.take_append_drop]
      · simp [oT, hg, hl] at h
theorem decs_lay : ∀ (fs : List Fl) (vs : List V) (s t : ByteArray), fits fs vs = true → (∀ f ∈ fs, f.most ≤ 4611686018427387904) → bytes s = encs vs ++ bytes t → decs fs (some s) = (vs, some t)
  | [], [], s, t, _, _, h => by
    have : s = t := bytes_inj (by simpa [encs] using h)
    rw [this]; rfl
  | [], _ :: _, s, t, h, _, _ => by cases h
  | _ :: _, [], s, t, h, _, _ => by cases h
  | f :: fs, v :: vs, s, t, h, hm, he => by
    simp only [fits, Bool.and_eq_true] at h
    have e : encs (v :: vs) = v.enc ++ encs vs := rfl
    rw [e, List.append_assoc] at he
    have hu : bytes (txt (encs vs ++ bytes t)) = encs vs ++ bytes t := bytes_txt (fun x hx => by
      rcases List.mem_append.1 hx with h | h
      · exact encs_lt vs x h
      · exact bytes_lt t x h)
    have h1 := dec_lay h.1 (hm f (List.mem_cons_self ..)) s (txt (encs vs ++ bytes t)) (by rw [hu]; exact he)
    have h2 := decs_lay fs vs (txt (encs vs ++ bytes t)) t h.2 (fun g hg => hm g (List.mem_cons_of_mem _ hg)) hu
    simp only [decs, h1, h2]
theorem decs_is : ∀ (fs : List Fl) (vs : List V) (s t : ByteArray), decs fs (some s) = (vs, some t) → fits fs vs = true ∧ bytes s = encs vs ++ bytes t
  | [], vs, s, t, h => by
    simp only [decs, Prod.mk.injEq, Option.some.injEq] at h
    obtain ⟨rfl, rfl⟩ := h
    exact ⟨rfl, by simp [encs]⟩
  | f :: fs, vs, s, t, h => by
    simp only [decs, Prod.mk.injEq] at h
    obtain ⟨rfl, h⟩ := h
    rcases hd : f.dec (some s) with ⟨v, o⟩
    rw [hd] at h
    cases o with
    | none => simp only at h; rw [decs_none] at h; cases h
    | some u =>
      obtain ⟨h1, h2⟩ := dec_is hd
      obtain ⟨h3, h4⟩ := decs_is fs (decs fs (some u)).1 u t (by rw [← h])
      simp only [fits, Bool.and_eq_true]
      refine ⟨⟨h1, h3⟩, ?_⟩
      show bytes s = (v.enc ++ encs _) ++ _
      rw [h2, h4, List.append_assoc]
end Lt
end Go.Proofs.Ythggbohoedfkpaa
