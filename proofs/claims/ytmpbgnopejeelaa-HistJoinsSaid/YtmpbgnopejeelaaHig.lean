/- Histograms: numbers in order; what the reference's Sorted and Place answer. -/
import Derived.Test.YtmpbgnopejeelaaHif
namespace Go.Proofs.Ytmpbgnopejeelaa
open Go.RowKit
set_option linter.unusedVariables false
set_option linter.unusedSimpArgs false

namespace Hs
/-- Where a number comes among others: behind all that are first and not above it. -/
def pos (n : Int) (ys : List Int) : Nat := (ys.takeWhile (fun y => decide (y ≤ n))).length
def ins (n : Int) (ys : List Int) : List Int := ys.take (pos n ys) ++ [n] ++ ys.drop (pos n ys)
def srt (l : List Int) : List Int := l.foldl (fun ys a => ins (tm a) ys) []
theorem pos_le (n : Int) (ys : List Int) : pos n ys ≤ ys.length := (List.takeWhile_sublist _).length_le
theorem pos_cons (n y : Int) (ys : List Int) : pos n (y :: ys) = if y ≤ n then pos n ys + 1 else 0 := by
  unfold pos
  rw [List.takeWhile_cons]
  by_cases h : y ≤ n
  · rw [if_pos h, if_pos (by simpa using h)]; rfl
  · rw [if_neg h, if_neg (by simpa using h)]; rfl
theorem pos_before (n : Int) : ∀ (ys : List Int) (k : Nat) (hk : k < ys.length), k < pos n ys → ys[k] ≤ n
  | [], k, hk, _ => absurd hk (Nat.not_lt_zero _)
  | y :: ys, k, hk, h => by
    rw [pos_cons] at h
    split at h
    · rename_i hy
      cases k with
      | zero => exact hy
      | succ k => exact pos_before n ys k (by simpa using hk) (by omega)
    · omega
theorem pos_at (n : Int) : ∀ (ys : List Int) (hk : pos n ys < ys.length), ¬ ys[pos n ys] ≤ n
  | [], hk => absurd hk (Nat.not_lt_zero _)
  | y :: ys, hk => by
    by_cases hy : y ≤ n
    · have e : pos n (y :: ys) = pos n ys + 1 := by rw [pos_cons, if_pos hy]
      have hk' : pos n ys < ys.length := by rw [e] at hk; simpa using hk
      have := pos_at n ys hk'
      simpa [e] using this
    · have e : pos n (y :: ys) = 0 := by rw [pos_cons, if_neg hy]
      simpa [e] using hy
theorem ins_len (n : Int) (ys : List Int) : (ins n ys).length = ys.length + 1 := by
  have := pos_le n ys
  unfold ins
  simp
  omega
theorem ins_perm (n : Int) (ys : List Int) : (ins n ys).Perm (n :: ys) := by
  unfold ins
  rw [List.append_assoc]
  refine List.perm_middle.trans ?_
  show (n :: (List.take (pos n ys) ys ++ List.drop (pos n ys) ys)).Perm (n :: ys)
  rw [List.take_append_drop]
theorem ins_sorted (n : Int) : ∀ (ys : List Int), ys.Pairwise (· ≤ ·) → (ins n ys).Pairwise (· ≤ ·)
  | [], _ => by simp [ins, pos]
  | y :: ys, h => by
    have hc := List.pairwise_cons.1 h
    by_cases hy : y ≤ n
    · have e : ins n (y :: ys) = y :: ins n ys := by unfold ins; rw [pos_cons, if_pos hy]; simp
      rw [e]
      refine List.pairwise_cons.2 ⟨fun z hz => ?_, ins_sorted n ys hc.2⟩
      rcases List.mem_cons.1 ((ins_perm n ys).mem_iff.1 hz) with rfl | hz
      · exact hy
      · exact hc.1 z hz
    · have e : ins n (y :: ys) = n :: y :: ys := by unfold ins; rw [pos_cons, if_neg hy]; simp
      rw [e]
      refine List.pairwise_cons.2 ⟨fun z hz => ?_, h⟩
      rcases List.mem_cons.1 hz with rfl | hz
      · omega
      · have := hc.1 z hz; omega
theorem srt_snoc (l : List Int) (a : Int) : srt (l ++ [a]) = ins (tm a) (srt l) := by simp [srt]
theorem srt_take (l : List Int) (k : Nat) (h : k < l.length) : srt (l.take (k + 1)) = ins (tm l[k]) (srt (l.take k)) := by rw [← List.take_append_getElem h, srt_snoc]
theorem srt_facts (l : List Int) : (srt l).Perm (l.map tm) ∧ (srt l).Pairwise (· ≤ ·) := by
  suffices ∀ (l : List Int) (ys : List Int), ys.Pairwise (· ≤ ·) → (l.foldl (fun ys a => ins (tm a) ys) ys).Perm (l.map tm ++ ys) ∧ (l.foldl (fun ys a => ins (tm a) ys) ys).Pairwise (· ≤ ·) by
    have := this l [] List.Pairwise.nil
    rw [List.append_nil] at this
    exact this
  intro l
  induction l with
  | nil => intro ys h; exact ⟨List.Perm.refl _, h⟩
  | cons a l ih =>
    intro ys h
    obtain ⟨h1, h2⟩ := ih (ins (tm a) ys) (ins_sorted _ _ h)
    refine ⟨h1.trans ?_, h2⟩
    refine ((ins_perm (tm a) ys).append_left (l.map tm)).trans ?_
    exact List.perm_middle
theorem srt_len (l : List Int) : (srt l).length = l.length := by rw [(srt_facts l).1.length_eq, List.length_map]
theorem srt_bd (l : List Int) : ∀ x ∈ srt l, 0 ≤ x ∧ x ≤ 1099511627776 := by
  intro x hx
  obtain ⟨a, _, rfl⟩ := List.mem_map.1 ((srt_facts l).1.mem_iff.1 hx)
  exact tm_bd a
/-- The cells of numbers. -/
def cls (l : List Int) : List Nat := l.map (fun a => cellN a.toNat)
theorem qOf_count (l : List Int) (c : Nat) : qOf l c = (cls (l.map tm)).count c := by
  suffices ∀ (l : List Int) (q : Nat → Nat), l.foldl (fun q a => bump q (cellN (tm a).toNat)) q c = q c + (cls (l.map tm)).count c by
    have := this l (fun _ => 0)
    unfold qOf
    omega
  intro l
  induction l with
  | nil => intro q; simp [cls]
  | cons a l ih =>
    intro q
    rw [List.foldl_cons, ih]
    have e : cls ((a :: l).map tm) = cellN (tm a).toNat :: cls (l.map tm) := rfl
    rw [e, List.count_cons]
    unfold bump
    by_cases h : c = cellN (tm a).toNat
    · rw [if_pos h, if_pos (by simp [h]), h]; omega
    · rw [if_neg h, if_neg (by simpa using fun e => h e.symm)]; omega
theorem qOf_srt (l : List Int) (c : Nat) : qOf l c = (cls (srt l)).count c := by
  rw [qOf_count]
  exact (((srt_facts l).1.map (fun a : Int => cellN a.toNat)).count_eq c).symm
/-- In a list of numbers that rise, all at least c: first those that are c. -/
theorem lead (c : Nat) : ∀ (s : List Nat), s.Pairwise (· ≤ ·) → (∀ x ∈ s, c ≤ x) → ∃ r, s = List.replicate (s.count c) c ++ r ∧ (∀ x ∈ r, c + 1 ≤ x) ∧ r.Pairwise (· ≤ ·) ∧ ∀ k, k ≠ c → r.count k = s.count k
  | [], _, _ => ⟨[], by simp, by simp, List.Pairwise.nil, fun _ _ => rfl⟩
  | x :: s, h, hc => by
    have hp := List.pairwise_cons.1 h
    by_cases e : x = c
    · subst e
      obtain ⟨r, h1, h2, h3, h4⟩ := lead x s hp.2 (fun y hy => hc y (by simp [hy]))
      refine ⟨r, ?_, h2, h3, fun k hk => ?_⟩
      · rw [List.count_cons_self, List.replicate_succ, List.cons_append, ← h1]
      · rw [h4 k hk, List.count_cons_of_ne (fun e => hk e.symm)]
    · have hx := hc x (by simp)
      have h0 : (x :: s).count c = 0 := List.count_eq_zero.2 (fun hm => by
        rcases List.mem_cons.1 hm with e' | hm
        · exact e e'.symm
        · have := hp.1 c hm; omega)
      refine ⟨x :: s, by rw [h0]; rfl, fun y hy => ?_, h, fun _ _ => rfl⟩
      rcases List.mem_cons.1 hy with rfl | hy
      · omega
      · have := hp.1 y hy; omega
theorem plc_at (q : Nat → Nat) : ∀ (f c : Nat) (s : List Nat), s.Pairwise (· ≤ ·) → (∀ x ∈ s, c ≤ x ∧ x < c + f) → (∀ k, c ≤ k → q k = s.count k) → ∀ i (hi : i < s.length), plc q f c i = s[i]
  | 0, c, s, _, h, _, i, hi => by have := h _ (List.getElem_mem hi); omega
  | f + 1, c, s, hs, h, hq, i, hi => by
    obtain ⟨r, h1, h2, h3, h4⟩ := lead c s hs (fun x hx => (h x hx).1)
    have hqc := hq c (Nat.le_refl _)
    have hlen : s.length = s.count c + r.length := by
      have := congrArg List.length h1
      rw [List.length_append, List.length_replicate] at this
      exact this
    have hget : s[i]? = (List.replicate (s.count c) c ++ r)[i]? := congrArg (fun l => l[i]?) h1
    unfold plc
    by_cases hle : q c ≤ i
    · rw [if_pos hle]
      have hr : ∀ x ∈ r, c + 1 ≤ x ∧ x < c + 1 + f := fun x hx => by
        have hm : x ∈ s := by rw [h1]; exact List.mem_append_right _ hx
        have := h x hm
        exact ⟨h2 x hx, by omega⟩
      have hri : i - q c < r.length := by omega
      have := plc_at q f (c + 1) r h3 hr (fun k hk => by rw [h4 k (by omega)]; exact hq k (by omega)) (i - q c) hri
      rw [this]
      rw [List.getElem?_append_right (by rw [List.length_replicate]; omega), List.length_replicate, ← hqc, List.getElem?_eq_getElem hri, List.getElem?_eq_getElem hi] at hget
      exact (Option.some.inj hget).symm
    · rw [if_neg hle]
      have hir : i < (List.replicate (s.count c) c).length := by rw [List.length_replicate]; omega
      rw [List.getElem?_append_left hir, List.getElem?_eq_getElem hir, List.getElem?_eq_getElem hi, List.getElem_replicate] at hget
      exact (Option.some.inj hget).symm
theorem cls_sorted (l : List Int) : (cls (srt l)).Pairwise (· ≤ ·) := by
  unfold cls
  rw [List.pairwise_map]
  refine List.Pairwise.imp_of_mem ?_ (srt_facts l).2
  intro a b ha hb h
  have h1 := srt_bd l a ha
  have h2 := srt_bd l b hb
  exact cell_mono (by omega) (by omega)
/-- The cell of the number at a place is the one that At finds. -/
theorem srt_plc (l : List Int) (i : Nat) (hi : i < (srt l).length) : plc (qOf l) 305 0 i = cellN ((srt l)[i]).toNat := by
  have := plc_at (qOf l) 305 0 (cls (srt l)) (cls_sorted l) (fun x hx => by
    obtain ⟨a, ha, rfl⟩ := List.mem_map.1 hx
    have := srt_bd l a ha
    have := (cell_in (n := a.toNat) (by omega)).1
    omega) (fun k _ => qOf_srt l k) i (by unfold cls; rwa [List.length_map])
  rw [this]
  simp [cls]
end Hs
end Go.Proofs.Ytmpbgnopejeelaa
