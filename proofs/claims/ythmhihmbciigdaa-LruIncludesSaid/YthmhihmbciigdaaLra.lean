/- A ring of places: plain words and lemmas, no program in sight. -/
import Derived.Test.YthmhihmbciigdaaProg
namespace Go.Proofs.Ythmhihmbciigdaa
set_option linter.unusedVariables false
set_option linter.unusedSimpArgs false
namespace Lr
/-- From x along f: the places of l, then y. -/
def Seg (f : Nat → Nat) : Nat → List Nat → Nat → Prop
  | x, [], y => f x = y
  | x, b :: l, y => f x = b ∧ Seg f b l y
def updn (f : Nat → Nat) (a b : Nat) : Nat → Nat := fun x => if x = a then b else f x
theorem updn_same (f : Nat → Nat) (a b : Nat) : updn f a b a = b := if_pos rfl
theorem updn_ne (f : Nat → Nat) {a x : Nat} (b : Nat) (h : x ≠ a) : updn f a b x = f x := if_neg h
theorem Seg.far {f : Nat → Nat} {a c : Nat} : ∀ {x : Nat} {l : List Nat} {y : Nat}, Seg f x l y → x ≠ a → a ∉ l → Seg (updn f a c) x l y
  | x, [], y, h, hx, _ => by show updn f a c x = y; rw [updn_ne f c hx]; exact h
  | x, b :: l, y, h, hx, hl => by
    simp only [List.mem_cons, not_or] at hl
    exact ⟨by rw [updn_ne f c hx]; exact h.1, h.2.far (Ne.symm hl.1) hl.2⟩
theorem Seg.app {f : Nat → Nat} {a : Nat} : ∀ {x : Nat} {p q : List Nat} {y : Nat}, Seg f x (p ++ a :: q) y ↔ Seg f x p a ∧ Seg f a q y
  | x, [], q, y => Iff.rfl
  | x, b :: p, q, y => by
    show (f x = b ∧ Seg f b (p ++ a :: q) y) ↔ (f x = b ∧ Seg f b p a) ∧ Seg f a q y
    rw [Seg.app (x := b)]
    exact and_assoc.symm
/-- The last place ahead of a segment's end. -/
def lastOf : Nat → List Nat → Nat
  | x, [] => x
  | _, b :: l => lastOf b l
theorem Seg.last {f : Nat → Nat} : ∀ {x : Nat} {l : List Nat} {y : Nat}, Seg f x l y → f (lastOf x l) = y
  | _, [], _, h => h
  | x, b :: l, y, h => by show f (lastOf b l) = y; exact Seg.last h.2
theorem lastOf_mem : ∀ (x : Nat) (l : List Nat), lastOf x l ∈ x :: l
  | x, [] => List.mem_cons_self ..
  | x, b :: l => List.mem_cons_of_mem _ (lastOf_mem b l)
theorem Seg.turn {f : Nat → Nat} {c : Nat} : ∀ {x : Nat} {l : List Nat} {y : Nat}, Seg f x l y → (x :: l).Nodup → Seg (updn f (lastOf x l) c) x l c
  | x, [], y, h, _ => updn_same f x c
  | x, b :: l, y, h, hn => by
    have hne : x ≠ lastOf b l := fun e => (List.nodup_cons.1 hn).1 (e ▸ lastOf_mem b l)
    exact ⟨by show updn f (lastOf b l) c x = b; rw [updn_ne f c hne]; exact h.1, h.2.turn (List.nodup_cons.1 hn).2⟩
theorem Seg.fst {f : Nat → Nat} {x y : Nat} {l : List Nat} (h : Seg f x l y) : f x = (l ++ [y]).head (by simp) := by
  cases l with
  | nil => exact h
  | cons b l => exact h.1
theorem Seg.start {f : Nat → Nat} {x x' y : Nat} {l : List Nat} (h : Seg f x l y) (e : f x' = f x) : Seg f x' l y := by
  cases l with
  | nil => exact e.trans h
  | cons b l => exact ⟨e.trans h.1, h.2⟩
/-- A ring: from r along nx through l and back to r; bk leads back. -/
structure Rg (nx bk : Nat → Nat) (r : Nat) (l : List Nat) : Prop where
  seg : Seg nx r l r
  nd : (r :: l).Nodup
  nb : ∀ x ∈ r :: l, bk (nx x) = x
  bn : ∀ x ∈ r :: l, nx (bk x) = x
  nm : ∀ x ∈ r :: l, nx x ∈ r :: l
  bm : ∀ x ∈ r :: l, bk x ∈ r :: l
theorem mem_erase_mid {p q : List Nat} {a x : Nat} (h : x ∈ p ++ q) : x ∈ p ++ a :: q := by
  rcases List.mem_append.1 h with h | h
  · exact List.mem_append_left _ h
  · exact List.mem_append_right _ (List.mem_cons_of_mem _ h)
/-- A place goes. -/
theorem Rg.out {nx bk : Nat → Nat} {r : Nat} {p q : List Nat} {a : Nat} (h : Rg nx bk r (p ++ a :: q)) : Rg (updn nx (bk a) (nx a)) (updn bk (nx a) (bk a)) r (p ++ q) := by
  have hnd := h.nd
  have hnd2 : (r :: (p ++ q)).Nodup ∧ a ∉ r :: (p ++ q) := by
    rw [List.nodup_cons, List.nodup_append] at hnd
    obtain ⟨h1, h2, h3, h4⟩ := hnd
    rw [List.nodup_cons] at h3
    simp only [List.mem_append, List.mem_cons, not_or] at h1
    refine ⟨?_, ?_⟩
    · rw [List.nodup_cons, List.nodup_append]
      refine ⟨by simp only [List.mem_append, not_or]; exact ⟨h1.1, h1.2.2⟩, h2, h3.2, fun x hx y hy => h4 x hx y (List.mem_cons_of_mem _ hy)⟩
    · simp only [List.mem_cons, List.mem_append, not_or]
      exact ⟨Ne.symm h1.2.1, fun hp => h4 a hp a (List.mem_cons_self ..) rfl, h3.1⟩
  obtain ⟨hnd2, han⟩ := hnd2
  have hsub : ∀ x, x ∈ r :: (p ++ q) → x ∈ r :: (p ++ a :: q) := fun x hx => by
    rcases List.mem_cons.1 hx with e | hx
    · exact e ▸ List.mem_cons_self ..
    · exact List.mem_cons_of_mem _ (mem_erase_mid hx)
  have hback : ∀ x, x ∈ r :: (p ++ a :: q) → x ≠ a → x ∈ r :: (p ++ q) := fun x hx hne => by
    rcases List.mem_cons.1 hx with e | hx
    · exact e ▸ List.mem_cons_self ..
    · rcases List.mem_append.1 hx with hx | hx
      · exact List.mem_cons_of_mem _ (List.mem_append_left _ hx)
      · rcases List.mem_cons.1 hx with e | hx
        · exact absurd e hne
        · exact List.mem_cons_of_mem _ (List.mem_append_right _ hx)
  have ham : a ∈ r :: (p ++ a :: q) := List.mem_cons_of_mem _ (List.mem_append_right _ (List.mem_cons_self ..))
  obtain ⟨s1, s2⟩ := Seg.app.1 h.seg
  have hl := s1.last
  have hlm : lastOf r p ∈ r :: p := lastOf_mem r p
  have hlm2 : lastOf r p ∈ r :: (p ++ a :: q) := by
    rcases List.mem_cons.1 hlm with e | e
    · rw [e]; exact List.mem_cons_self ..
    · exact List.mem_cons_of_mem _ (List.mem_append_left _ e)
  have hbk : bk a = lastOf r p := by rw [← hl]; exact h.nb _ hlm2
  have hbna : bk a ≠ a := by
    rw [hbk]
    intro e
    rw [e] at hlm
    exact han (List.mem_cons.2 ((List.mem_cons.1 hlm).imp id (fun h => List.mem_append_left _ h)))
  have hnna : nx a ≠ a := fun e => hbna (by have := h.nb a ham; rwa [e] at this)
  have hnp : (r :: p).Nodup := by
    rw [List.nodup_cons, List.nodup_append] at hnd2
    exact List.nodup_cons.2 ⟨fun hp => hnd2.1 (List.mem_append_left _ hp), hnd2.2.1⟩
  have hseg : Seg (updn nx (bk a) (nx a)) r (p ++ q) r := by
    have t1 := s1.turn (c := nx a) hnp
    rw [← hbk] at t1
    cases q with
    | nil =>
      rw [List.append_nil]
      have : nx a = r := s2
      rw [this] at t1 ⊢
      exact t1
    | cons b q =>
      have e : nx a = b := s2.1
      rw [e] at t1 ⊢
      refine Seg.app.2 ⟨t1, s2.2.far (fun e2 => ?_) (fun hm => ?_)⟩
      · rw [hbk] at e2
        rw [List.nodup_cons, List.nodup_append] at hnd2
        rcases List.mem_cons.1 hlm with e3 | e3
        · exact hnd2.1 (List.mem_append_right _ (by rw [← e3, ← e2]; exact List.mem_cons_self ..))
        · exact hnd2.2.2.2 _ e3 b (List.mem_cons_self ..) e2.symm
      · rw [hbk] at hm
        rw [List.nodup_cons, List.nodup_append] at hnd2
        rcases List.mem_cons.1 hlm with e3 | e3
        · exact hnd2.1 (List.mem_append_right _ (by rw [← e3]; exact List.mem_cons_of_mem _ hm))
        · exact hnd2.2.2.2 _ e3 _ (List.mem_cons_of_mem _ hm) rfl
  refine ⟨hseg, hnd2, fun x hx => ?_, fun x hx => ?_, fun x hx => ?_, fun x hx => ?_⟩
  · have hx' := hsub x hx
    have hxa : x ≠ a := fun e => han (e ▸ hx)
    by_cases e : x = bk a
    · subst e
      rw [updn_same, updn_same]
    · rw [updn_ne _ _ e, updn_ne]
      · exact h.nb x hx'
      · intro e2
        have := h.nb x hx'
        rw [e2, h.nb a ham] at this
        exact hxa this.symm
  · have hx' := hsub x hx
    have hxa : x ≠ a := fun e => han (e ▸ hx)
    by_cases e : x = nx a
    · subst e
      rw [updn_same, updn_same]
    · rw [updn_ne _ _ e, updn_ne]
      · exact h.bn x hx'
      · intro e2
        have := h.bn x hx'
        rw [e2, h.bn a ham] at this
        exact hxa this.symm
  · have hx' := hsub x hx
    have hxa : x ≠ a := fun e => han (e ▸ hx)
    by_cases e : x = bk a
    · subst e
      rw [updn_same]
      exact hback _ (h.nm a ham) hnna
    · rw [updn_ne _ _ e]
      refine hback _ (h.nm x hx') (fun e2 => e ?_)
      rw [← e2]; exact (h.nb x hx').symm
  · have hx' := hsub x hx
    have hxa : x ≠ a := fun e => han (e ▸ hx)
    by_cases e : x = nx a
    · subst e
      rw [updn_same]
      exact hback _ (h.bm a ham) hbna
    · rw [updn_ne _ _ e]
      refine hback _ (h.bm x hx') (fun e2 => e ?_)
      rw [← e2]; exact (h.bn x hx').symm
/-- A place comes in front. -/
theorem Rg.front {nx bk : Nat → Nat} {r : Nat} {l : List Nat} {a : Nat} (h : Rg nx bk r l) (ha : a ∉ r :: l) : Rg (updn (updn nx a (nx r)) r a) (updn (updn bk a r) (nx r) a) r (a :: l) := by
  have hrm : r ∈ r :: l := List.mem_cons_self ..
  have har : a ≠ r := fun e => ha (e ▸ hrm)
  have hnr := h.nm r hrm
  have hna : nx r ≠ a := fun e => ha (e ▸ hnr)
  have hnd := h.nd
  have hn1 : updn (updn nx a (nx r)) r a r = a := updn_same ..
  have hn2 : updn (updn nx a (nx r)) r a a = nx r := by rw [updn_ne _ _ har, updn_same]
  have hn3 : ∀ x ∈ l, updn (updn nx a (nx r)) r a x = nx x := fun x hx => by
    have h1 : x ≠ r := fun e => (List.nodup_cons.1 hnd).1 (e ▸ hx)
    have h2 : x ≠ a := fun e => ha (List.mem_cons_of_mem _ (e ▸ hx))
    rw [updn_ne _ _ h1, updn_ne _ _ h2]
  have hb1 : updn (updn bk a r) (nx r) a (nx r) = a := updn_same ..
  have hb2 : updn (updn bk a r) (nx r) a a = r := by rw [updn_ne _ _ (Ne.symm hna), updn_same]
  have hb3 : ∀ x ∈ r :: l, x ≠ nx r → updn (updn bk a r) (nx r) a x = bk x := fun x hx hne => by
    have h2 : x ≠ a := fun e => ha (e ▸ hx)
    rw [updn_ne _ _ hne, updn_ne _ _ h2]
  have hmem : ∀ x, x ∈ r :: l → x ∈ r :: a :: l := fun x hx => by
    rcases List.mem_cons.1 hx with e | e
    · exact e ▸ List.mem_cons_self ..
    · exact List.mem_cons_of_mem _ (List.mem_cons_of_mem _ e)
  have ham : a ∈ r :: a :: l := List.mem_cons_of_mem _ (List.mem_cons_self ..)
  refine ⟨⟨hn1, ?_⟩, ?_, fun x hx => ?_, fun x hx => ?_, fun x hx => ?_, fun x hx => ?_⟩
  · have hs := h.seg
    cases l with
    | nil => show updn _ _ _ a = r; rw [hn2]; exact hs
    | cons b l =>
      refine ⟨by rw [hn2]; exact hs.1, ?_⟩
      have hb : b ∈ b :: l := List.mem_cons_self ..
      refine (hs.2.far (a := a) (fun e => ha (List.mem_cons_of_mem _ (e ▸ hb))) (fun e => ha (List.mem_cons_of_mem _ (List.mem_cons_of_mem _ e)))).far (fun e => (List.nodup_cons.1 hnd).1 (e ▸ hb)) (fun e => (List.nodup_cons.1 hnd).1 (List.mem_cons_of_mem _ e))
  · rw [List.nodup_cons] at hnd ⊢
    refine ⟨fun e => ?_, List.nodup_cons.2 ⟨fun e => ha (List.mem_cons_of_mem _ e), hnd.2⟩⟩
    rcases List.mem_cons.1 e with e | e
    · exact har e.symm
    · exact hnd.1 e
  · rcases List.mem_cons.1 hx with e | hx
    · rw [e, hn1, hb2]
    · rcases List.mem_cons.1 hx with e | hx
      · rw [e, hn2, hb1]
      · rw [hn3 x hx, hb3 _ (h.nm x (List.mem_cons_of_mem _ hx)), h.nb x (List.mem_cons_of_mem _ hx)]
        intro e
        have h1 := h.nb x (List.mem_cons_of_mem _ hx)
        rw [e, h.nb r hrm] at h1
        exact (List.nodup_cons.1 hnd).1 (h1 ▸ hx)
  · by_cases e : x = nx r
    · rw [e, hb1, hn2]
    · rcases List.mem_cons.1 hx with e2 | hx
      · subst e2
        rw [hb3 x hrm e]
        have hm := h.bm x hrm
        rcases List.mem_cons.1 hm with e3 | e3
        · exact absurd (by have := h.bn x hrm; rw [e3] at this; exact this.symm) e
        · rw [hn3 _ e3]; exact h.bn x hrm
      · rcases List.mem_cons.1 hx with e2 | hx
        · rw [e2, hb2, hn1]
        · have hx' := List.mem_cons_of_mem r hx
          rw [hb3 x hx' e]
          have hm := h.bm x hx'
          rcases List.mem_cons.1 hm with e3 | e3
          · exact absurd (by have := h.bn x hx'; rw [e3] at this; exact this.symm) e
          · rw [hn3 _ e3]; exact h.bn x hx'
  · rcases List.mem_cons.1 hx with e | hx
    · rw [e, hn1]; exact ham
    · rcases List.mem_cons.1 hx with e | hx
      · rw [e, hn2]; exact hmem _ hnr
      · rw [hn3 x hx]; exact hmem _ (h.nm x (List.mem_cons_of_mem _ hx))
  · by_cases e : x = nx r
    · rw [e, hb1]; exact ham
    · rcases List.mem_cons.1 hx with e2 | hx
      · subst e2
        rw [hb3 x hrm e]; exact hmem _ (h.bm x hrm)
      · rcases List.mem_cons.1 hx with e2 | hx
        · rw [e2, hb2]; exact List.mem_cons_self ..
        · have hx' := List.mem_cons_of_mem r hx
          rw [hb3 x hx' e]; exact hmem _ (h.bm x hx')
theorem Rg.empty {r : Nat} : Rg (fun _ => r) (fun _ => r) r [] := by
  refine ⟨rfl, by simp, ?_, ?_, ?_, ?_⟩ <;> intro x hx <;> simp at hx <;> simp [hx]
end Lr
end Go.Proofs.Ythmhihmbciigdaa
