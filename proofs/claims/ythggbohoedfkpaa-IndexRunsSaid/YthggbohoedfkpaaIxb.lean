/- Entries in order: plain. -/
import Derived.Test.YthggbohoedfkpaaIxa
namespace Go.Proofs.Ythggbohoedfkpaa
set_option linter.unusedVariables false
set_option linter.unusedSimpArgs false
namespace Ix
abbrev Nam := Int × List UInt8
def ahead (a b : Nam) : Bool := decide (a.1 < b.1) || (decide (a.1 = b.1) && decide (a.2 < b.2))
theorem ahead_iff (a b : Nam) : ahead a b = true ↔ a.1 < b.1 ∨ (a.1 = b.1 ∧ a.2 < b.2) := by
  unfold ahead; simp
theorem ll_irrefl (a : List UInt8) : ¬ a < a := List.lt_irrefl a
theorem ll_trans {a b c : List UInt8} (h : a < b) (k : b < c) : a < c := List.lt_trans h k
theorem ll_tri (a b : List UInt8) : a < b ∨ a = b ∨ b < a := by
  by_cases h1 : a < b
  · exact .inl h1
  · by_cases h2 : b < a
    · exact .inr (.inr h2)
    · exact .inr (.inl (List.le_antisymm (List.not_lt.1 h2) (List.not_lt.1 h1)))
theorem ah_irrefl (a : Nam) : ahead a a = false := by
  cases h : ahead a a
  · rfl
  · rcases (ahead_iff a a).1 h with h | ⟨_, h⟩
    · omega
    · exact absurd h (ll_irrefl _)
theorem ah_trans {a b c : Nam} (h : ahead a b = true) (k : ahead b c = true) : ahead a c = true := by
  rw [ahead_iff] at h k ⊢
  rcases h with h | ⟨h, h2⟩ <;> rcases k with k | ⟨k, k2⟩
  · left; omega
  · left; omega
  · left; omega
  · right; exact ⟨by omega, ll_trans h2 k2⟩
theorem ah_tri (a b : Nam) : ahead a b = true ∨ a = b ∨ ahead b a = true := by
  rw [ahead_iff, ahead_iff]
  rcases Int.lt_trichotomy a.1 b.1 with h | h | h
  · exact .inl (.inl h)
  · rcases ll_tri a.2 b.2 with k | k | k
    · exact .inl (.inr ⟨h, k⟩)
    · exact .inr (.inl (Prod.ext h k))
    · exact .inr (.inr (.inr ⟨h.symm, k⟩))
  · exact .inr (.inr (.inl h))
theorem ah_asymm {a b : Nam} (h : ahead a b = true) : ahead b a = false := by
  cases k : ahead b a
  · rfl
  · have := ah_trans h k
    rw [ah_irrefl] at this; cases this
theorem not_ahead {a b : Nam} (h : ahead a b = false) : a = b ∨ ahead b a = true := by
  rcases ah_tri a b with k | k | k
  · rw [h] at k; cases k
  · exact .inl k
  · exact .inr k
section
variable {α : Type} (nm : α → Nam)
def place : List α → Nam → Nat
  | [], _ => 0
  | a :: r, n => if ahead (nm a) n = true then place r n + 1 else 0
def found : List α → Nam → Bool
  | [], _ => false
  | a :: r, n => if ahead (nm a) n = true then found r n else decide (nm a = n)
def put (l : List α) (e : α) : List α := l.take (place nm l (nm e)) ++ e :: l.drop (place nm l (nm e) + if found nm l (nm e) = true then 1 else 0)
def drp (l : List α) (n : Nam) : List α := l.take (place nm l n) ++ l.drop (place nm l n + if found nm l n = true then 1 else 0)
def Sorted (l : List α) : Prop := l.Pairwise (fun a b => ahead (nm a) (nm b) = true)
theorem place_le : ∀ (l : List α) (n : Nam), place nm l n ≤ l.length
  | [], _ => Nat.le_refl _
  | a :: r, n => by
    rw [place]
    split
    · have := place_le r n; simp; omega
    · simp
theorem place_before : ∀ (l : List α) (n : Nam) (i : Nat) (h : i < l.length), i < place nm l n → ahead (nm l[i]) n = true
  | [], _, _, h, _ => by simp at h
  | a :: r, n, i, h, hi => by
    rw [place] at hi
    split at hi
    · rename_i ha
      cases i with
      | zero => exact ha
      | succ i => exact place_before r n i (by simpa using h) (by omega)
    · omega
theorem place_at : ∀ (l : List α) (n : Nam) (h : place nm l n < l.length), ahead (nm l[place nm l n]) n = false ∧ found nm l n = decide (nm l[place nm l n] = n)
  | [], _, h => by simp at h
  | a :: r, n, h => by
    by_cases ha : ahead (nm a) n = true
    · have e : place nm (a :: r) n = place nm r n + 1 := by rw [place, if_pos ha]
      have h' : place nm r n < r.length := by rw [e] at h; simpa using h
      have := place_at r n h'
      have e2 : found nm (a :: r) n = found nm r n := by rw [found, if_pos ha]
      rw [e2]
      simpa [e] using this
    · have e : place nm (a :: r) n = 0 := by rw [place, if_neg ha]
      have e2 : found nm (a :: r) n = decide (nm a = n) := by rw [found, if_neg ha]
      rw [e2]
      simp [e]
      simpa using ha
theorem found_end : ∀ (l : List α) (n : Nam), place nm l n = l.length → found nm l n = false
  | [], _, _ => rfl
  | a :: r, n, h => by
    rw [place] at h
    split at h
    · rename_i ha
      rw [found, if_pos ha]
      exact found_end r n (by simpa using h)
    · simp at h
/-- Where a place is, by what lies ahead and behind. -/
theorem place_is (l : List α) (n : Nam) (i : Nat) (hi : i ≤ l.length) (h1 : ∀ j (h : j < l.length), j < i → ahead (nm l[j]) n = true) (h2 : ∀ h : i < l.length, ahead (nm l[i]) n = false) : place nm l n = i := by
  rcases Nat.lt_trichotomy (place nm l n) i with h | h | h
  · have h3 : place nm l n < l.length := by omega
    have := (place_at nm l n h3).1
    rw [h1 _ h3 h] at this; cases this
  · exact h
  · have h3 : i < l.length := by have := place_le nm l n; omega
    have := place_before nm l n i h3 h
    rw [h2 h3] at this; cases this
theorem sorted_le {l : List α} (hs : Sorted nm l) {i j : Nat} (hij : i < j) (hj : j < l.length) : ahead (nm (l[i]'(by omega))) (nm l[j]) = true := List.pairwise_iff_getElem.1 hs i j (by omega) hj hij
theorem after_place {l : List α} (hs : Sorted nm l) (n : Nam) {j : Nat} (hj : j < l.length) (h : place nm l n + (if found nm l n = true then 1 else 0) ≤ j) : ahead n (nm l[j]) = true := by
  have hp : place nm l n < l.length := by split at h <;> omega
  obtain ⟨h1, h2⟩ := place_at nm l n hp
  by_cases he : nm l[place nm l n] = n
  · rw [h2, he] at h
    simp at h
    have := sorted_le nm hs (i := place nm l n) (j := j) (by omega) hj
    rwa [he] at this
  · rw [h2, decide_eq_false he] at h
    simp at h
    rcases not_ahead h1 with k | k
    · exact absurd k he
    · by_cases e : place nm l n = j
      · simpa [← e] using k
      · exact ah_trans k (sorted_le nm hs (by omega) hj)
theorem drp_sorted {l : List α} (hs : Sorted nm l) (n : Nam) : Sorted nm (drp nm l n) := by
  unfold drp
  have e : l.take (place nm l n) ++ l.drop (place nm l n + if found nm l n = true then 1 else 0) = l.take (place nm l n) ++ (l.drop (place nm l n)).drop (if found nm l n = true then 1 else 0) := by rw [List.drop_drop]
  rw [e]
  refine List.Pairwise.sublist ?_ hs
  conv => rhs; rw [← List.take_append_drop (place nm l n) l]
  exact List.Sublist.append (List.Sublist.refl _) (List.drop_sublist _ _)
theorem put_sorted {l : List α} (hs : Sorted nm l) (e : α) : Sorted nm (put nm l e) := by
  unfold put Sorted
  rw [List.pairwise_append, List.pairwise_cons]
  have hd := drp_sorted nm hs (nm e)
  unfold drp Sorted at hd
  rw [List.pairwise_append] at hd
  refine ⟨hd.1, ⟨fun b hb => ?_, hd.2.1⟩, fun a ha b hb => ?_⟩
  · obtain ⟨j, hj, rfl⟩ := List.getElem_of_mem hb
    rw [List.getElem_drop]
    rw [List.length_drop] at hj
    exact after_place nm hs (nm e) (by omega) (by omega)
  · rcases List.mem_cons.1 hb with rfl | hb
    · obtain ⟨j, hj, rfl⟩ := List.getElem_of_mem ha
      rw [List.length_take] at hj
      rw [List.getElem_take]
      exact place_before nm l _ j (by omega) (by omega)
    · exact hd.2.2 a ha b hb
theorem found_lt {l : List α} {n : Nam} (h : found nm l n = true) : place nm l n < l.length := by
  rcases Nat.lt_or_ge (place nm l n) l.length with k | k
  · exact k
  · have := found_end nm l n (by have := place_le nm l n; omega)
    rw [h] at this; cases this
theorem put_len (l : List α) (e : α) : (put nm l e).length = l.length + if found nm l (nm e) = true then 0 else 1 := by
  unfold put
  have := place_le nm l (nm e)
  rw [List.length_append, List.length_cons, List.length_take, List.length_drop]
  cases h : found nm l (nm e)
  · simp; omega
  · have := found_lt nm h
    simp; omega
theorem drp_len (l : List α) (n : Nam) : (drp nm l n).length = l.length - if found nm l n = true then 1 else 0 := by
  unfold drp
  have := place_le nm l n
  rw [List.length_append, List.length_take, List.length_drop]
  cases h : found nm l n
  · simp; omega
  · have := found_lt nm h
    simp; omega
theorem put_found {l : List α} {e : α} (h : found nm l (nm e) = true) : put nm l e = l.set (place nm l (nm e)) e := by
  have h1 := found_lt nm h
  unfold put
  rw [if_pos h, List.set_eq_take_append_cons_drop, if_pos h1]
theorem put_new {l : List α} {e : α} (h : found nm l (nm e) = false) : put nm l e = l.take (place nm l (nm e)) ++ e :: l.drop (place nm l (nm e)) := by
  unfold put
  rw [if_neg (by rw [h]; decide), Nat.add_zero]
theorem drp_not {l : List α} {n : Nam} (h : found nm l n = false) : drp nm l n = l := by
  unfold drp
  rw [if_neg (by rw [h]; decide), Nat.add_zero, List.take_append_drop]
/-! What is behind a name. -/
theorem filter_after {l : List α} (hs : Sorted nm l) (n : Nam) : l.filter (fun a => ahead n (nm a)) = l.drop (place nm l n + if found nm l n = true then 1 else 0) := by
  conv => lhs; rw [← List.take_append_drop (place nm l n + if found nm l n = true then 1 else 0) l]
  rw [List.filter_append]
  have h1 : (l.take (place nm l n + if found nm l n = true then 1 else 0)).filter (fun a => ahead n (nm a)) = [] := by
    rw [List.filter_eq_nil_iff]
    intro a ha
    obtain ⟨j, hj, rfl⟩ := List.getElem_of_mem ha
    rw [List.length_take] at hj
    rw [List.getElem_take]
    by_cases hp : j < place nm l n
    · rw [ah_asymm (place_before nm l n j (by omega) hp)]; decide
    · have hf : found nm l n = true := by
        cases h : found nm l n
        · rw [h] at hj; simp at hj; omega
        · rfl
      rw [hf] at hj
      have e : j = place nm l n := by simp at hj; omega
      have h2 := (place_at nm l n (found_lt nm hf)).2
      rw [hf] at h2
      have h3 : nm (l[place nm l n]'(found_lt nm hf)) = n := by simpa using h2.symm
      simp only [e, h3, ah_irrefl]
      decide
  have h2 : (l.drop (place nm l n + if found nm l n = true then 1 else 0)).filter (fun a => ahead n (nm a)) = l.drop (place nm l n + if found nm l n = true then 1 else 0) := by
    rw [List.filter_eq_self]
    intro a ha
    obtain ⟨j, hj, rfl⟩ := List.getElem_of_mem ha
    rw [List.length_drop] at hj
    rw [List.getElem_drop]
    exact after_place nm hs n (by omega) (by omega)
  rw [h1, h2]; rfl
/-! Found again; a tenant's; the search by halves; pages. -/
theorem place_self {l : List α} (hs : Sorted nm l) {i : Nat} (hi : i < l.length) : place nm l (nm l[i]) = i ∧ found nm l (nm l[i]) = true := by
  have e : place nm l (nm l[i]) = i := place_is nm l _ i (by omega) (fun j hj hji => sorted_le nm hs hji hi) (fun _ => ah_irrefl _)
  have h : place nm l (nm l[i]) < l.length := by omega
  have h2 := (place_at nm l (nm l[i]) h).2
  have h3 : l[place nm l (nm l[i])] = l[i] := by congr 1
  rw [h2, h3]
  exact ⟨e, decide_eq_true rfl⟩
theorem bs_up {l : List α} (hs : Sorted nm l) {n : Nam} {h : Nat} (hh : h < l.length) (ha : ahead (nm l[h]) n = true) : ∀ k (hk : k < l.length), k < h + 1 → ahead (nm l[k]) n = true := by
  intro k hk hlt
  by_cases e : k = h
  · subst e; exact ha
  · exact ah_trans (sorted_le nm hs (i := k) (j := h) (by omega) hh) ha
theorem bs_down {l : List α} (hs : Sorted nm l) {n : Nam} {h : Nat} (hh : h < l.length) (ha : ahead (nm l[h]) n = false) : ∀ k (hk : k < l.length), h ≤ k → ahead (nm l[k]) n = false := by
  intro k hk hle
  by_cases e : h = k
  · subst e; exact ha
  · cases g : ahead (nm l[k]) n
    · rfl
    · have := ah_trans (sorted_le nm hs (i := h) (j := k) (by omega) hk) g
      rw [ha] at this; cases this
theorem bs_end {l : List α} {n : Nam} {i : Nat} (hi : i ≤ l.length) (h1 : ∀ k (hk : k < l.length), k < i → ahead (nm l[k]) n = true) (h2 : ∀ k (hk : k < l.length), i ≤ k → ahead (nm l[k]) n = false) : place nm l n = i :=
  place_is nm l n i hi h1 (fun h => h2 i h (Nat.le_refl _))
theorem nil_least (a : List UInt8) : ¬ a < [] := by simp
theorem filter_of_ge : ∀ (r : List α) (t : Int), Sorted nm r → (∀ a ∈ r, t ≤ (nm a).1) → r.filter (fun a => decide ((nm a).1 = t)) = r.takeWhile (fun a => decide ((nm a).1 = t))
  | [], _, _, _ => rfl
  | a :: r, t, hs, h => by
    have hs' := List.pairwise_cons.1 hs
    by_cases e : (nm a).1 = t
    · rw [List.filter_cons_of_pos (by simpa using e), List.takeWhile_cons_of_pos (by simpa using e), filter_of_ge r t hs'.2 (fun b hb => h b (List.mem_cons_of_mem _ hb))]
    · rw [List.filter_cons_of_neg (by simpa using e), List.takeWhile_cons_of_neg (by simpa using e), List.filter_eq_nil_iff]
      intro b hb
      have h1 := (ahead_iff _ _).1 (hs'.1 b hb)
      have h2 := h a (List.mem_cons_self ..)
      simp only [decide_eq_true_eq]
      omega
theorem filter_of {l : List α} (hs : Sorted nm l) (t : Int) : l.filter (fun a => decide ((nm a).1 = t)) = (l.drop (place nm l (t, []))).takeWhile (fun a => decide ((nm a).1 = t)) := by
  conv => lhs; rw [← List.take_append_drop (place nm l (t, [])) l]
  rw [List.filter_append]
  have h1 : (l.take (place nm l (t, []))).filter (fun a => decide ((nm a).1 = t)) = [] := by
    rw [List.filter_eq_nil_iff]
    intro a ha
    obtain ⟨j, hj, rfl⟩ := List.getElem_of_mem ha
    rw [List.length_take] at hj
    rw [List.getElem_take]
    have := (ahead_iff _ _).1 (place_before nm l (t, []) j (by omega) (by omega))
    simp only [decide_eq_true_eq]
    rcases this with h | ⟨_, h⟩
    · simp only at h; omega
    · exact absurd h (nil_least _)
  rw [h1, List.nil_append]
  refine filter_of_ge nm _ t (List.Pairwise.sublist (List.drop_sublist _ _) hs) (fun a ha => ?_)
  obtain ⟨j, hj, rfl⟩ := List.getElem_of_mem ha
  rw [List.length_drop] at hj
  rw [List.getElem_drop]
  have hp : place nm l (t, []) < l.length := by omega
  have h3 := (place_at nm l (t, []) hp).1
  have h4 : ahead (nm (l[place nm l (t, []) + j]'(by omega))) (t, []) = false := bs_down nm hs hp h3 _ (by omega) (by omega)
  cases hlt : decide ((nm (l[place nm l (t, []) + j]'(by omega))).1 < t)
  · have := of_decide_eq_false hlt; omega
  · have : ahead (nm (l[place nm l (t, []) + j]'(by omega))) (t, []) = true := (ahead_iff _ _).2 (.inl (of_decide_eq_true hlt))
    rw [h4] at this; cases this
/-- What is behind a name, at most m. -/
def aft (l : List α) (n : Nam) (m : Nat) : List α := (l.filter (fun a => ahead n (nm a))).take m
theorem aft_self {l : List α} (hs : Sorted nm l) {i : Nat} (hi : i < l.length) (m : Nat) : aft nm l (nm l[i]) m = (l.drop (i + 1)).take m := by
  unfold aft
  obtain ⟨h1, h2⟩ := place_self nm hs hi
  rw [filter_after nm hs, h1, h2, if_pos rfl]
theorem page {l : List α} (hs : Sorted nm l) {i : Nat} (hi : i < l.length) (m : Nat) : l.take (i + 1) ++ aft nm l (nm l[i]) m = l.take (i + 1 + m) := by
  rw [aft_self nm hs hi, List.take_add (i := i + 1)]
theorem puts_len (e : α) (l : List α) : 0 < (put nm l e).length := by
  unfold put; simp; omega
def puts (l : List α) : List α := l.foldl (fun a e => put nm a e) []
theorem puts_snoc (l : List α) (e : α) : puts nm (l ++ [e]) = put nm (puts nm l) e := by unfold puts; rw [List.foldl_append]; rfl
theorem puts_sorted (l : List α) : Sorted nm (puts nm l) := by
  suffices ∀ (l : List α) (a : List α), Sorted nm a → Sorted nm (l.foldl (fun a e => put nm a e) a) from this l [] List.Pairwise.nil
  intro l
  induction l with
  | nil => intro a h; exact h
  | cons e l ih => intro a h; exact ih _ (put_sorted nm h e)
theorem puts_le (l : List α) : (puts nm l).length ≤ l.length := by
  suffices ∀ (l : List α) (a : List α), (l.foldl (fun a e => put nm a e) a).length ≤ a.length + l.length by
    have := this l []
    simpa [puts] using this
  intro l
  induction l with
  | nil => intro a; simp
  | cons e l ih =>
    intro a
    have h1 := ih (put nm a e)
    have h2 := put_len nm a e
    rw [List.foldl_cons, List.length_cons]
    split at h2 <;> omega
theorem puts_nil {l : List α} (h : (puts nm l).length = 0) : l = [] := by
  rcases List.eq_nil_or_concat l with e | ⟨r, e, rfl⟩
  · exact e
  · rw [List.concat_eq_append, puts_snoc] at h
    have := puts_len nm e (puts nm r)
    omega
end
/-- How two names stand to each other. -/
def ord (a b : Nam) : Int := if ahead a b = true then -1 else if a = b then 0 else 1
theorem ord_neg (a b : Nam) : decide (ord a b < 0) = ahead a b := by
  unfold ord
  cases ahead a b
  · simp only [Bool.false_eq_true, if_false]; split <;> decide
  · simp
theorem ord_zero (a b : Nam) : (ord a b == 0) = decide (a = b) := by
  unfold ord
  by_cases e : a = b
  · subst e; rw [ah_irrefl]; simp
  · cases ahead a b
    · simp [e]
    · simp [e]
end Ix
namespace Ix
def En.nm (e : En) : Nam := (e.tenant, e.key.toList)
end Ix
end Go.Proofs.Ythggbohoedfkpaa
