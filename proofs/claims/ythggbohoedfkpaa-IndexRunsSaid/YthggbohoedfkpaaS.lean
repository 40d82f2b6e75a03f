/- Structs that are stored whole, in a block of their own or into a row. -/
import Derived.Test.YthggbohoedfkpaaM
import Derived.Deep.MidRow
namespace Go.Proofs.Ythggbohoedfkpaa
open Go.RowKit
set_option linter.unusedVariables false
set_option linter.unusedSimpArgs false

theorem Frm.puts {S : Nat → Prop} {w : World} (b : Nat) (hp : b < w.heap.size → S b) : ∀ (vs : List Value) (o : Nat) (w1 : World), Frm S w w1 → Frm S w (w1.setCells b o vs)
  | [], _, _, h => h
  | v :: r, o, w1, h => Frm.puts b hp r (o + 1) _ (h.setCell ⟨b, o, none⟩ hp v)
/-- Cells set, one behind the other. -/
def sets (cs : Array Value) : Nat → List Value → Array Value
  | _, [] => cs
  | o, v :: r => sets (cs.setIfInBounds o v) (o + 1) r
theorem sets_size : ∀ (vs : List Value) (cs : Array Value) (o : Nat), (sets cs o vs).size = cs.size
  | [], _, _ => rfl
  | v :: r, cs, o => by unfold sets; rw [sets_size r]; simp
theorem Bk.puts {g : Nat} {t : TypeId} : ∀ (vs : List Value) (o : Nat) (w : World) (cs : Array Value), w.heap[g]? = some (.cells cs t (0, 0)) → (w.setCells g o vs).heap[g]? = some (.cells (sets cs o vs) t (0, 0))
  | [], _, _, cs, h => h
  | v :: r, o, w, cs, h => Bk.puts r (o + 1) _ _ (Bk.set h o v)
theorem sets_at : ∀ (vs : List Value) (cs : Array Value) (o j : Nat), o + vs.length ≤ cs.size → (sets cs o vs)[j]? = if o ≤ j ∧ j < o + vs.length then vs[j - o]? else cs[j]?
  | [], cs, o, j, _ => by unfold sets; rw [if_neg (by simp only [List.length_nil]; omega)]
  | v :: r, cs, o, j, h => by
    simp only [List.length_cons] at h ⊢
    unfold sets
    rw [sets_at r _ _ _ (by simp; omega)]
    by_cases e : o = j
    · subst e
      rw [if_neg (by omega), if_pos (by omega)]
      simp
      have : o < cs.size := by omega
      rw [Array.getElem?_setIfInBounds_self]
      simp [this]
    · by_cases hj : o + 1 ≤ j ∧ j < o + 1 + r.length
      · rw [if_pos hj, if_pos (by omega)]
        obtain ⟨m, rfl⟩ : ∃ m, j = o + 1 + m := ⟨j - (o + 1), by omega⟩
        rw [show o + 1 + m - (o + 1) = m by omega, show o + 1 + m - o = m + 1 by omega, List.getElem?_cons_succ]
      · rw [if_neg hj, if_neg (by omega), Array.getElem?_setIfInBounds_ne (by omega)]
theorem sets_whole {cs us : Array Value} (h : us.size = cs.size) : sets cs 0 us.toList = us := by
  apply Array.ext_getElem?
  intro j
  rw [sets_at _ _ _ _ (by simp; omega)]
  split
  · simp
  · rename_i hj
    simp at hj
    rw [Array.getElem?_eq_none (by omega), Array.getElem?_eq_none (by omega)]
theorem Bk.there {w : World} {g : Nat} {t : TypeId} {cs : Array Value} (h : w.heap[g]? = some (.cells cs t (0, 0))) (o n : Nat) (hn : o + n ≤ cs.size) : w.there g o n := fun j hj =>
  ⟨by rw [Bk.cell h]; simp; omega, Bk.frozen h _⟩
theorem Bk.range {w : World} {g : Nat} {t : TypeId} {cs : Array Value} (h : w.heap[g]? = some (.cells cs t (0, 0))) (l : List Value) (hl : cs = l.toArray) : w.rangeAt g 0 l := fun j v hv => by
  rw [Bk.cell h, hl, Nat.zero_add]; simpa using hv

theorem Bk.c2 {w : World} {g : Nat} {t : TypeId} {v0 v1 : Value} (h : w.heap[g]? = some (.cells #[v0, v1] t (0, 0))) : w.cell? ⟨g, 0, none⟩ = some v0 ∧ w.cell? ⟨g, 1, none⟩ = some v1 := ⟨Bk.cell h 0, Bk.cell h 1⟩
theorem Bk.c3 {w : World} {g : Nat} {t : TypeId} {v0 v1 v2 : Value} (h : w.heap[g]? = some (.cells #[v0, v1, v2] t (0, 0))) : w.cell? ⟨g, 0, none⟩ = some v0 ∧ w.cell? ⟨g, 1, none⟩ = some v1 ∧ w.cell? ⟨g, 2, none⟩ = some v2 := ⟨Bk.cell h 0, Bk.cell h 1, Bk.cell h 2⟩
theorem Bk.c4 {w : World} {g : Nat} {t : TypeId} {v0 v1 v2 v3 : Value} (h : w.heap[g]? = some (.cells #[v0, v1, v2, v3] t (0, 0))) : w.cell? ⟨g, 0, none⟩ = some v0 ∧ w.cell? ⟨g, 1, none⟩ = some v1 ∧ w.cell? ⟨g, 2, none⟩ = some v2 ∧ w.cell? ⟨g, 3, none⟩ = some v3 := ⟨Bk.cell h 0, Bk.cell h 1, Bk.cell h 2, Bk.cell h 3⟩
theorem Bk.c5 {w : World} {g : Nat} {t : TypeId} {v0 v1 v2 v3 v4 : Value} (h : w.heap[g]? = some (.cells #[v0, v1, v2, v3, v4] t (0, 0))) : w.cell? ⟨g, 0, none⟩ = some v0 ∧ w.cell? ⟨g, 1, none⟩ = some v1 ∧ w.cell? ⟨g, 2, none⟩ = some v2 ∧ w.cell? ⟨g, 3, none⟩ = some v3 ∧ w.cell? ⟨g, 4, none⟩ = some v4 := ⟨Bk.cell h 0, Bk.cell h 1, Bk.cell h 2, Bk.cell h 3, Bk.cell h 4⟩
theorem Bk.c6 {w : World} {g : Nat} {t : TypeId} {v0 v1 v2 v3 v4 v5 : Value} (h : w.heap[g]? = some (.cells #[v0, v1, v2, v3, v4, v5] t (0, 0))) : w.cell? ⟨g, 0, none⟩ = some v0 ∧ w.cell? ⟨g, 1, none⟩ = some v1 ∧ w.cell? ⟨g, 2, none⟩ = some v2 ∧ w.cell? ⟨g, 3, none⟩ = some v3 ∧ w.cell? ⟨g, 4, none⟩ = some v4 ∧ w.cell? ⟨g, 5, none⟩ = some v5 := ⟨Bk.cell h 0, Bk.cell h 1, Bk.cell h 2, Bk.cell h 3, Bk.cell h 4, Bk.cell h 5⟩
theorem Bk.c7 {w : World} {g : Nat} {t : TypeId} {v0 v1 v2 v3 v4 v5 v6 : Value} (h : w.heap[g]? = some (.cells #[v0, v1, v2, v3, v4, v5, v6] t (0, 0))) : w.cell? ⟨g, 0, none⟩ = some v0 ∧ w.cell? ⟨g, 1, none⟩ = some v1 ∧ w.cell? ⟨g, 2, none⟩ = some v2 ∧ w.cell? ⟨g, 3, none⟩ = some v3 ∧ w.cell? ⟨g, 4, none⟩ = some v4 ∧ w.cell? ⟨g, 5, none⟩ = some v5 ∧ w.cell? ⟨g, 6, none⟩ = some v6 := ⟨Bk.cell h 0, Bk.cell h 1, Bk.cell h 2, Bk.cell h 3, Bk.cell h 4, Bk.cell h 5, Bk.cell h 6⟩
theorem Bk.c8 {w : World} {g : Nat} {t : TypeId} {v0 v1 v2 v3 v4 v5 v6 v7 : Value} (h : w.heap[g]? = some (.cells #[v0, v1, v2, v3, v4, v5, v6, v7] t (0, 0))) : w.cell? ⟨g, 0, none⟩ = some v0 ∧ w.cell? ⟨g, 1, none⟩ = some v1 ∧ w.cell? ⟨g, 2, none⟩ = some v2 ∧ w.cell? ⟨g, 3, none⟩ = some v3 ∧ w.cell? ⟨g, 4, none⟩ = some v4 ∧ w.cell? ⟨g, 5, none⟩ = some v5 ∧ w.cell? ⟨g, 6, none⟩ = some v6 ∧ w.cell? ⟨g, 7, none⟩ = some v7 := ⟨Bk.cell h 0, Bk.cell h 1, Bk.cell h 2, Bk.cell h 3, Bk.cell h 4, Bk.cell h 5, Bk.cell h 6, Bk.cell h 7⟩
theorem Bk.c15 {w : World} {g : Nat} {t : TypeId} {v0 v1 v2 v3 v4 v5 v6 v7 v8 v9 v10 v11 v12 v13 v14 : Value} (h : w.heap[g]? = some (.cells #[v0, v1, v2, v3, v4, v5, v6, v7, v8, v9, v10, v11, v12, v13, v14] t (0, 0))) : w.cell? ⟨g, 0, none⟩ = some v0 ∧ w.cell? ⟨g, 1, none⟩ = some v1 ∧ w.cell? ⟨g, 2, none⟩ = some v2 ∧ w.cell? ⟨g, 3, none⟩ = some v3 ∧ w.cell? ⟨g, 4, none⟩ = some v4 ∧ w.cell? ⟨g, 5, none⟩ = some v5 ∧ w.cell? ⟨g, 6, none⟩ = some v6 ∧ w.cell? ⟨g, 7, none⟩ = some v7 ∧ w.cell? ⟨g, 8, none⟩ = some v8 ∧ w.cell? ⟨g, 9, none⟩ = some v9 ∧ w.cell? ⟨g, 10, none⟩ = some v10 ∧ w.cell? ⟨g, 11, none⟩ = some v11 ∧ w.cell? ⟨g, 12, none⟩ = some v12 ∧ w.cell? ⟨g, 13, none⟩ = some v13 ∧ w.cell? ⟨g, 14, none⟩ = some v14 := ⟨Bk.cell h 0, Bk.cell h 1, Bk.cell h 2, Bk.cell h 3, Bk.cell h 4, Bk.cell h 5, Bk.cell h 6, Bk.cell h 7, Bk.cell h 8, Bk.cell h 9, Bk.cell h 10, Bk.cell h 11, Bk.cell h 12, Bk.cell h 13, Bk.cell h 14⟩
theorem Bk.c14 {w : World} {g : Nat} {t : TypeId} {v0 v1 v2 v3 v4 v5 v6 v7 v8 v9 v10 v11 v12 v13 : Value} (h : w.heap[g]? = some (.cells #[v0, v1, v2, v3, v4, v5, v6, v7, v8, v9, v10, v11, v12, v13] t (0, 0))) : w.cell? ⟨g, 0, none⟩ = some v0 ∧ w.cell? ⟨g, 1, none⟩ = some v1 ∧ w.cell? ⟨g, 2, none⟩ = some v2 ∧ w.cell? ⟨g, 3, none⟩ = some v3 ∧ w.cell? ⟨g, 4, none⟩ = some v4 ∧ w.cell? ⟨g, 5, none⟩ = some v5 ∧ w.cell? ⟨g, 6, none⟩ = some v6 ∧ w.cell? ⟨g, 7, none⟩ = some v7 ∧ w.cell? ⟨g, 8, none⟩ = some v8 ∧ w.cell? ⟨g, 9, none⟩ = some v9 ∧ w.cell? ⟨g, 10, none⟩ = some v10 ∧ w.cell? ⟨g, 11, none⟩ = some v11 ∧ w.cell? ⟨g, 12, none⟩ = some v12 ∧ w.cell? ⟨g, 13, none⟩ = some v13 := ⟨Bk.cell h 0, Bk.cell h 1, Bk.cell h 2, Bk.cell h 3, Bk.cell h 4, Bk.cell h 5, Bk.cell h 6, Bk.cell h 7, Bk.cell h 8, Bk.cell h 9, Bk.cell h 10, Bk.cell h 11, Bk.cell h 12, Bk.cell h 13⟩
theorem flat_at' {α : Type} (f : α → List Value) (sz : Nat) (hf : ∀ a, (f a).length = sz) : ∀ (l : List α) (i j : Nat) (a : α), l[i]? = some a → j < sz → (l.flatMap f)[i * sz + j]? = (f a)[j]?
  | [], i, j, a, h, _ => by simp at h
  | b :: l, 0, j, a, h, hj => by
    simp only [List.getElem?_cons_zero, Option.some.injEq] at h
    subst h
    rw [List.flatMap_cons, List.getElem?_append_left (by rw [hf]; omega)]
    simp
  | b :: l, i + 1, j, a, h, hj => by
    simp only [List.getElem?_cons_succ] at h
    rw [List.flatMap_cons, List.getElem?_append_right (by rw [hf, Nat.add_mul]; omega), hf]
    have := flat_at' f sz hf l i j a h hj
    rw [show (i + 1) * sz + j - sz = i * sz + j by rw [Nat.add_mul]; omega]
    exact this
/-! Structs stored into a row. -/
def setsL : List Value → Nat → List Value → List Value
  | xs, _, [] => xs
  | xs, o, v :: r => setsL (xs.set o v) (o + 1) r
theorem owns_puts {base : Nat} {e : TypeId} {size g n cap : Nat} : ∀ (us : List Value) (o : Nat) (w : World) (xs : List Value), w.ownsRow base e size (.slice (some ⟨g, 0, none⟩) n cap) n xs → (w.setCells g o us).ownsRow base e size (.slice (some ⟨g, 0, none⟩) n cap) n (setsL xs o us)
  | [], _, _, _, h => h
  | v :: r, o, w, xs, h => owns_puts r (o + 1) _ _ (h.stored o v).1
theorem setsL_mid : ∀ (us x p y : List Value), us.length = x.length → setsL (p ++ (x ++ y)) p.length us = p ++ (us ++ y)
  | [], [], p, y, _ => rfl
  | u :: us, b :: x, p, y, h => by
    have ih := setsL_mid us x (p ++ [u]) y (by simpa using h)
    unfold setsL
    rw [List.set_append_right _ _ (Nat.le_refl _), Nat.sub_self]
    simp only [List.cons_append, List.set_cons_zero]
    rw [show p ++ u :: (x ++ y) = (p ++ [u]) ++ (x ++ y) by simp, show p.length + 1 = (p ++ [u]).length by simp, ih]
    simp
  | [], _ :: _, _, _, h => by simp at h
  | _ :: _, [], _, _, h => by simp at h
theorem flatMap_len {α : Type} (f : α → List Value) (sz : Nat) (hf : ∀ a, (f a).length = sz) (l : List α) : (l.flatMap f).length = l.length * sz := by
  induction l with
  | nil => simp
  | cons b l ih => rw [List.flatMap_cons, List.length_append, ih, hf, List.length_cons, Nat.add_mul]; omega
theorem flat_sets {α : Type} (f : α → List Value) (sz : Nat) (hf : ∀ a, (f a).length = sz) (l : List α) (k : Nat) (hk : k < l.length) (a' : α) : setsL (l.flatMap f) (k * sz) (f a') = (l.set k a').flatMap f := by
  have e1 : l = l.take k ++ l[k] :: l.drop (k + 1) := by rw [List.getElem_cons_drop, List.take_append_drop]
  have e2 : l.set k a' = l.take k ++ a' :: l.drop (k + 1) := by rw [List.set_eq_take_append_cons_drop, if_pos hk]
  have e3 : ((l.take k).flatMap f).length = k * sz := by rw [flatMap_len f sz hf, List.length_take, Nat.min_eq_left (by omega)]
  rw [e2, List.flatMap_append, List.flatMap_cons]
  conv => lhs; rw [e1, List.flatMap_append, List.flatMap_cons]
  rw [← e3, setsL_mid _ _ _ _ (by rw [hf, hf])]
theorem owns_there {w : World} {base : Nat} {e : TypeId} {size g n cap : Nat} {xs : List Value} (h : w.ownsRow base e size (.slice (some ⟨g, 0, none⟩) n cap) n xs) (o m : Nat) (hm : o + m ≤ n * size) : w.there g o m := fun j hj => by
  rcases h.2 with ⟨h', _⟩ | ⟨g', cap', cur, he, hb, hg, hn, hc, hsz, ht⟩
  · cases h'
  · cases he
    have h1 : n * size ≤ cap * size := Nat.mul_le_mul hn (Nat.le_refl _)
    exact ⟨by rw [Bk.cell hg]; simp; omega, Bk.frozen hg _⟩
theorem owns_range {w : World} {base : Nat} {e : TypeId} {size g n cap : Nat} {α : Type} {f : α → List Value} {l : List α} (h : w.ownsRow base e size (.slice (some ⟨g, 0, none⟩) n cap) n (l.flatMap f)) (hf : ∀ a, (f a).length = size) (hl : l.length = n) (k : Nat) (hk : k < l.length) : w.rangeAt g (k * size) (f l[k]) := fun j v hv => by
  have hj := (List.getElem?_eq_some_iff.1 hv).1
  rw [hf] at hj
  have h1 : (k + 1) * size ≤ n * size := Nat.mul_le_mul (by omega) (Nat.le_refl _)
  rw [Nat.add_mul] at h1
  rw [h.cellAt (k * size + j) (by omega), ← hv]
  exact flat_at' f size hf l k j l[k] (List.getElem?_eq_getElem hk) hj
section
variable {P : Program} {ops : Array Oper} {rest : List Oper} {o : Oper} {a : Act} {w : World} {Q : Exit → Act → World → Prop}
/-- A struct stored into the block that is its own. -/
theorem wpList_store_blk (hgd : o.guard = none) (ty : TypeId) (x y : Operand) (ho : o.op = .store ty x y) {b : Nat} {t : TypeId} {cs us : Array Value} (h : w.heap[b]? = some (.cells cs t (0, 0)))
    (hx : a.eval x = .pointer (some ⟨b, 0, none⟩)) (hy : a.eval y = .agg us) {n : Nat} (hi : (P.info? ty).map (·.size) = some n) (hs : us.size = n) (hc : cs.size = n) (h1 : us.toList.all (·.oneCell') = true)
    (hK : ∀ w', w'.heap[b]? = some (.cells us t (0, 0)) → Frm (fun k => k = b) w w' → wpList P ops Q rest (a.put o.dst undef) w') : wpList P ops Q (o :: rest) a w := by
  refine wpList_store_mid hgd ty x y ho b 0 us hx hy (Bk.there h 0 _ (by omega)) (by rw [hi, hs]) (Array.all_eq_true_iff_forall_mem.2 (fun v hv => List.all_eq_true.1 h1 v (by simpa using hv))) (hK _ ?_ ?_)
  · have := Bk.puts us.toList 0 w cs h
    rwa [sets_whole (hs.trans hc.symm)] at this
  · exact Frm.puts (S := fun k => k = b) b (fun _ => rfl) _ _ _ (Frm.refl _ _)
/-- A struct loaded from the block that is its own. -/
theorem wpList_load_blk (hgd : o.guard = none) (ty : TypeId) (x : Operand) (ho : o.op = .load ty x) {b : Nat} {t : TypeId} {l : List Value} {d : TypeDesc} (h : w.heap[b]? = some (.cells l.toArray t (0, 0)))
    (hx : a.eval x = .pointer (some ⟨b, 0, none⟩)) (hu : P.underlying ty = some d) (hd : d.isRow = true) {n : Nat} (hi : (P.info? ty).map (·.size) = some n) (hl : l.length = n)
    (hK : wpList P ops Q rest (a.put o.dst (.agg l.toArray)) w) : wpList P ops Q (o :: rest) a w :=
  wpList_load_mid hgd ty x ho b 0 hx l d (Bk.range h l rfl) hu hd (by rw [hi, hl]) hK
/-- A struct stored into a row's k-th place. -/
theorem wpList_store_row {α : Type} (hgd : o.guard = none) (ty : TypeId) (x y : Operand) (ho : o.op = .store ty x y) {base : Nat} {e : TypeId} {size g n cap k : Nat} {f : α → List Value} {l : List α} {us : Array Value} (a' : α)
    (h : w.ownsRow base e size (.slice (some ⟨g, 0, none⟩) n cap) n (l.flatMap f)) (hf : ∀ a, (f a).length = size) (hl : l.length = n) (hk : k < l.length)
    (hx : a.eval x = .pointer (some ⟨g, k * size, none⟩)) (hy : a.eval y = .agg us) (hi : (P.info? ty).map (·.size) = some size) (hs : us.toList = f a') (h1 : us.toList.all (·.oneCell') = true)
    (hK : ∀ w', w'.ownsRow base e size (.slice (some ⟨g, 0, none⟩) n cap) n ((l.set k a').flatMap f) → Frm (fun k => k = g) w w' → wpList P ops Q rest (a.put o.dst undef) w') : wpList P ops Q (o :: rest) a w := by
  have hsz : us.size = size := by rw [← Array.length_toList, hs, hf]
  have h2 : (k + 1) * size ≤ n * size := Nat.mul_le_mul (by omega) (Nat.le_refl _)
  rw [Nat.add_mul] at h2
  refine wpList_store_mid hgd ty x y ho g (k * size) us hx hy (owns_there h _ _ (by omega)) (by rw [hi, hsz]) (Array.all_eq_true_iff_forall_mem.2 (fun v hv => List.all_eq_true.1 h1 v (by simpa using hv))) (hK _ ?_ ?_)
  · have := owns_puts us.toList (k * size) w _ h
    rwa [hs, flat_sets f size hf l k hk a', ← hs] at this
  · exact Frm.puts (S := fun k => k = g) g (fun _ => rfl) _ _ _ (Frm.refl _ _)
/-- A struct loaded from a row's k-th place. -/
theorem wpList_load_row {α : Type} (hgd : o.guard = none) (ty : TypeId) (x : Operand) (ho : o.op = .load ty x) {base : Nat} {e : TypeId} {size g n cap k : Nat} {f : α → List Value} {l : List α} {d : TypeDesc}
    (h : w.ownsRow base e size (.slice (some ⟨g, 0, none⟩) n cap) n (l.flatMap f)) (hf : ∀ a, (f a).length = size) (hl : l.length = n) (hk : k < l.length)
    (hx : a.eval x = .pointer (some ⟨g, k * size, none⟩)) (hu : P.underlying ty = some d) (hd : d.isRow = true) (hi : (P.info? ty).map (·.size) = some size)
    (hK : wpList P ops Q rest (a.put o.dst (.agg (f l[k]).toArray)) w) : wpList P ops Q (o :: rest) a w :=
  wpList_load_mid hgd ty x ho g (k * size) hx (f l[k]) d (owns_range h hf hl k hk) hu hd (by rw [hi, hf]) hK
end
/-! Results that lie in memory. -/
section
variable {P : Program} {fn : Func} {R : Ending → World → Prop} {a : Act} {w : World}
theorem run_loadVar_blk {b : Nat} {ty t : TypeId} {l : List Value} {d : TypeDesc} {n : Nat} (h : w.heap[b]? = some (.cells l.toArray t (0, 0))) (hu : P.underlying ty = some d) (hd : d.isRow = true) (hi : (P.info? ty).map (·.size) = some n) (hl : l.length = n) :
    (loadVar ty ⟨b, 0, none⟩).run P w = .ok (.agg l.toArray) w := run_loadVar_mid w b 0 ty l d (Bk.range h l rfl) hu hd (by rw [hi, hl])
theorem ret_cell {t : Tmp} {ty t' : TypeId} {d : TypeDesc} {b n : Nat} {l : List Value} (hr : fn.results = #[.cell t ty]) (hu : P.underlying ty = some d) (hd : d.isRow = true) (hi : (P.info? ty).map (·.size) = some n)
    (h : w.heap[b]? = some (.cells l.toArray t' (0, 0))) (hl : l.length = n) (ht : a.tmps.getD t undef = .pointer (some ⟨b, 0, none⟩)) (hdf : a.defers = []) (hR : R (.returned (.agg l.toArray)) w) : bodyPost P fn R .ret a w := by
  refine bodyPost_ret (v := .agg l.toArray) ?_ hdf hR
  have ht' : a.tmps[t]?.getD undef = .pointer (some ⟨b, 0, none⟩) := by simpa using ht
  simp only [results, hr]
  simp [ht', asAddr, run_loadVar_blk h hu hd hi hl, Sem.run_bind, Result.andThen]
theorem ret_cell1 {t u : Tmp} {ty t' : TypeId} {d : TypeDesc} {b n : Nat} {l : List Value} {v : Value} (hr : fn.results = #[.cell t ty, .tmp u]) (hu : P.underlying ty = some d) (hd : d.isRow = true) (hi : (P.info? ty).map (·.size) = some n)
    (h : w.heap[b]? = some (.cells l.toArray t' (0, 0))) (hl : l.length = n) (ht : a.tmps.getD t undef = .pointer (some ⟨b, 0, none⟩)) (hv : a.tmps.getD u undef = v) (hdf : a.defers = []) (hR : R (.returned (.tuple #[.agg l.toArray, v])) w) : bodyPost P fn R .ret a w := by
  refine bodyPost_ret (v := .tuple #[.agg l.toArray, v]) ?_ hdf hR
  have ht' : a.tmps[t]?.getD undef = .pointer (some ⟨b, 0, none⟩) := by simpa using ht
  have hv' : a.tmps[u]?.getD undef = v := by simpa using hv
  simp only [results, hr]
  simp [ht', hv', asAddr, run_loadVar_blk h hu hd hi hl, Sem.run_bind, Result.andThen]
end
end Go.Proofs.Ythggbohoedfkpaa
