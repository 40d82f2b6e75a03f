/- What a row's arguments read as: words for opening them (structs in slices, slices of strings and numbers), shared by this seat's rows. -/
import Derived.Test.YthggbohoedfkpaaL
import Derived.ProofKit
import Derived.OpenShut
import Derived.ShutString
import Derived.ChangeOld
import Derived.SizedLaws
import Derived.Carry
import Derived.Deep.Slices
import Derived.ChangeSame
import Derived.ChangeArms
namespace Go.Proofs.Ythggbohoedfkpaa
open Go.RowKit Go.ChangeShapes Go.WideShapes
set_option linter.unusedVariables false

section
variable {H : Type} {enc : TypeId × Value → H} {P : Program} {w : World} {base : Nat} {spare : Nat → Bool} {held : Bool}

theorem flat_at {α : Type} (f : α → List Value) (sz : Nat) (hf : ∀ a, (f a).length = sz) : ∀ (l : List α) (i j : Nat) (a : α), l[i]? = some a → j < sz → (l.flatMap f)[i * sz + j]? = (f a)[j]?
  | [], i, j, a, h, _ => by simp at h
  | b :: l, 0, j, a, h, hj => by
    simp only [List.getElem?_cons_zero, Option.some.injEq] at h
    subst h
    rw [List.flatMap_cons, List.getElem?_append_left (by rw [hf]; omega)]
    simp
  | b :: l, i + 1, j, a, h, hj => by
    simp only [List.getElem?_cons_succ] at h
    rw [List.flatMap_cons, List.getElem?_append_right (by rw [hf, Nat.add_mul]; omega), hf]
    have := flat_at f sz hf l i j a h hj
    rw [show (i + 1) * sz + j - sz = i * sz + j by rw [Nat.add_mul]; omega]
    exact this
theorem flat_len {α : Type} (f : α → List Value) (sz : Nat) (hf : ∀ a, (f a).length = sz) (l : List α) : (l.flatMap f).length = l.length * sz := by
  induction l with
  | nil => simp
  | cons b l ih => rw [List.flatMap_cons, List.length_append, ih, hf, List.length_cons, Nat.add_mul]; omega

/-- A slice, whatever its elements: a list of what parses them, its cells, and that the elements are good. -/
theorem open_rows {α : Type} (f : α → List Value) (sz : Nat) (Good : α → Prop) (hf : ∀ a, (f a).length = sz) (hsz : 0 < sz) {t e : TypeId} {v : Value} {d : DataW H} {p : List MemPlace}
    (ht : P.underlying t = some (.slice e)) (hc : P.cellsOf e = sz)
    (hparse : ∀ n cs x, cs.length = sz → DataW.trod enc P w base spare held n e cs = some x → ∃ a, cs = f a ∧ Good a)
    (hv : ∃ A len cap, v = Value.slice A len cap) (h : DataW.Trod enc P w base spare held t v d p) : ∃ l : List α, Sl w v l.length (l.flatMap f) ∧ (∀ a ∈ l, Good a) ∧ (d = .nil ∨ ∃ D s, d = .slice D s ∧ D.length = l.length) := by
  obtain ⟨A0, len0, cap0, rfl⟩ := hv
  obtain ⟨fuel, hfu⟩ := h
  rcases Go.Deep.open_slice ht hfu with ⟨hcs, hx⟩ | ⟨a, len, cap, m, n, D, Pl, hcs, hb, hl, hm, hmm, hx, hi⟩
  · simp [Value.cells] at hcs
    obtain ⟨rfl, rfl, rfl⟩ := hcs
    refine ⟨[], .inl ⟨_, _, rfl, rfl, rfl⟩, by simp, .inl ?_⟩
    exact (Prod.mk.injEq _ _ _ _ ▸ hx).1
  · simp [Value.cells] at hcs
    obtain ⟨rfl, rfl, rfl⟩ := hcs
    have hd : d = .slice ((List.range len0).map D) ((List.range (m - len0)).map fun j => D (len0 + j)) := by
      have := congrArg Prod.fst hx; exact this
    have hlm : len0 ≤ m := by rw [hmm]; split <;> omega
    have hall : ∀ i, i < len0 → ∃ x : α, (∀ j, j < sz → w.cell? (a.add (i * sz + j)) = (f x)[j]?) ∧ Good x := fun i him => by
      obtain ⟨cs', h1, h2⟩ := hi i (by omega)
      obtain ⟨_, hlen, hcell⟩ := World.cells?_some h1
      rw [hc] at h1 hlen hcell
      obtain ⟨x, rfl, hg⟩ := hparse n cs' _ hlen h2
      refine ⟨x, fun j hj => ?_, hg⟩
      rw [← Go.Deep.add_add]
      exact hcell j hj
    by_cases h0 : len0 = 0
    · subst h0
      exact ⟨[], .inl ⟨_, _, rfl, rfl, rfl⟩, by simp, .inr ⟨_, _, hd, by simp⟩⟩
    · obtain ⟨x0, hx0, _⟩ := hall 0 (by omega)
      haveI : Inhabited α := ⟨x0⟩
      obtain ⟨X, hX⟩ := Go.Deep.choose_lt (n := len0) (p := fun i (x : α) => (∀ j, j < sz → w.cell? (a.add (i * sz + j)) = (f x)[j]?) ∧ Good x) hall
      have hc0 := hx0 0 hsz
      rw [List.getElem?_eq_getElem (by rw [hf]; exact hsz)] at hc0
      have hlt := World.block_lt_of_cell? w _ hc0
      obtain ⟨b, o, rfl⟩ : ∃ b o, a = ⟨b, o, none⟩ := by
        obtain ⟨b, o, rest⟩ := a
        cases rest with
        | none => exact ⟨b, o, rfl⟩
        | some r =>
          exfalso
          simp [Addr.add] at hc0
          simp [World.cell?] at hc0
          split at hc0 <;> cases hc0
      refine ⟨(List.range len0).map X, .inr ⟨b, o, cap0, by simp, by simp; omega, by simp; exact hl, hm, ?_, ?_⟩, ?_, .inr ⟨_, _, hd, by simp⟩⟩
      · have : ((⟨b, o, none⟩ : Addr).add (0 * sz + 0)).block = b := by rw [add_none]
        rw [this] at hlt
        exact hlt
      · intro j u hu
        have hjl := (List.getElem?_eq_some_iff.1 hu).1
        rw [flat_len f sz hf] at hjl
        simp only [List.length_map, List.length_range] at hjl
        have hq : j / sz < len0 := (Nat.div_lt_iff_lt_mul hsz).2 hjl
        have hr : j % sz < sz := Nat.mod_lt _ hsz
        have hj : j = j / sz * sz + j % sz := by rw [Nat.mul_comm]; exact (Nat.div_add_mod j sz).symm
        rw [hj, flat_at f sz hf _ _ _ (X (j / sz)) (by simp [hq]) hr] at hu
        have := (hX _ hq).1 _ hr
        rw [add_none] at this
        rw [hj, this, hu]
      · intro x hx
        obtain ⟨i, hi', rfl⟩ := List.mem_map.1 hx
        exact (hX i (by simpa using hi')).2
end

/-- A struct by value. -/
theorem open_val {H : Type} {enc : TypeId × Value → H} {P : Program} {w : World} {base b0 : Nat} {r : Reach} {spare : Nat → Bool} {held : Bool} {α : Type} {f : α → List Value} {Good : α → Prop} {sz : Nat} {t : TypeId} {v : Value} {d : DataW H} {p : List MemPlace}
    (hs : (∃ fs, P.underlying t = some (.struct fs)) ∧ P.cellsOf t = sz ∧ ∀ {H : Type} {enc : TypeId × Value → H} {w : World} {base : Nat} {spare : Nat → Bool} {held : Bool} n cs x, cs.length = sz → DataW.trod enc P w base spare held n t cs = some x → ∃ a, cs = f a ∧ Good a)
    (hv : Value.okWide P w r b0 t v) (h : DataW.Trod enc P w base spare held t v d p) : ∃ a, v = .agg (f a).toArray ∧ Good a := by
  obtain ⟨⟨fs, hfs⟩, hc, hp⟩ := hs
  obtain ⟨cs, rfl, hsz⟩ := okWide_struct hfs hv
  obtain ⟨fuel, hf⟩ := h
  obtain ⟨a, ha, hg⟩ := hp fuel cs.toList _ (by simpa using hsz.trans hc) (by simpa [Value.cells] using hf)
  exact ⟨a, by rw [← ha], hg⟩

/-- A slice of such structs (or of whatever parses). -/
theorem open_list {H : Type} {enc : TypeId × Value → H} {P : Program} {w : World} {base : Nat} {spare : Nat → Bool} {held : Bool} {α : Type} {f : α → List Value} {Good : α → Prop} {sz : Nat} {t e : TypeId} {v : Value} {d : DataW H} {p : List MemPlace}
    (hf : ∀ a, (f a).length = sz) (hsz : 0 < sz) (ht : P.underlying t = some (.slice e))
    (hs : P.cellsOf e = sz ∧ ∀ {H : Type} {enc : TypeId × Value → H} {w : World} {base : Nat} {spare : Nat → Bool} {held : Bool} n cs x, cs.length = sz → DataW.trod enc P w base spare held n e cs = some x → ∃ a, cs = f a ∧ Good a)
    (hv : ∃ A len cap, v = Value.slice A len cap) (h : DataW.Trod enc P w base spare held t v d p) : ∃ l : List α, Sl w v l.length (l.flatMap f) ∧ (∀ a ∈ l, Good a) ∧ (d = .nil ∨ ∃ D s, d = .slice D s ∧ D.length = l.length) :=
  open_rows f sz Good hf hsz ht hs.1 (fun n cs x hl h => hs.2 n cs x hl h) hv h

/-- What is below the heap's old size reads as it did. -/
theorem again {H : Type} {enc : TypeId × Value → H} {P : Program} {t : TypeId} (hl : laidOutB P = true) (hr : P.readableRec t = true) (hrow : t < P.types.size) {W W' : World} {v : Value} {d : DataW H} {ps : List MemPlace}
    (h : DataW.Trod enc P W 0 (fun _ => true) true t v d ps) (hb : Below W.heap.size W W') (hlt : ∀ x ∈ ps, x.block < W.heap.size) :
    DataW.Trod enc P W' 0 (fun b => decide (b < W.heap.size)) true t v d ps := Below.trod hl hr hrow h hb hlt
end Go.Proofs.Ythggbohoedfkpaa
