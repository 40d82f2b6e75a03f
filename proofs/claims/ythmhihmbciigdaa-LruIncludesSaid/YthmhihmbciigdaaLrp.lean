/- The laws of the cache: plain lemmas. -/
import Derived.Test.YthmhihmbciigdaaLro
namespace Go.Proofs.Ythmhihmbciigdaa
open Go.RowKit Go.Maps Go.ChangeShapes Go.WideShapes
set_option linter.unusedVariables false
set_option linter.unusedSimpArgs false
set_option maxRecDepth 100000
namespace Lr
section
variable {w w1 : World} {v : Value} {b : Nat} {l p q : PP} {k : ByteArray} {x : ByteArray × ByteArray} {S : Nat → Prop}
theorem fnd_mid : ∀ {p : PP}, (∀ y ∈ p, y.1 ≠ x.1) → fnd (p ++ x :: q) x.1 = some x.2
  | [], _ => if_pos rfl
  | y :: p, h => by
    show (if y.1 = x.1 then some y.2 else fnd (p ++ x :: q) x.1) = _
    rw [if_neg (h y (List.mem_cons_self ..))]
    exact fnd_mid (fun z hz => h z (List.mem_cons_of_mem _ hz))
theorem fnd_miss : ∀ {l : PP}, (∀ y ∈ l, y.1 ≠ k) → fnd l k = none
  | [], _ => rfl
  | y :: l, h => by
    show (if y.1 = k then some y.2 else fnd l k) = _
    rw [if_neg (h y (List.mem_cons_self ..))]
    exact fnd_miss (fun z hz => h z (List.mem_cons_of_mem _ hz))
theorem fnd_of (hn : (l.map (·.1)).Nodup) (hl : l = p ++ x :: q) (hx : x.1 = k) : fnd l k = some x.2 := by
  subst hl hx
  rw [List.map_append, List.map_cons] at hn
  refine fnd_mid (fun y hy e => ?_)
  exact (List.nodup_append.1 hn).2.2 _ (List.mem_map_of_mem hy) _ (List.mem_cons_self ..) e
theorem pk_yes {v' : ByteArray} (h : fnd l k = some v') : pk l k = (v', true) := by unfold pk; rw [h]
theorem pk_no (h : fnd l k = none) : pk l k = (⟨#[]⟩, false) := by unfold pk; rw [h]
theorem rget_to (h : Pr w b v l) (hb : b ≤ w.heap.size) (hnd : (l.map (·.1)).Nodup) (hl : l.length ≤ 1000) (k : ByteArray) : Calls Try.prog 28 #[v, .string k] w fun e w' =>
    ∃ v', e = .returned (.tuple #[v', .string (pk l k).1, .bool (pk l k).2]) ∧ Pr w' b v' (gt l k) ∧ (v' = v ∨ ∀ j, v'.ownBlock = some j → w.heap.size ≤ j) ∧ Frm0 w w' := by
  refine (rget_any h hl k).mono ?_
  rintro e w' ⟨v', hf, ⟨p, x, q, hl2, hx, rfl, hP⟩ | ⟨hn, rfl, rfl, rfl⟩⟩
  · have hfd := fnd_of hnd hl2 hx
    refine ⟨v', by rw [pk_yes hfd], ?_, .inr (fun j hj => (World.ownsRow.lt hP j hj).1), hf⟩
    unfold gt
    rw [hfd]
    have hxe : (k, x.2) = x := by rw [← hx]
    show Pr w' b v' ((k, x.2) :: drp l k)
    rw [hxe]
    exact owns_base hP hb
  · refine ⟨v', by rw [pk_no (fnd_miss hn)], ?_, .inl rfl, Frm.refl _ _⟩
    unfold gt
    rw [fnd_miss hn]
    exact h
theorem Pr.key {A : Option Addr} {c n : Nat} (h : Pr w b (.slice A n c) l) (j : Nat) (hj : j < l.length) : ∃ g, A = some ⟨g, 0, none⟩ ∧ w.cell? ⟨g, j * 2, none⟩ = some (.string (l[j]).1) := by
  have hl : l = l.take j ++ l[j] :: l.drop (j + 1) := by rw [List.getElem_cons_drop, List.take_append_drop]
  have hjl : (l.take j).length = j := by rw [List.length_take]; omega
  rw [hl] at h
  obtain ⟨g, c', e, h1, _⟩ := h.at_
  rw [hjl] at h1
  injection e with e1
  exact ⟨g, e1, h1⟩
theorem str_key {A : Option Addr} {c n m : Nat} (h : w.ownsRow b 9 1 (.slice A n c) m (strs (l.map (·.1)))) (j : Nat) (hj : j < l.length) : ∃ g, A = some ⟨g, 0, none⟩ ∧ w.cell? ⟨g, j, none⟩ = some (.string (l[j]).1) := by
  have hm : m = l.length := by have := h.1; simp [strs] at this; omega
  have hs : (strs (l.map (·.1)))[j]? = some (.string (l[j]).1) := by simp [strs, hj]
  rcases h.2 with ⟨e, e2⟩ | ⟨g, cap, cur, e, _⟩
  · omega
  · have e0 := e
    injection e with e1
    subst e1
    refine ⟨g, rfl, ?_⟩
    rw [e0] at h
    rw [h.cellAt j (by omega)]
    exact hs
theorem gt_len (hn : (l.map (·.1)).Nodup) (k : ByteArray) : (gt l k).length ≤ l.length := by
  unfold gt
  cases hf : fnd l k with
  | none => exact Nat.le_refl _
  | some v =>
    have : ∃ p x q, l = p ++ x :: q ∧ x.1 = k := by
      clear hn
      induction l with
      | nil => cases hf
      | cons y l ih =>
        by_cases e : y.1 = k
        · exact ⟨[], y, l, rfl, e⟩
        · have hf2 : (if y.1 = k then some y.2 else fnd l k) = some v := hf
          rw [if_neg e] at hf2
          obtain ⟨p, x, q, h1, h2⟩ := ih hf2
          exact ⟨y :: p, x, q, by rw [h1]; rfl, h2⟩
    obtain ⟨p, x, q, rfl, rfl⟩ := this
    show ((x.1, v) :: drp (p ++ x :: q) x.1).length ≤ _
    rw [show p ++ x :: q = p ++ [x] ++ q by simp, drp_app, drp_hit rfl, List.length_cons, List.length_append, List.length_append, List.length_append]
    have h1 := drp_le p x.1
    have h2 := drp_le q x.1
    simp only [List.length_singleton]
    omega
theorem most_bd (n : Int) : 1 ≤ mostI n ∧ mostI n ≤ 100 := bring_bd n (by omega)
end
end Lr
end Go.Proofs.Ythmhihmbciigdaa
