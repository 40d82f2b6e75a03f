/- The laws of the cache: what a larger one includes. Plain. -/
import Derived.Test.YthmhihmbciigdaaLrp
namespace Go.Proofs.Ythmhihmbciigdaa
open Go.RowKit Go.Maps
set_option linter.unusedVariables false
set_option linter.unusedSimpArgs false
namespace Lr
section
variable {l p q pa pb : PP} {k v : ByteArray} {x : ByteArray × ByteArray} {n na nb : Int}
/-- What Put leaves. -/
def ptn (n : Int) (ps : PP) (k v : ByteArray) : PP := if (((drp ps k).length : Nat) : Int) + 1 ≤ n then (k, v) :: drp ps k else ((k, v) :: drp ps k).dropLast
def Inc (na : Int) (pa pb : PP) : Prop := pa.Sublist pb ∧ ((pa.length : Int) = na ∨ pa = pb)
theorem dropLast_sub {a b : PP} (h : a.Sublist b) : a.dropLast.Sublist b.dropLast := by
  have h1 := (List.reverse_sublist.2 h).tail
  have h2 := List.reverse_sublist.2 h1
  simpa using h2
theorem fnd_mem (hn : (l.map (·.1)).Nodup) (hx : x ∈ l) : fnd l x.1 = some x.2 := by
  obtain ⟨p, q, h⟩ := List.append_of_mem hx
  exact fnd_of hn h rfl
theorem fnd_some' : ∀ {l : PP}, fnd l k = some v → (k, v) ∈ l
  | [], h => by cases h
  | y :: l, h => by
    have h2 : (if y.1 = k then some y.2 else fnd l k) = some v := h
    by_cases e : y.1 = k
    · rw [if_pos e] at h2
      have h3 := Option.some.inj h2
      rw [← e, ← h3]
      exact List.mem_cons_self ..
    · rw [if_neg e] at h2
      exact List.mem_cons_of_mem _ (fnd_some' h2)
theorem fnd_none' (h : fnd l k = none) : ∀ y ∈ l, y.1 ≠ k := by
  induction l with
  | nil => intro y hy; cases hy
  | cons a l ih =>
    have h2 : (if a.1 = k then some a.2 else fnd l k) = none := h
    by_cases e : a.1 = k
    · rw [if_pos e] at h2; cases h2
    · rw [if_neg e] at h2
      intro y hy
      rcases List.mem_cons.1 hy with rfl | hy
      · exact e
      · exact ih h2 y hy
theorem drp_self (h : ∀ y ∈ l, y.1 ≠ k) : drp l k = l := by
  unfold drp
  rw [List.filter_eq_self]
  exact fun y hy => decide_eq_true (h y hy)
theorem drp_sub (h : pa.Sublist pb) (k : ByteArray) : (drp pa k).Sublist (drp pb k) := h.filter _
theorem drp_ge (hn : (l.map (·.1)).Nodup) (k : ByteArray) : l.length ≤ (drp l k).length + 1 := by
  cases hf : fnd l k with
  | none => rw [drp_self (fnd_none' hf)]; omega
  | some v =>
    obtain ⟨p, q, rfl⟩ := List.append_of_mem (fnd_some' hf)
    rw [List.map_append, List.map_cons] at hn
    have h1 := List.nodup_append.1 hn
    have hp : ∀ y ∈ p, y.1 ≠ k := fun y hy e => h1.2.2 _ (List.mem_map_of_mem hy) _ (List.mem_cons_self ..) e
    have hq : ∀ y ∈ q, y.1 ≠ k := fun y hy e => (List.nodup_cons.1 h1.2.1).1 (List.mem_map.2 ⟨y, hy, e⟩)
    rw [show p ++ (k, v) :: q = p ++ [(k, v)] ++ q by simp, drp_app, drp_hit rfl, drp_self hp, drp_self hq]
    simp
    omega
theorem drp_full (h : l.length ≤ (drp l k).length) : ∀ y ∈ l, y.1 ≠ k := by
  have h1 := drp_le l k
  have h2 : (l.filter (fun x => decide (x.1 ≠ k))).length = l.length := by unfold drp at h h1; omega
  intro y hy
  have := List.length_filter_eq_length_iff.1 h2 y hy
  exact of_decide_eq_true this
theorem ptn_len (h : (l.length : Int) ≤ n) (h1 : 1 ≤ n) : ((ptn n l k v).length : Int) ≤ n := by
  unfold ptn
  have := drp_le l k
  split
  · simp; omega
  · simp; omega
theorem inc_put (h : Inc na pa pb) (hab : na ≤ nb) (ha : (pa.length : Int) ≤ na) (hb : (pb.length : Int) ≤ nb) (hna : (pa.map (·.1)).Nodup) (k v : ByteArray) : Inc na (ptn na pa k v) (ptn nb pb k v) := by
  have hs := drp_sub h.1 k
  have hsl := hs.length_le
  have h1 := drp_le pa k
  have h2 := drp_le pb k
  have h3 := drp_ge hna k
  unfold ptn
  by_cases c1 : (((drp pa k).length : Nat) : Int) + 1 ≤ na
  · rw [if_pos c1]
    by_cases c2 : (((drp pb k).length : Nat) : Int) + 1 ≤ nb
    · rw [if_pos c2]
      refine ⟨hs.cons_cons _, ?_⟩
      rcases h.2 with e | e
      · left; simp; omega
      · right; rw [e]
    · exfalso
      have hB := drp_full (l := pb) (k := k) (by omega)
      have hA : drp pa k = pa := drp_self (fun y hy => hB y (h.1.subset hy))
      rw [hA] at c1 hsl
      rcases h.2 with e | e
      · omega
      · rw [← e, hA] at c2; omega
  · rw [if_neg c1]
    have hl : ((((k, v) :: drp pa k).dropLast.length : Nat) : Int) = na := by simp; omega
    by_cases c2 : (((drp pb k).length : Nat) : Int) + 1 ≤ nb
    · rw [if_pos c2]
      exact ⟨(List.dropLast_sublist _).trans (hs.cons_cons _), .inl hl⟩
    · rw [if_neg c2]
      exact ⟨dropLast_sub (hs.cons_cons _), .inl hl⟩
theorem inc_fnd (h : pa.Sublist pb) (hnb : (pb.map (·.1)).Nodup) (hf : fnd pa k = some v) : fnd pb k = some v :=
  fnd_mem (x := (k, v)) hnb (h.subset (fnd_some' hf))
theorem inc_get (h : Inc na pa pb) (hna : (pa.map (·.1)).Nodup) (hnb : (pb.map (·.1)).Nodup) (k : ByteArray) : Inc na (gt pa k) (gt pb k) := by
  have hs := drp_sub h.1 k
  have hg := gt_len hna k
  have h3 := drp_ge hna k
  unfold gt at hg ⊢
  cases hf : fnd pa k with
  | some v =>
    rw [hf] at hg
    rw [inc_fnd h.1 hnb hf]
    refine ⟨hs.cons_cons _, ?_⟩
    rcases h.2 with e | e
    · left
      simp only [List.length_cons] at hg ⊢
      omega
    · right; simp only [e]
  | none =>
    have hA := drp_self (fnd_none' hf)
    cases hf2 : fnd pb k with
    | none => exact h
    | some v =>
      rw [hA] at hs
      refine ⟨hs.cons _, .inl ?_⟩
      rcases h.2 with e | e
      · exact e
      · rw [e, hf2] at hf; cases hf
end
end Lr
end Go.Proofs.Ythmhihmbciigdaa
