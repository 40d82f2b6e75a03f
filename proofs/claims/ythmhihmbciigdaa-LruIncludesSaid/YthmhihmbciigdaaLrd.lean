/- The cache: plain lists of pairs; contracts of find, Peek, Len, Get, Drop. -/
import Derived.Test.YthmhihmbciigdaaLrc
import Derived.WalkSpells
namespace Go.Proofs.Ythmhihmbciigdaa
open Go.RowKit Go.Maps
set_option linter.unusedVariables false
set_option linter.unusedSimpArgs false
set_option maxRecDepth 100000
namespace Lr
abbrev PP := List (ByteArray × ByteArray)
/-- A key's value. -/
def fnd : PP → ByteArray → Option ByteArray
  | [], _ => none
  | x :: r, k => if x.1 = k then some x.2 else fnd r k
/-- Without a key. -/
def drp (l : PP) (k : ByteArray) : PP := l.filter (fun x => decide (x.1 ≠ k))
theorem fnd_none {l : List Nat} {ky vl : Nat → ByteArray} {k : ByteArray} (h : fnd (prs l ky vl) k = none) : ∀ x ∈ l, ky x ≠ k := by
  induction l with
  | nil => intro x hx; cases hx
  | cons a l ih =>
    intro x hx
    unfold prs at h
    rw [List.map_cons] at h
    unfold fnd at h
    by_cases e : ky a = k
    · rw [if_pos e] at h; cases h
    · rw [if_neg e] at h
      rcases List.mem_cons.1 hx with e2 | hx
      · rw [e2]; exact e
      · exact ih h x hx
theorem fnd_some {l : List Nat} {ky vl : Nat → ByteArray} {k v : ByteArray} (h : fnd (prs l ky vl) k = some v) : ∃ a p q, l = p ++ a :: q ∧ ky a = k ∧ vl a = v := by
  induction l with
  | nil => cases h
  | cons a l ih =>
    unfold prs at h
    rw [List.map_cons] at h
    unfold fnd at h
    by_cases e : ky a = k
    · rw [if_pos e] at h
      exact ⟨a, [], l, rfl, e, Option.some.inj h⟩
    · rw [if_neg e] at h
      obtain ⟨b, p, q, h1, h2, h3⟩ := ih h
      exact ⟨b, a :: p, q, by rw [h1]; rfl, h2, h3⟩
theorem drp_all {l : List Nat} {ky vl : Nat → ByteArray} {k : ByteArray} (h : ∀ x ∈ l, ky x ≠ k) : drp (prs l ky vl) k = prs l ky vl := by
  unfold drp
  rw [List.filter_eq_self]
  intro x hx
  obtain ⟨y, hy, rfl⟩ := List.mem_map.1 hx
  exact decide_eq_true (h y hy)
theorem drp_app (a b : PP) (k : ByteArray) : drp (a ++ b) k = drp a k ++ drp b k := List.filter_append ..
theorem prs_app (a b : List Nat) (ky vl : Nat → ByteArray) : prs (a ++ b) ky vl = prs a ky vl ++ prs b ky vl := List.map_append ..
theorem nd_mid {l : List Nat} {p q : List Nat} {a : Nat} {ky : Nat → ByteArray} (h : ((p ++ a :: q).map ky).Nodup) : (∀ x ∈ p ++ q, ky x ≠ ky a) ∧ ((p ++ q).map ky).Nodup := by
  have hp : ((p ++ a :: q).map ky).Perm ((a :: (p ++ q)).map ky) := List.Perm.map _ List.perm_middle
  have h2 := (hp.nodup_iff).1 h
  rw [List.map_cons, List.nodup_cons] at h2
  exact ⟨fun x hx e => h2.1 (e ▸ List.mem_map_of_mem hx), h2.2⟩
theorem drp_mid {p q : List Nat} {a : Nat} {ky vl : Nat → ByteArray} (h : ((p ++ a :: q).map ky).Nodup) : drp (prs (p ++ a :: q) ky vl) (ky a) = prs (p ++ q) ky vl := by
  have h1 := (nd_mid (l := []) h).1
  rw [prs_app, drp_app, prs_app, drp_all (fun x hx => h1 x (List.mem_append_left _ hx))]
  congr 1
  show drp ((ky a, vl a) :: prs q ky vl) (ky a) = _
  unfold drp
  rw [List.filter_cons]
  simp only [ne_eq, not_true, decide_false, Bool.false_eq_true, if_false]
  exact drp_all (fun x hx => h1 x (List.mem_append_right _ hx))
theorem mem_mid {p q : List Nat} {a : Nat} : a ∈ p ++ a :: q := List.mem_append_right _ (List.mem_cons_self ..)
theorem mid_iff {p q : List Nat} {a x : Nat} : x ∈ p ++ a :: q ↔ x ∈ a :: (p ++ q) := List.perm_middle.mem_iff
theorem Rg.mid {nx bk : Nat → Nat} {r a : Nat} {p q : List Nat} (h : Rg nx bk r (p ++ a :: q)) : a ∉ r :: (p ++ q) := by
  have h1 := h.nd
  rw [List.nodup_cons] at h1
  have h2 := (List.perm_middle.nodup_iff).1 h1.2
  rw [List.nodup_cons] at h2
  intro e
  rcases List.mem_cons.1 e with e | e
  · exact h1.1 (by rw [← e]; exact mem_mid)
  · exact h2.1 e
theorem KM.frm {w w1 : World} {m N : Nat} {l : List Nat} {ky : Nat → ByteArray} {S : Nat → Prop} (h : KM w m N l ky) (hf : Frm S w w1) (hs : ¬ S m) : KM w1 m N l ky := by
  obtain ⟨f, h1, h2⟩ := h
  exact ⟨f, h1.frm hf hs, h2⟩
theorem KM.perm {w : World} {m N : Nat} {l l' : List Nat} {ky : Nat → ByteArray} (h : KM w m N l ky) (hl : l.length = l'.length) (hm : ∀ x, x ∈ l ↔ x ∈ l') : KM w m N l' ky := by
  obtain ⟨f, h1, h2⟩ := h
  refine ⟨f, hl ▸ h1, fun k v => (h2 k v).trans ⟨fun ⟨x, hx, e⟩ => ⟨x, (hm x).1 hx, e⟩, fun ⟨x, hx, e⟩ => ⟨x, (hm x).2 hx, e⟩⟩⟩
theorem KM.yes {w : World} {m N : Nat} {l : List Nat} {ky : Nat → ByteArray} (h : KM w m N l ky) {a : Nat} (ha : a ∈ l) (hs : (ky a).size ≤ maxLen) :
    (Instr.lookup 89 (.map (some m)) (.string (ky a)) false).run Try.prog w = .ok (.pointer (some ⟨a, 0, none⟩)) w := by
  obtain ⟨f, h1, h2⟩ := h
  exact h1.look_yes keyS uB zB (keyOf_str hs) ((h2 _ _).2 ⟨a, ha, rfl, rfl⟩)
theorem KM.no {w : World} {m N : Nat} {l : List Nat} {ky : Nat → ByteArray} (h : KM w m N l ky) {k : ByteArray} (hn : ∀ x ∈ l, ky x ≠ k) (hs : k.size ≤ maxLen) :
    (Instr.lookup 89 (.map (some m)) (.string k) false).run Try.prog w = .ok (.pointer none) w := by
  obtain ⟨f, h1, h2⟩ := h
  refine h1.look_no keyS uB zB (keyOf_str hs) ?_
  cases hf : f (kl k) with
  | none => rfl
  | some v =>
    obtain ⟨x, hx, e, _⟩ := (h2 k v).1 hf
    exact absurd e (hn x hx)
section
variable {w w1 : World} {m r c N : Nat} {n : Int} {l p q : List Nat} {ky vl : Nat → ByteArray} {nx bk : Nat → Nat} {a : Nat} {S : Nat → Prop}
theorem At.frm (h : At w m r c n N l ky vl nx bk) (hf : Frm S w w1) (hs : ∀ k, fp m r c l k → ¬ S k) : At w1 m r c n N l ky vl nx bk :=
  ⟨hf.blk h.blk (hs _ (.inl rfl)), h.ring, h.nds.frm hf (fun x hx => hs x (.inr (.inr hx))), h.km.frm hf (hs _ (.inr (.inl rfl))), h.keys, h.sep⟩
theorem At.frm0 (h : At w m r c n N l ky vl nx bk) (hf : Frm0 w w1) : At w1 m r c n N l ky vl nx bk := h.frm hf (fun _ _ h => h)
set_option maxHeartbeats 1000000 in
theorem find_yes (h : At w m r c n N l ky vl nx bk) (ha : a ∈ l) (hs : (ky a).size ≤ maxLen) : Calls Try.prog 58 #[.pointer (some ⟨c, 0, none⟩), .string (ky a)] w fun e w' => e = .returned (.pointer (some ⟨a, 0, none⟩)) ∧ w = w' := by
  have hk := h.km.yes ha hs
  obtain ⟨c0, c1, c2⟩ := Bk.c3 h.blk
  clear h
  go_enter Try.func58, Try.ntmps58
  go_wp2
  go_ret
  exact ⟨rfl, rfl⟩
set_option maxHeartbeats 1000000 in
theorem find_no (h : At w m r c n N l ky vl nx bk) {k : ByteArray} (hn : ∀ x ∈ l, ky x ≠ k) (hs : k.size ≤ maxLen) : Calls Try.prog 58 #[.pointer (some ⟨c, 0, none⟩), .string k] w fun e w' => e = .returned (.pointer none) ∧ w = w' := by
  have hk := h.km.no hn hs
  obtain ⟨c0, c1, c2⟩ := Bk.c3 h.blk
  clear h hn
  go_enter Try.func58, Try.ntmps58
  go_wp2
  go_ret
  exact ⟨rfl, rfl⟩
theorem find_nil (k : ByteArray) (w : World) : Calls Try.prog 58 #[.pointer none, .string k] w fun e w' => e = .returned (.pointer none) ∧ w = w' := by
  go_enter Try.func58, Try.ntmps58
  go_wp2
  go_ret
  exact ⟨rfl, rfl⟩
theorem len_any (h : At w m r c n N l ky vl nx bk) : Calls Try.prog 35 #[.pointer (some ⟨c, 0, none⟩)] w fun e w' => e = .returned (.int .i64 l.length) ∧ w = w' := by
  have hl : ∀ ty, (Builtin.len_ #[89] ty #[.map (some m)]).run Try.prog w = .ok (.int .i64 l.length) w := by
    obtain ⟨f, h1, _⟩ := h.km
    exact fun ty => h1.len uB ty
  obtain ⟨c0, c1, c2⟩ := Bk.c3 h.blk
  clear h
  go_enter Try.func35, Try.ntmps35
  go_wp2
  go_ret
  exact ⟨rfl, rfl⟩
theorem len_nil (w : World) : Calls Try.prog 35 #[.pointer none] w fun e w' => e = .returned (.int .i64 0) ∧ w = w' := by
  go_enter Try.func35, Try.ntmps35
  go_wp2
  go_ret
  exact ⟨rfl, rfl⟩
end
end Lr
end Go.Proofs.Ythmhihmbciigdaa
