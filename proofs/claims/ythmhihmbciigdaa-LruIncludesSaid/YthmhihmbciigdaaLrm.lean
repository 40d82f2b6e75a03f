/- The cache, by what it holds. -/
import Derived.Test.YthmhihmbciigdaaLrl
namespace Go.Proofs.Ythmhihmbciigdaa
open Go.RowKit Go.Maps
set_option linter.unusedVariables false
set_option linter.unusedSimpArgs false
set_option maxRecDepth 100000
namespace Lr
/-- The cache at c holds ps, its blocks are in U. -/
def Ca (w : World) (m r c : Nat) (n : Int) (N : Nat) (ps : PP) (U : Nat → Prop) : Prop :=
  ∃ N' l ky vl nx bk, N' ≤ N ∧ At w m r c n N' l ky vl nx bk ∧ prs l ky vl = ps ∧ (∀ x ∈ l, (ky x).size ≤ 30) ∧ ∀ k, fp m r c l k → U k
theorem prs_len (l : List Nat) (ky vl : Nat → ByteArray) : (prs l ky vl).length = l.length := List.length_map ..
theorem prs_fst (l : List Nat) (ky vl : Nat → ByteArray) : (prs l ky vl).map (·.1) = l.map ky := by unfold prs; rw [List.map_map]; rfl
theorem prs_congr {l : List Nat} {ky vl ky2 vl2 : Nat → ByteArray} (h : ∀ x ∈ l, ky x = ky2 x ∧ vl x = vl2 x) : prs l ky vl = prs l ky2 vl2 :=
  List.map_congr_left (fun x hx => by rw [(h x hx).1, (h x hx).2])
def pk (ps : PP) (k : ByteArray) : ByteArray × Bool := match fnd ps k with
  | some v => (v, true)
  | none => (⟨#[]⟩, false)
def gt (ps : PP) (k : ByteArray) : PP := match fnd ps k with
  | some v => (k, v) :: drp ps k
  | none => ps
theorem kmax {b : ByteArray} (h : b.size ≤ 30) : b.size ≤ maxLen := by unfold maxLen; omega
section
variable {w w1 : World} {m r c N : Nat} {n : Int} {ps : PP} {k : ByteArray} {U S : Nat → Prop}
theorem Ca.frm0 (h : Ca w m r c n N ps U) (hf : Frm0 w w1) : Ca w1 m r c n N ps U := by
  obtain ⟨N', l, ky, vl, nx, bk, hN, hA, h1, h2, h3⟩ := h
  exact ⟨N', l, ky, vl, nx, bk, hN, hA.frm0 hf, h1, h2, h3⟩
theorem Ca.frm (h : Ca w m r c n N ps U) (hf : Frm S w w1) (hs : ∀ k, U k → ¬ S k) : Ca w1 m r c n N ps U := by
  obtain ⟨N', l, ky, vl, nx, bk, hN, hA, h1, h2, h3⟩ := h
  exact ⟨N', l, ky, vl, nx, bk, hN, hA.frm hf (fun k hk => hs k (h3 k hk)), h1, h2, h3⟩
theorem Ca.mono {V : Nat → Prop} {M : Nat} (h : Ca w m r c n N ps U) (hm : N ≤ M) (hv : ∀ k, U k → k < w.heap.size → V k) : Ca w m r c n M ps V := by
  obtain ⟨N', l, ky, vl, nx, bk, hN, hA, h1, h2, h3⟩ := h
  refine ⟨N', l, ky, vl, nx, bk, Nat.le_trans hN hm, hA, h1, h2, fun k hk => hv k (h3 k hk) ?_⟩
  rcases hk with rfl | rfl | hk
  · exact Bk.lt hA.blk
  · obtain ⟨f, h1, _⟩ := hA.km; exact h1.lt
  · exact hA.nds.lt hk
theorem Ca.nodup (h : Ca w m r c n N ps U) : (ps.map (·.1)).Nodup := by
  obtain ⟨N', l, ky, vl, nx, bk, hN, hA, rfl, h2, h3⟩ := h
  rw [prs_fst]; exact hA.keys
theorem Ca.keys30 (h : Ca w m r c n N ps U) : ∀ x ∈ ps, x.1.size ≤ 30 := by
  obtain ⟨N', l, ky, vl, nx, bk, hN, hA, rfl, h2, h3⟩ := h
  intro x hx
  obtain ⟨y, hy, rfl⟩ := List.mem_map.1 hx
  exact h2 y hy
theorem ca_new (n : Int) (w : World) : Calls Try.prog 25 #[.int .i64 n] w fun e w' => e = .returned (.pointer (some ⟨w.heap.size + 2, 0, none⟩)) ∧ Ca w' (w.heap.size + 1) w.heap.size (w.heap.size + 2) (mostI n) 0 [] (fun k => w.heap.size ≤ k) ∧ Frm0 w w' :=
  (new_any n w).mono fun e w' ⟨he, hA, hf⟩ => ⟨he, ⟨0, [], _, _, _, _, Nat.le_refl _, hA, rfl, fun x hx => (by cases hx), fun k hk => by
    rcases hk with rfl | rfl | hk
    · exact Nat.le_add_right _ _
    · exact Nat.le_add_right _ _
    · exact Nat.le_of_eq (List.mem_singleton.1 hk).symm⟩, hf⟩
theorem ca_peek (h : Ca w m r c n N ps U) (hk : k.size ≤ 30) : Calls Try.prog 29 #[.pointer (some ⟨c, 0, none⟩), .string k] w fun e w' => e = .returned (.tuple #[.string (pk ps k).1, .bool (pk ps k).2]) ∧ w = w' := by
  obtain ⟨N', l, ky, vl, nx, bk, hN, hA, rfl, h2, h3⟩ := h
  unfold pk
  cases hf : fnd (prs l ky vl) k with
  | none => exact peek_of (find_no hA (fnd_none hf) (kmax hk))
  | some v =>
    obtain ⟨a, p, q, rfl, rfl, rfl⟩ := fnd_some hf
    exact peek_yes hA mem_mid (kmax hk)
theorem ca_get (h : Ca w m r c n N ps U) (hk : k.size ≤ 30) : Calls Try.prog 27 #[.pointer (some ⟨c, 0, none⟩), .string k] w fun e w' => e = .returned (.tuple #[.string (pk ps k).1, .bool (pk ps k).2]) ∧ Ca w' m r c n N (gt ps k) U ∧ Frm U w w' := by
  obtain ⟨N', l, ky, vl, nx, bk, hN, hA, rfl, h2, h3⟩ := h
  unfold pk gt
  cases hf : fnd (prs l ky vl) k with
  | none =>
    refine (get_of (find_no hA (fnd_none hf) (kmax hk))).mono ?_
    rintro e w' ⟨rfl, rfl⟩
    exact ⟨rfl, ⟨N', l, ky, vl, nx, bk, hN, hA, rfl, h2, h3⟩, Frm.refl _ _⟩
  | some v =>
    obtain ⟨a, p, q, rfl, rfl, rfl⟩ := fnd_some hf
    refine (get_yes hA (kmax hk)).mono ?_
    rintro e w' ⟨rfl, ⟨nx', bk', hA'⟩, hf'⟩
    refine ⟨rfl, ⟨N', _, ky, vl, nx', bk', hN, hA', ?_, fun x hx => h2 x (mid_iff.2 hx), fun k hk => h3 k ?_⟩, hf'.mono (fun i _ hi => h3 i (.inr (.inr hi)))⟩
    · rw [drp_mid hA.keys]; rfl
    · rcases hk with e | e | e
      · exact .inl e
      · exact .inr (.inl e)
      · rcases List.mem_cons.1 e with e | e
        · exact .inr (.inr (e ▸ List.mem_cons_self ..))
        · exact .inr (.inr (List.mem_cons_of_mem _ (mid_iff.2 e)))
theorem ca_drop (h : Ca w m r c n N ps U) (hk : k.size ≤ 30) : Calls Try.prog 30 #[.pointer (some ⟨c, 0, none⟩), .string k] w fun e w' => e = .returned (.bool (pk ps k).2) ∧ Ca w' m r c n N (drp ps k) U ∧ Frm U w w' := by
  obtain ⟨N', l, ky, vl, nx, bk, hN, hA, rfl, h2, h3⟩ := h
  unfold pk
  cases hf : fnd (prs l ky vl) k with
  | none =>
    refine (drop_of (find_no hA (fnd_none hf) (kmax hk))).mono ?_
    rintro e w' ⟨rfl, rfl⟩
    exact ⟨rfl, ⟨N', l, ky, vl, nx, bk, hN, hA, (drp_all (fnd_none hf)).symm, h2, h3⟩, Frm.refl _ _⟩
  | some v =>
    obtain ⟨a, p, q, rfl, rfl, rfl⟩ := fnd_some hf
    refine (drop_yes hA (kmax hk)).mono ?_
    rintro e w' ⟨rfl, ⟨nx', bk', hA'⟩, hf'⟩
    refine ⟨rfl, ⟨N', _, ky, vl, nx', bk', hN, hA', (drp_mid hA.keys).symm, fun x hx => h2 x (mem_erase_mid hx), fun k hk => h3 k ?_⟩, hf'.mono (fun i _ hi => h3 i (by
      rcases hi with e | e
      · exact .inr (.inl e)
      · exact .inr (.inr e)))⟩
    rcases hk with e | e | e
    · exact .inl e
    · exact .inr (.inl e)
    · rcases List.mem_cons.1 e with e | e
      · exact .inr (.inr (e ▸ List.mem_cons_self ..))
      · exact .inr (.inr (List.mem_cons_of_mem _ (mem_erase_mid e)))
theorem ca_keys (h : Ca w m r c n N ps U) (hl : ps.length ≤ 1000) : Calls Try.prog 34 #[.pointer (some ⟨c, 0, none⟩)] w fun e w' => ∃ v, e = .returned v ∧ w'.ownsRow w.heap.size 9 1 v ps.length (strs (ps.map (·.1))) ∧ Frm0 w w' := by
  obtain ⟨N', l, ky, vl, nx, bk, hN, hA, rfl, h2, h3⟩ := h
  rw [prs_len] at hl ⊢
  rw [prs_fst]
  exact keys_any hA hl
theorem ca_len (h : Ca w m r c n N ps U) : Calls Try.prog 35 #[.pointer (some ⟨c, 0, none⟩)] w fun e w' => e = .returned (.int .i64 ps.length) ∧ w = w' := by
  obtain ⟨N', l, ky, vl, nx, bk, hN, hA, rfl, h2, h3⟩ := h
  rw [prs_len]
  exact len_any hA
theorem ca_put (h : Ca w m r c n N ps U) (hk : k.size ≤ 30) (hN : N < 1000000) (hp : (ps.length : Int) ≤ n) (hn : n ≤ 100) (v : ByteArray) : Calls Try.prog 32 #[.pointer (some ⟨c, 0, none⟩), .string k, .string v] w fun e w' =>
    (((((drp ps k).length : Nat) : Int) + 1 ≤ n ∧ e = .returned (.tuple #[.string ⟨#[]⟩, .bool false]) ∧ Ca w' m r c n (N + 1) ((k, v) :: drp ps k) (fun i => U i ∨ i = w.heap.size)) ∨
      (n < (((drp ps k).length : Nat) : Int) + 1 ∧ ∃ p z, (k, v) :: drp ps k = p ++ [z] ∧ e = .returned (.tuple #[.string z.1, .bool true]) ∧ Ca w' m r c n (N + 1) p (fun i => U i ∨ i = w.heap.size))) ∧ Frm U w w' := by
  obtain ⟨N', l, ky, vl, nx, bk, hN', hA, rfl, h2, h3⟩ := h
  rw [prs_len] at hp
  cases hf : fnd (prs l ky vl) k with
  | none =>
    have hno := fnd_none hf
    rw [drp_all hno, prs_len]
    have hal : w.heap.size ∉ l := fun hx => Nat.lt_irrefl _ (hA.nds.lt (List.mem_cons_of_mem _ hx))
    have hxa : ∀ x ∈ l, x ≠ w.heap.size := fun x hx e => hal (e ▸ hx)
    have hpr : prs (w.heap.size :: l) (updv ky w.heap.size k) (updv vl w.heap.size v) = (k, v) :: prs l ky vl := by
      unfold prs
      rw [List.map_cons, updv_same, updv_same]
      congr 1
      exact List.map_congr_left (fun x hx => by rw [updv_ne _ _ (hxa x hx), updv_ne _ _ (hxa x hx)])
    have hz : ∀ x ∈ w.heap.size :: l, (updv ky w.heap.size k x).size ≤ 30 := fun x hx => by
      rcases List.mem_cons.1 hx with rfl | hx
      · rw [updv_same]; exact hk
      · rw [updv_ne _ _ (hxa x hx)]; exact h2 x hx
    have hfp : ∀ i, fp m r c (w.heap.size :: l) i → U i ∨ i = w.heap.size := fun i hi => by
      rcases hi with e | e | e
      · exact .inl (h3 i (.inl e))
      · exact .inl (h3 i (.inr (.inl e)))
      · rcases List.mem_cons.1 e with e | e
        · exact .inl (h3 i (.inr (.inr (e ▸ List.mem_cons_self ..))))
        · rcases List.mem_cons.1 e with e | e
          · exact .inr e
          · exact .inl (h3 i (.inr (.inr (List.mem_cons_of_mem _ e))))
    refine (put_no hA hno (kmax hk) (fun x hx => kmax (h2 x hx)) (by omega) (by omega) rfl).mono ?_
    rintro e w' ⟨hle, hgt, hf'⟩
    refine ⟨?_, hf'.mono (fun i _ hi => h3 i (.inr hi))⟩
    by_cases hc : (l.length : Int) + 1 ≤ n
    · obtain ⟨rfl, nx', bk', hA'⟩ := hle hc
      exact .inl ⟨hc, rfl, N' + 1, _, _, _, nx', bk', by omega, hA', hpr, hz, hfp⟩
    · obtain ⟨p, z, hpz, rfl, nx', bk', hA'⟩ := hgt (by omega)
      have hsub : ∀ x ∈ p, x ∈ w.heap.size :: l := fun x hx => by rw [hpz]; exact List.mem_append_left _ hx
      refine .inr ⟨by omega, prs p (updv ky w.heap.size k) (updv vl w.heap.size v), (_, updv vl w.heap.size v z), ?_, rfl, N' + 1, p, _, _, nx', bk', by omega, hA', rfl, fun x hx => hz x (hsub x hx), fun i hi => hfp i ?_⟩
      · rw [← hpr, hpz, prs_app]; rfl
      · rcases hi with e | e | e
        · exact .inl e
        · exact .inr (.inl e)
        · rcases List.mem_cons.1 e with e | e
          · exact .inr (.inr (e ▸ List.mem_cons_self ..))
          · exact .inr (.inr (List.mem_cons_of_mem _ (hsub _ e)))
  | some v0 =>
    obtain ⟨a, p, q, rfl, rfl, rfl⟩ := fnd_some hf
    have han : a ∉ p ++ q := fun e => hA.ring.mid (List.mem_cons_of_mem _ e)
    rw [drp_mid hA.keys, prs_len]
    have hxa : ∀ x ∈ p ++ q, x ≠ a := fun x hx e => han (e ▸ hx)
    have hlq : (p ++ a :: q).length = (p ++ q).length + 1 := by rw [List.length_append, List.length_cons, List.length_append]; omega
    refine (put_yes hA (kmax hk) v).mono ?_
    rintro e w' ⟨rfl, ⟨nx', bk', hA'⟩, hf'⟩
    refine ⟨.inl ⟨by omega, rfl, N', _, ky, updv vl a v, nx', bk', by omega, hA', ?_, fun x hx => h2 x (mid_iff.2 hx), fun i hi => .inl (h3 i ?_)⟩, hf'.mono (fun i _ hi => h3 i (.inr (.inr hi)))⟩
    · unfold prs
      rw [List.map_cons, updv_same]
      congr 1
      exact List.map_congr_left (fun x hx => by rw [updv_ne _ _ (hxa x hx)])
    · rcases hi with e | e | e
      · exact .inl e
      · exact .inr (.inl e)
      · rcases List.mem_cons.1 e with e | e
        · exact .inr (.inr (e ▸ List.mem_cons_self ..))
        · exact .inr (.inr (List.mem_cons_of_mem _ (mid_iff.2 e)))
end
end Lr
end Go.Proofs.Ythmhihmbciigdaa
