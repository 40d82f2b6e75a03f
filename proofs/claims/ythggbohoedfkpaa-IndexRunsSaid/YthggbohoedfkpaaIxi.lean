/- The index's methods: After, Of. -/
import Derived.Test.YthggbohoedfkpaaIxh
namespace Go.Proofs.Ythggbohoedfkpaa
open Go.RowKit
set_option linter.unusedVariables false
set_option linter.unusedSimpArgs false
set_option maxRecDepth 100000
namespace Ix
theorem min_is2 (a b c : Int) (h : (if b < a then b else a) = c) : ∀ ats ty, Builtin.min_ ats ty #[.int .i64 a, .int .i64 b] = pure (.int .i64 c) := fun ats ty => by
  subst h; simp only [Builtin.min_, List.foldlM_cons, List.foldlM_nil, Builtin.min2, gt_iff_lt]; rfl
theorem sl_sub {w : World} {g o n c : Nat} {l : List En} (hs : Sl w (.slice (some ⟨g, o, none⟩) n c) n (ecs l)) (hn : l.length = n) (i m c' : Nat) (hm : 0 < m) (him : i + m ≤ n) (hc : m ≤ c' ∧ c' ≤ maxLen) : Sl w (.slice (some ⟨g, o + i * 14, none⟩) m c') m (ecs ((l.drop i).take m)) := by
  rcases hs with ⟨A', c2, h1, h2, _⟩ | ⟨g', o', c2, h1, h0, h2, h3, h4, h5⟩
  · omega
  · cases h1
    refine .inr ⟨g, o + i * 14, c', rfl, hm, hc.1, hc.2, h4, fun j u hj => ?_⟩
    rw [Nat.add_assoc]
    refine h5 _ u ?_
    rw [ecs_take _ _ (by rw [List.length_drop]; omega), ecs_drop _ _ (by omega)] at hj
    rw [List.getElem?_take, List.getElem?_drop] at hj
    split at hj
    · exact hj
    · cases hj
theorem tw_take {α : Type} (P : α → Bool) : ∀ (r : List α) (m : Nat), m ≤ r.length → (∀ j (hj : j < r.length), j < m → P r[j] = true) → (∀ h : m < r.length, P r[m] = false) → r.takeWhile P = r.take m
  | [], m, _, _, _ => by simp
  | a :: r, 0, _, _, h => by
    have := h (by simp)
    rw [List.takeWhile_cons_of_neg (by simpa using this)]
    rfl
  | a :: r, m + 1, hm, h1, h2 => by
    have h0 := h1 0 (by simp) (by omega)
    rw [List.takeWhile_cons_of_pos (by simpa using h0), List.take_succ_cons, tw_take P r m (by simpa using hm) (fun j hj hjm => by have := h1 (j + 1) (by simpa using hj) (by omega); simpa using this) (fun h => by have := h2 (by simpa using h); simpa using this)]
theorem nil_list : (⟨#[]⟩ : ByteArray).toList = [] := by rw [ByteArray.toList_eq]
theorem ecs_snoc (l : List En) (p q : Nat) (hp : p ≤ q) (hq : q < l.length) : ecs ((l.drop p).take (q + 1 - p)) = ecs ((l.drop p).take (q - p)) ++ (l[q]).cells := by
  have e : (l.drop p).take (q + 1 - p) = (l.drop p).take (q - p) ++ [l[q]] := by
    rw [show q + 1 - p = (q - p) + 1 by omega, List.take_add_one, List.getElem?_drop, show p + (q - p) = q by omega, List.getElem?_eq_getElem hq]
    rfl
  rw [e, ecs_app]
  simp [ecs]
section
variable {w w1 : World}
set_option maxHeartbeats 4000000 in
theorem after_any (xb : Nat) (v : Value) (l : List En) (t : Int) (k : ByteArray) (n : Int) (hn : (Lit.int .i64 n).wf = true) (w : World) (h : At w xb v l) :
    Calls Try.prog 27 #[.pointer (some ⟨xb, 0, none⟩), .int .i64 t, .string k, .int .i64 n] w fun e_ w' => ∃ v', e_ = .returned v' ∧ w'.ownsRow w.heap.size 52 14 v' (aft En.nm l (t, k.toList) n.toNat).length (ecs (aft En.nm l (t, k.toList) n.toNat)) ∧ Frm0 w w' := by
  have haft : aft En.nm l (t, k.toList) n.toNat = (l.drop (place En.nm l (t, k.toList) + if found En.nm l (t, k.toList) = true then 1 else 0)).take n.toNat := by
    unfold aft
    rw [filter_after En.nm h.sorted]
  have hple := place_le En.nm l (t, k.toList)
  have hll := h.len
  obtain ⟨q, hq⟩ : ∃ q, place En.nm l (t, k.toList) + (if found En.nm l (t, k.toList) = true then 1 else 0) = q := ⟨_, rfl⟩
  rw [hq] at haft
  have hql : q ≤ l.length := by
    cases hfd : found En.nm l (t, k.toList)
    · rw [hfd] at hq; simp at hq; omega
    · have := found_lt En.nm hfd; rw [hfd] at hq; simp at hq; omega
  have HAFT := Lib.hid haft
  clear haft
  have d0 : n < 1 ∨ ¬ n < 1 := by omega
  go_enter Try.func27, Try.ntmps27
  go_wp2_with fail
  refine (find_any xb v l t k _ h).mono ?_
  rintro e2 w2 ⟨rfl, hf2⟩
  have hA2 := h.frm0 hf2
  clear h
  cases hfd : found En.nm l (t, k.toList)
  · rw [hfd] at hq
    have hq : place En.nm l (t, k.toList) = q := by simpa using hq
    rw [hq]
    clear hq hfd
    go_upto_region 4 with (fail)
    by_cases hn1 : n < 1
    · have d1 : decide (n < 1) = true := decide_eq_true hn1
      have hnil : aft En.nm l (t, k.toList) n.toNat = [] := by rw [HAFT.out, show n.toNat = 0 by omega, List.take_zero]
      have HN := Lib.hid hnil
      clear hnil
      go_wp2
      go_ret
      exact ⟨_, rfl, by rw [HN.out]; exact World.ownsRow_nil _ _ _ _, hf2⟩
    · have d1 : decide (n < 1) = false := decide_eq_false hn1
      go_wp2_with fail
      refine (len_any xb v l _ hA2).mono ?_
      rintro e1 w1 ⟨rfl, rfl⟩
      by_cases hge : l.length ≤ q
      · have d2 : decide ((l.length : Int) ≤ (q : Int)) = true := decide_eq_true (by omega)
        have d3 : decide (l.length ≤ q) = true := decide_eq_true hge
        have hnil : aft En.nm l (t, k.toList) n.toNat = [] := by rw [HAFT.out, List.drop_eq_nil_of_le hge, List.take_nil]
        have HN := Lib.hid hnil
        clear hnil
        go_wp2
        go_ret
        exact ⟨_, rfl, by rw [HN.out]; exact World.ownsRow_nil _ _ _ _, hf2⟩
      · have d2 : decide ((l.length : Int) ≤ (q : Int)) = false := decide_eq_false (by omega)
        have d3 : decide (l.length ≤ q) = false := decide_eq_false hge
        have hqlt : q < l.length := by omega
        obtain ⟨A, c, rfl⟩ := owns_nil_form' hA2.row
        obtain ⟨g, o, rfl⟩ := sl_base hA2.sl (by omega)
        obtain ⟨g', c', he'⟩ : ∃ g' c', (Value.slice (some ⟨g, o, none⟩) l.length c) = .slice (some ⟨g', 0, none⟩) l.length c' := by
          rcases hA2.row.2 with ⟨h0, _⟩ | ⟨g', cap', cur', h0, _⟩
          · cases h0
          · exact ⟨_, _, h0⟩
        cases he'
        have hlcm : l.length ≤ c ∧ c ≤ maxLen := by
          rcases hA2.row.2 with ⟨h0, _⟩ | ⟨g', cap', cur', h0, _, _, hlc, hcm, _⟩
          · cases h0
          · cases h0; exact ⟨hlc, hcm⟩
        obtain ⟨hlc, hcm⟩ := hlcm
        obtain ⟨m, hm⟩ : ∃ m, min n.toNat (l.length - q) = m := ⟨_, rfl⟩
        have hmi := min_is2 n ((l.length : Int) - (q : Int)) (m : Int) (by split <;> omega)
        have hm0 : 0 < m := by omega
        have hmq : q + m ≤ l.length := by omega
        have hres : aft En.nm l (t, k.toList) n.toNat = (l.drop q).take m := by
          rw [HAFT.out, ← hm]
          rcases Nat.le_total n.toNat (l.length - q) with h1 | h1
          · rw [Nat.min_eq_left h1]
          · rw [Nat.min_eq_right h1, List.take_of_length_le (by rw [List.length_drop]; exact h1), List.take_of_length_le (by rw [List.length_drop]; omega)]
        have hrl : ((l.drop q).take m).length = m := by rw [List.length_take, List.length_drop]; omega
        have HC := Lib.hid (fun (w9 : World) (hf : Frm0 w2 w9) => show w9.cell? ⟨xb, 0, none⟩ = some (.slice (some ⟨g, 0, none⟩) l.length c) by rw [Bk.cell (hf.blk hA2.blk (fun h => h))]; rfl)
        have hsub := sl_sub (hA2.sl) rfl q m (c - q) hm0 hmq (by omega)
        rw [Nat.zero_add] at hsub
        have HCL := Lib.hid (clone_any (.slice (some ⟨g, q * 14, none⟩) m (c - q)) m (ecs ((l.drop q).take m)) w2.drew (hsub.frm0 ((Frm.refl _ w2).drew)) (by rw [ecs_len, hrl]) (ecs_one _) (by omega))
        have HRES := Lib.hid hres
        have HRL := Lib.hid hrl
        have hwa : IntKind.i64.wrap ((l.length : Int) - (q : Int)) = (l.length : Int) - (q : Int) := by rw [IntKind.wrap_i64]; omega
        have hwb : IntKind.i64.wrap ((q : Int) + (m : Int)) = (q : Int) + (m : Int) := by rw [IntKind.wrap_i64]; omega
        have hb1 : (0 : Int) ≤ (q : Int) := by omega
        have hb2 : (q : Int) ≤ (q : Int) + (m : Int) := by omega
        have hb3 : (q : Int) + (m : Int) ≤ (c : Int) := by omega
        have hb4 : ¬ c = q := by omega
        have hb5 : ((q : Int) + (m : Int)).toNat = q + m := by omega
        have hb6 : q + m - q = m := by omega
        clear hres hrl hsub hm hA2 d2 d3 hge d0
        go_upto_region 6 with (fail)
        refine wp_region_held_drew (S := fun w9 => Frm0 w2 w9) (by kernel_rfl) ((Frm.refl (fun _ => False) _).drew) (fun hHeld => ?_)
        refine wpAnyH_take (i := 0) (v := ?_) rfl (by kernel_rfl) (by kernel_rfl) (by kernel_rfl) (fun _ _ _ h => h) (Or.inl ⟨by rfl, ?_⟩) (by assumption) ?_
        rotate_left 1
        focus (intro w hSw; (try dsimp only at hSw); have c0 := HC.out _ hSw; go_simp; (try with_reducible rfl))
        (try simp only [Act.put, List.getElem_toArray, List.getElem_cons_succ, List.getElem_cons_zero, List.setIfInBounds_toArray, List.set_cons_zero, List.set_cons_succ])
        refine wpAnyH_take (i := 1) (v := ?_) rfl (by kernel_rfl) (by kernel_rfl) (by kernel_rfl) (fun _ _ _ h => h) (Or.inl ⟨by rfl, ?_⟩) (by assumption) ?_
        rotate_left 1
        focus (intro w hSw; (try dsimp only at hSw); have c0 := HC.out _ hSw; go_simp; (try with_reducible rfl))
        (try simp only [Act.put, List.getElem_toArray, List.getElem_cons_succ, List.getElem_cons_zero, List.setIfInBounds_toArray, List.set_cons_zero, List.set_cons_succ])
        refine wpAnyH_take (i := 2) (v := ?_) rfl (by kernel_rfl) (by kernel_rfl) (by kernel_rfl) (fun _ _ _ h => h) (Or.inl ⟨by rfl, ?_⟩) (by assumption) ?_
        rotate_left 1
        focus (intro w hSw; (try dsimp only at hSw); have c0 := HC.out _ hSw; go_simp; (try with_reducible rfl))
        (try simp only [Act.put, List.getElem_toArray, List.getElem_cons_succ, List.getElem_cons_zero, List.setIfInBounds_toArray, List.set_cons_zero, List.set_cons_succ])
        refine wpAnyH_take (i := 3) (v := ?_) rfl (by kernel_rfl) (by kernel_rfl) (by kernel_rfl) (fun _ _ _ h => h) (Or.inl ⟨by rfl, ?_⟩) (by assumption) ?_
        rotate_left 1
        focus (intro w hSw; (try dsimp only at hSw); have c0 := HC.out _ hSw; go_simp; (try with_reducible rfl))
        (try simp only [Act.put, List.getElem_toArray, List.getElem_cons_succ, List.getElem_cons_zero, List.setIfInBounds_toArray, List.set_cons_zero, List.set_cons_succ])
        refine wpAnyH_take (i := 4) (v := ?_) rfl (by kernel_rfl) (by kernel_rfl) (by kernel_rfl) (fun _ _ _ h => h) (Or.inl ⟨by rfl, ?_⟩) (by assumption) ?_
        rotate_left 1
        focus (intro w hSw; (try dsimp only at hSw); have c0 := HC.out _ hSw; go_simp; (try with_reducible rfl))
        (try simp only [Act.put, List.getElem_toArray, List.getElem_cons_succ, List.getElem_cons_zero, List.setIfInBounds_toArray, List.set_cons_zero, List.set_cons_succ])
        refine wpAnyH_take (i := 5) (v := ?_) rfl (by kernel_rfl) (by kernel_rfl) (by kernel_rfl) (fun _ _ _ h => h) (Or.inl ⟨by rfl, ?_⟩) (by assumption) ?_
        rotate_left 1
        focus (intro w hSw; (try dsimp only at hSw); have c0 := HC.out _ hSw; go_simp; (try with_reducible rfl))
        (try simp only [Act.put, List.getElem_toArray, List.getElem_cons_succ, List.getElem_cons_zero, List.setIfInBounds_toArray, List.set_cons_zero, List.set_cons_succ])
        refine wpAnyH_take (i := 6) (v := ?_) rfl (by kernel_rfl) (by kernel_rfl) (by kernel_rfl) (fun _ _ _ h => h) (Or.inl ⟨by rfl, ?_⟩) (by assumption) ?_
        rotate_left 1
        focus (intro w hSw; (try dsimp only at hSw); have c0 := HC.out _ hSw; go_simp; (try with_reducible rfl))
        (try simp only [Act.put, List.getElem_toArray, List.getElem_cons_succ, List.getElem_cons_zero, List.setIfInBounds_toArray, List.set_cons_zero, List.set_cons_succ])
        refine wpAnyH_take (i := 7) (v := ?_) rfl (by kernel_rfl) (by kernel_rfl) (by kernel_rfl) (fun _ _ _ h => h) (Or.inl ⟨by rfl, ?_⟩) (by assumption) ?_
        rotate_left 1
        focus (intro w hSw; (try dsimp only at hSw); have c0 := HC.out _ hSw; go_simp; (try with_reducible rfl))
        (try simp only [Act.put, List.getElem_toArray, List.getElem_cons_succ, List.getElem_cons_zero, List.setIfInBounds_toArray, List.set_cons_zero, List.set_cons_succ])
        refine wpAnyH_take (i := 8) (v := ?_) rfl (by kernel_rfl) (by kernel_rfl) (by kernel_rfl) (fun _ _ _ h => h) (Or.inl ⟨by rfl, ?_⟩) (by assumption) ?_
        rotate_left 1
        focus (intro w hSw; (try dsimp only at hSw); have c0 := HC.out _ hSw; go_simp; (try with_reducible rfl))
        (try simp only [Act.put, List.getElem_toArray, List.getElem_cons_succ, List.getElem_cons_zero, List.setIfInBounds_toArray, List.set_cons_zero, List.set_cons_succ])
        refine wpAnyH_take (i := 9) (v := ?_) rfl (by kernel_rfl) (by kernel_rfl) (by kernel_rfl) (fun _ _ _ h => h) (Or.inl ⟨by rfl, ?_⟩) (by assumption) ?_
        rotate_left 1
        focus (intro w hSw; (try dsimp only at hSw); have c0 := HC.out _ hSw; go_simp; (try with_reducible rfl))
        (try simp only [Act.put, List.getElem_toArray, List.getElem_cons_succ, List.getElem_cons_zero, List.setIfInBounds_toArray, List.set_cons_zero, List.set_cons_succ])
        refine wpAnyH_take (i := 10) (v := ?_) rfl (by kernel_rfl) (by kernel_rfl) (by kernel_rfl) (fun _ _ _ h => h) (Or.inl ⟨by rfl, ?_⟩) (by assumption) ?_
        rotate_left 1
        focus (intro w hSw; (try dsimp only at hSw); have c0 := HC.out _ hSw; go_simp; (try with_reducible rfl))
        (try simp only [Act.put, List.getElem_toArray, List.getElem_cons_succ, List.getElem_cons_zero, List.setIfInBounds_toArray, List.set_cons_zero, List.set_cons_succ])
        refine wpAnyH_take (i := 11) (v := ?_) rfl (by kernel_rfl) (by kernel_rfl) (by kernel_rfl) (fun _ _ _ h => h) (Or.inl ⟨by rfl, ?_⟩) (by assumption) ?_
        rotate_left 1
        focus (intro w hSw; (try dsimp only at hSw); have c0 := HC.out _ hSw; go_simp; (try with_reducible rfl))
        (try simp only [Act.put, List.getElem_toArray, List.getElem_cons_succ, List.getElem_cons_zero, List.setIfInBounds_toArray, List.set_cons_zero, List.set_cons_succ])
        refine wpAnyH_take (i := 12) (v := ?_) rfl (by kernel_rfl) (by kernel_rfl) (by kernel_rfl) (fun _ _ _ h => h) (Or.inl ⟨by rfl, ?_⟩) (by assumption) ?_
        rotate_left 1
        focus (intro w hSw; (try dsimp only at hSw); have c0 := HC.out _ hSw; go_simp; (try with_reducible rfl))
        (try simp only [Act.put, List.getElem_toArray, List.getElem_cons_succ, List.getElem_cons_zero, List.setIfInBounds_toArray, List.set_cons_zero, List.set_cons_succ])
        refine wpAnyH_take (i := 13) (v := ?_) rfl (by kernel_rfl) (by kernel_rfl) (by kernel_rfl) (fun _ _ _ h => h) (Or.inl ⟨by rfl, ?_⟩) (by assumption) ?_
        rotate_left 1
        focus (intro w hSw; (try dsimp only at hSw); have c0 := HC.out _ hSw; go_simp; (try with_reducible rfl))
        (try simp only [Act.put, List.getElem_toArray, List.getElem_cons_succ, List.getElem_cons_zero, List.setIfInBounds_toArray, List.set_cons_zero, List.set_cons_succ])
        refine wpAnyH_take (i := 14) (v := ?_) rfl (by kernel_rfl) (by kernel_rfl) (by kernel_rfl) (fun _ _ _ h => h) (Or.inl ⟨by rfl, ?_⟩) (by assumption) ?_
        rotate_left 1
        focus (intro w hSw; (try dsimp only at hSw); have c0 := HC.out _ hSw; go_simp; (try with_reducible rfl))
        (try simp only [Act.put, List.getElem_toArray, List.getElem_cons_succ, List.getElem_cons_zero, List.setIfInBounds_toArray, List.set_cons_zero, List.set_cons_succ])
        refine wpAnyH_take (i := 15) (v := ?_) rfl (by kernel_rfl) (by kernel_rfl) (by kernel_rfl) (fun _ _ _ h => h) (Or.inl ⟨by rfl, ?_⟩) (by assumption) ?_
        rotate_left 1
        focus (intro w hSw; (try dsimp only at hSw); have c0 := HC.out _ hSw; go_simp; (try with_reducible rfl))
        (try simp only [Act.put, List.getElem_toArray, List.getElem_cons_succ, List.getElem_cons_zero, List.setIfInBounds_toArray, List.set_cons_zero, List.set_cons_succ])
        refine wpAnyH_take (i := 16) (v := ?_) rfl (by kernel_rfl) (by kernel_rfl) (by kernel_rfl) (fun _ _ _ h => h) (Or.inl ⟨by rfl, ?_⟩) (by assumption) ?_
        rotate_left 1
        focus (intro w hSw; (try dsimp only at hSw); have c0 := HC.out _ hSw; go_simp; (try with_reducible rfl))
        (try simp only [Act.put, List.getElem_toArray, List.getElem_cons_succ, List.getElem_cons_zero, List.setIfInBounds_toArray, List.set_cons_zero, List.set_cons_succ])
        refine wpAnyH_ready (rs := [17]) (by kernel_rfl) (by simp) ?_
        refine AllReadyH.cons rfl (fun K hK => ?_) AllReadyH.nil
        go_simp
        with_reducible refine HCL.out.mono ?_
        rintro e5 w5 ⟨v', rfl, ho5, hf5⟩
        have hw5 := ((Frm.refl (fun _ => False) w2).drew).trans hf5
        (try go_wp2_with fail)
        refine hK.out _ _ hw5 (fun hHeld => ?_)
        clear hK K
        (try simp only [Act.put, List.getElem_toArray, List.getElem_cons_succ, List.getElem_cons_zero, List.setIfInBounds_toArray, List.set_cons_zero, List.set_cons_succ])
        refine wpAnyH_take (i := 18) (v := ?_) rfl (by kernel_rfl) (by kernel_rfl) (by kernel_rfl) (fun _ _ _ h => h) (Or.inl ⟨by rfl, ?_⟩) (by assumption) ?_
        rotate_left 1
        focus (intro w hSw; (try dsimp only at hSw); go_simp; (try with_reducible rfl))
        (try simp only [Act.put, List.getElem_toArray, List.getElem_cons_succ, List.getElem_cons_zero, List.setIfInBounds_toArray, List.set_cons_zero, List.set_cons_succ])
        refine wpAnyH_done (by kernel_rfl) ?_ _
        go_wp2
        go_ret
        refine ⟨v', rfl, ?_, hf2.trans hw5⟩
        rw [HRES.out, HRL.out]
        exact owns_base ho5 hf2.size
  · rw [hfd] at hq
    have hq : place En.nm l (t, k.toList) + 1 = q := by simpa using hq
    obtain ⟨p, hp⟩ : ∃ p, place En.nm l (t, k.toList) = p := ⟨_, rfl⟩
    rw [hp] at hq hple ⊢
    have hw1 : IntKind.i64.wrap ((p : Int) + 1) = (p : Int) + 1 := by rw [IntKind.wrap_i64]; omega
    clear hp hfd
    go_upto_region 4 with (fail)
    rw [show (p : Int) + 1 = (q : Int) by omega]
    clear hw1 hq hple
    by_cases hn1 : n < 1
    · have d1 : decide (n < 1) = true := decide_eq_true hn1
      have hnil : aft En.nm l (t, k.toList) n.toNat = [] := by rw [HAFT.out, show n.toNat = 0 by omega, List.take_zero]
      have HN := Lib.hid hnil
      clear hnil
      go_wp2
      go_ret
      exact ⟨_, rfl, by rw [HN.out]; exact World.ownsRow_nil _ _ _ _, hf2⟩
    · have d1 : decide (n < 1) = false := decide_eq_false hn1
      go_wp2_with fail
      refine (len_any xb v l _ hA2).mono ?_
      rintro e1 w1 ⟨rfl, rfl⟩
      by_cases hge : l.length ≤ q
      · have d2 : decide ((l.length : Int) ≤ (q : Int)) = true := decide_eq_true (by omega)
        have d3 : decide (l.length ≤ q) = true := decide_eq_true hge
        have hnil : aft En.nm l (t, k.toList) n.toNat = [] := by rw [HAFT.out, List.drop_eq_nil_of_le hge, List.take_nil]
        have HN := Lib.hid hnil
        clear hnil
        go_wp2
        go_ret
        exact ⟨_, rfl, by rw [HN.out]; exact World.ownsRow_nil _ _ _ _, hf2⟩
      · have d2 : decide ((l.length : Int) ≤ (q : Int)) = false := decide_eq_false (by omega)
        have d3 : decide (l.length ≤ q) = false := decide_eq_false hge
        have hqlt : q < l.length := by omega
        obtain ⟨A, c, rfl⟩ := owns_nil_form' hA2.row
        obtain ⟨g, o, rfl⟩ := sl_base hA2.sl (by omega)
        obtain ⟨g', c', he'⟩ : ∃ g' c', (Value.slice (some ⟨g, o, none⟩) l.length c) = .slice (some ⟨g', 0, none⟩) l.length c' := by
          rcases hA2.row.2 with ⟨h0, _⟩ | ⟨g', cap', cur', h0, _⟩
          · cases h0
          · exact ⟨_, _, h0⟩
        cases he'
        have hlcm : l.length ≤ c ∧ c ≤ maxLen := by
          rcases hA2.row.2 with ⟨h0, _⟩ | ⟨g', cap', cur', h0, _, _, hlc, hcm, _⟩
          · cases h0
          · cases h0; exact ⟨hlc, hcm⟩
        obtain ⟨hlc, hcm⟩ := hlcm
        obtain ⟨m, hm⟩ : ∃ m, min n.toNat (l.length - q) = m := ⟨_, rfl⟩
        have hmi := min_is2 n ((l.length : Int) - (q : Int)) (m : Int) (by split <;> omega)
        have hm0 : 0 < m := by omega
        have hmq : q + m ≤ l.length := by omega
        have hres : aft En.nm l (t, k.toList) n.toNat = (l.drop q).take m := by
          rw [HAFT.out, ← hm]
          rcases Nat.le_total n.toNat (l.length - q) with h1 | h1
          · rw [Nat.min_eq_left h1]
          · rw [Nat.min_eq_right h1, List.take_of_length_le (by rw [List.length_drop]; exact h1), List.take_of_length_le (by rw [List.length_drop]; omega)]
        have hrl : ((l.drop q).take m).length = m := by rw [List.length_take, List.length_drop]; omega
        have HC := Lib.hid (fun (w9 : World) (hf : Frm0 w2 w9) => show w9.cell? ⟨xb, 0, none⟩ = some (.slice (some ⟨g, 0, none⟩) l.length c) by rw [Bk.cell (hf.blk hA2.blk (fun h => h))]; rfl)
        have hsub := sl_sub (hA2.sl) rfl q m (c - q) hm0 hmq (by omega)
        rw [Nat.zero_add] at hsub
        have HCL := Lib.hid (clone_any (.slice (some ⟨g, q * 14, none⟩) m (c - q)) m (ecs ((l.drop q).take m)) w2.drew (hsub.frm0 ((Frm.refl _ w2).drew)) (by rw [ecs_len, hrl]) (ecs_one _) (by omega))
        have HRES := Lib.hid hres
        have HRL := Lib.hid hrl
        have hwa : IntKind.i64.wrap ((l.length : Int) - (q : Int)) = (l.length : Int) - (q : Int) := by rw [IntKind.wrap_i64]; omega
        have hwb : IntKind.i64.wrap ((q : Int) + (m : Int)) = (q : Int) + (m : Int) := by rw [IntKind.wrap_i64]; omega
        have hb1 : (0 : Int) ≤ (q : Int) := by omega
        have hb2 : (q : Int) ≤ (q : Int) + (m : Int) := by omega
        have hb3 : (q : Int) + (m : Int) ≤ (c : Int) := by omega
        have hb4 : ¬ c = q := by omega
        have hb5 : ((q : Int) + (m : Int)).toNat = q + m := by omega
        have hb6 : q + m - q = m := by omega
        clear hres hrl hsub hm hA2 d2 d3 hge d0
        go_upto_region 6 with (fail)
        refine wp_region_held_drew (S := fun w9 => Frm0 w2 w9) (by kernel_rfl) ((Frm.refl (fun _ => False) _).drew) (fun hHeld => ?_)
        refine wpAnyH_take (i := 0) (v := ?_) rfl (by kernel_rfl) (by kernel_rfl) (by kernel_rfl) (fun _ _ _ h => h) (Or.inl ⟨by rfl, ?_⟩) (by assumption) ?_
        rotate_left 1
        focus (intro w hSw; (try dsimp only at hSw); have c0 := HC.out _ hSw; go_simp; (try with_reducible rfl))
        (try simp only [Act.put, List.getElem_toArray, List.getElem_cons_succ, List.getElem_cons_zero, List.setIfInBounds_toArray, List.set_cons_zero, List.set_cons_succ])
        refine wpAnyH_take (i := 1) (v := ?_) rfl (by kernel_rfl) (by kernel_rfl) (by kernel_rfl) (fun _ _ _ h => h) (Or.inl ⟨by rfl, ?_⟩) (by assumption) ?_
        rotate_left 1
        focus (intro w hSw; (try dsimp only at hSw); have c0 := HC.out _ hSw; go_simp; (try with_reducible rfl))
        (try simp only [Act.put, List.getElem_toArray, List.getElem_cons_succ, List.getElem_cons_zero, List.setIfInBounds_toArray, List.set_cons_zero, List.set_cons_succ])
        refine wpAnyH_take (i := 2) (v := ?_) rfl (by kernel_rfl) (by kernel_rfl) (by kernel_rfl) (fun _ _ _ h => h) (Or.inl ⟨by rfl, ?_⟩) (by assumption) ?_
        rotate_left 1
        focus (intro w hSw; (try dsimp only at hSw); have c0 := HC.out _ hSw; go_simp; (try with_reducible rfl))
        (try simp only [Act.put, List.getElem_toArray, List.getElem_cons_succ, List.getElem_cons_zero, List.setIfInBounds_toArray, List.set_cons_zero, List.set_cons_succ])
        refine wpAnyH_take (i := 3) (v := ?_) rfl (by kernel_rfl) (by kernel_rfl) (by kernel_rfl) (fun _ _ _ h => h) (Or.inl ⟨by rfl, ?_⟩) (by assumption) ?_
        rotate_left 1
        focus (intro w hSw; (try dsimp only at hSw); have c0 := HC.out _ hSw; go_simp; (try with_reducible rfl))
        (try simp only [Act.put, List.getElem_toArray, List.getElem_cons_succ, List.getElem_cons_zero, List.setIfInBounds_toArray, List.set_cons_zero, List.set_cons_succ])
        refine wpAnyH_take (i := 4) (v := ?_) rfl (by kernel_rfl) (by kernel_rfl) (by kernel_rfl) (fun _ _ _ h => h) (Or.inl ⟨by rfl, ?_⟩) (by assumption) ?_
        rotate_left 1
        focus (intro w hSw; (try dsimp only at hSw); have c0 := HC.out _ hSw; go_simp; (try with_reducible rfl))
        (try simp only [Act.put, List.getElem_toArray, List.getElem_cons_succ, List.getElem_cons_zero, List.setIfInBounds_toArray, List.set_cons_zero, List.set_cons_succ])
        refine wpAnyH_take (i := 5) (v := ?_) rfl (by kernel_rfl) (by kernel_rfl) (by kernel_rfl) (fun _ _ _ h => h) (Or.inl ⟨by rfl, ?_⟩) (by assumption) ?_
        rotate_left 1
        focus (intro w hSw; (try dsimp only at hSw); have c0 := HC.out _ hSw; go_simp; (try with_reducible rfl))
        (try simp only [Act.put, List.getElem_toArray, List.getElem_cons_succ, List.getElem_cons_zero, List.setIfInBounds_toArray, List.set_cons_zero, List.set_cons_succ])
        refine wpAnyH_take (i := 6) (v := ?_) rfl (by kernel_rfl) (by kernel_rfl) (by kernel_rfl) (fun _ _ _ h => h) (Or.inl ⟨by rfl, ?_⟩) (by assumption) ?_
        rotate_left 1
        focus (intro w hSw; (try dsimp only at hSw); have c0 := HC.out _ hSw; go_simp; (try with_reducible rfl))
        (try simp only [Act.put, List.getElem_toArray, List.getElem_cons_succ, List.getElem_cons_zero, List.setIfInBounds_toArray, List.set_cons_zero, List.set_cons_succ])
        refine wpAnyH_take (i := 7) (v := ?_) rfl (by kernel_rfl) (by kernel_rfl) (by kernel_rfl) (fun _ _ _ h => h) (Or.inl ⟨by rfl, ?_⟩) (by assumption) ?_
        rotate_left 1
        focus (intro w hSw; (try dsimp only at hSw); have c0 := HC.out _ hSw; go_simp; (try with_reducible rfl))
        (try simp only [Act.put, List.getElem_toArray, List.getElem_cons_succ, List.getElem_cons_zero, List.setIfInBounds_toArray, List.set_cons_zero, List.set_cons_succ])
        refine wpAnyH_take (i := 8) (v := ?_) rfl (by kernel_rfl) (by kernel_rfl) (by kernel_rfl) (fun _ _ _ h => h) (Or.inl ⟨by rfl, ?_⟩) (by assumption) ?_
        rotate_left 1
        focus (intro w hSw; (try dsimp only at hSw); have c0 := HC.out _ hSw; go_simp; (try with_reducible rfl))
        (try simp only [Act.put, List.getElem_toArray, List.getElem_cons_succ, List.getElem_cons_zero, List.setIfInBounds_toArray, List.set_cons_zero, List.set_cons_succ])
        refine wpAnyH_take (i := 9) (v := ?_) rfl (by kernel_rfl) (by kernel_rfl) (by kernel_rfl) (fun _ _ _ h => h) (Or.inl ⟨by rfl, ?_⟩) (by assumption) ?_
        rotate_left 1
        focus (intro w hSw; (try dsimp only at hSw); have c0 := HC.out _ hSw; go_simp; (try with_reducible rfl))
        (try simp only [Act.put, List.getElem_toArray, List.getElem_cons_succ, List.getElem_cons_zero, List.setIfInBounds_toArray, List.set_cons_zero, List.set_cons_succ])
        refine wpAnyH_take (i := 10) (v := ?_) rfl (by kernel_rfl) (by kernel_rfl) (by kernel_rfl) (fun _ _ _ h => h) (Or.inl ⟨by rfl, ?_⟩) (by assumption) ?_
        rotate_left 1
        focus (intro w hSw; (try dsimp only at hSw); have c0 := HC.out _ hSw; go_simp; (try with_reducible rfl))
        (try simp only [Act.put, List.getElem_toArray, List.getElem_cons_succ, List.getElem_cons_zero, List.setIfInBounds_toArray, List.set_cons_zero, List.set_cons_succ])
        refine wpAnyH_take (i := 11) (v := ?_) rfl (by kernel_rfl) (by kernel_rfl) (by kernel_rfl) (fun _ _ _ h => h) (Or.inl ⟨by rfl, ?_⟩) (by assumption) ?_
        rotate_left 1
        focus (intro w hSw; (try dsimp only at hSw); have c0 := HC.out _ hSw; go_simp; (try with_reducible rfl))
        (try simp only [Act.put, List.getElem_toArray, List.getElem_cons_succ, List.getElem_cons_zero, List.setIfInBounds_toArray, List.set_cons_zero, List.set_cons_succ])
        refine wpAnyH_take (i := 12) (v := ?_) rfl (by kernel_rfl) (by kernel_rfl) (by kernel_rfl) (fun _ _ _ h => h) (Or.inl ⟨by rfl, ?_⟩) (by assumption) ?_
        rotate_left 1
        focus (intro w hSw; (try dsimp only at hSw); have c0 := HC.out _ hSw; go_simp; (try with_reducible rfl))
        (try simp only [Act.put, List.getElem_toArray, List.getElem_cons_succ, List.getElem_cons_zero, List.setIfInBounds_toArray, List.set_cons_zero, List.set_cons_succ])
        refine wpAnyH_take (i := 13) (v := ?_) rfl (by kernel_rfl) (by kernel_rfl) (by kernel_rfl) (fun _ _ _ h => h) (Or.inl ⟨by rfl, ?_⟩) (by assumption) ?_
        rotate_left 1
        focus (intro w hSw; (try dsimp only at hSw); have c0 := HC.out _ hSw; go_simp; (try with_reducible rfl))
        (try simp only [Act.put, List.getElem_toArray, List.getElem_cons_succ, List.getElem_cons_zero, List.setIfInBounds_toArray, List.set_cons_zero, List.set_cons_succ])
        refine wpAnyH_take (i := 14) (v := ?_) rfl (by kernel_rfl) (by kernel_rfl) (by kernel_rfl) (fun _ _ _ h => h) (Or.inl ⟨by rfl, ?_⟩) (by assumption) ?_
        rotate_left 1
        focus (intro w hSw; (try dsimp only at hSw); have c0 := HC.out _ hSw; go_simp; (try with_reducible rfl))
        (try simp only [Act.put, List.getElem_toArray, List.getElem_cons_succ, List.getElem_cons_zero, List.setIfInBounds_toArray, List.set_cons_zero, List.set_cons_succ])
        refine wpAnyH_take (i := 15) (v := ?_) rfl (by kernel_rfl) (by kernel_rfl) (by kernel_rfl) (fun _ _ _ h => h) (Or.inl ⟨by rfl, ?_⟩) (by assumption) ?_
        rotate_left 1
        focus (intro w hSw; (try dsimp only at hSw); have c0 := HC.out _ hSw; go_simp; (try with_reducible rfl))
        (try simp only [Act.put, List.getElem_toArray, List.getElem_cons_succ, List.getElem_cons_zero, List.setIfInBounds_toArray, List.set_cons_zero, List.set_cons_succ])
        refine wpAnyH_take (i := 16) (v := ?_) rfl (by kernel_rfl) (by kernel_rfl) (by kernel_rfl) (fun _ _ _ h => h) (Or.inl ⟨by rfl, ?_⟩) (by assumption) ?_
        rotate_left 1
        focus (intro w hSw; (try dsimp only at hSw); have c0 := HC.out _ hSw; go_simp; (try with_reducible rfl))
        (try simp only [Act.put, List.getElem_toArray, List.getElem_cons_succ, List.getElem_cons_zero, List.setIfInBounds_toArray, List.set_cons_zero, List.set_cons_succ])
        refine wpAnyH_ready (rs := [17]) (by kernel_rfl) (by simp) ?_
        refine AllReadyH.cons rfl (fun K hK => ?_) AllReadyH.nil
        go_simp
        with_reducible refine HCL.out.mono ?_
        rintro e5 w5 ⟨v', rfl, ho5, hf5⟩
        have hw5 := ((Frm.refl (fun _ => False) w2).drew).trans hf5
        (try go_wp2_with fail)
        refine hK.out _ _ hw5 (fun hHeld => ?_)
        clear hK K
        (try simp only [Act.put, List.getElem_toArray, List.getElem_cons_succ, List.getElem_cons_zero, List.setIfInBounds_toArray, List.set_cons_zero, List.set_cons_succ])
        refine wpAnyH_take (i := 18) (v := ?_) rfl (by kernel_rfl) (by kernel_rfl) (by kernel_rfl) (fun _ _ _ h => h) (Or.inl ⟨by rfl, ?_⟩) (by assumption) ?_
        rotate_left 1
        focus (intro w hSw; (try dsimp only at hSw); go_simp; (try with_reducible rfl))
        (try simp only [Act.put, List.getElem_toArray, List.getElem_cons_succ, List.getElem_cons_zero, List.setIfInBounds_toArray, List.set_cons_zero, List.set_cons_succ])
        refine wpAnyH_done (by kernel_rfl) ?_ _
        go_wp2
        go_ret
        refine ⟨v', rfl, ?_, hf2.trans hw5⟩
        rw [HRES.out, HRL.out]
        exact owns_base ho5 hf2.size

set_option maxHeartbeats 4000000 in
theorem ofm_any (xb : Nat) (v : Value) (l : List En) (t : Int) (w : World) (h : At w xb v l) :
    Calls Try.prog 34 #[.pointer (some ⟨xb, 0, none⟩), .int .i64 t] w fun e_ w' => ∃ v', e_ = .returned v' ∧ w'.ownsRow w.heap.size 52 14 v' (l.filter (fun a => decide ((En.nm a).1 = t))).length (ecs (l.filter (fun a => decide ((En.nm a).1 = t)))) ∧ Frm0 w w' := by
  have hfo := filter_of En.nm h.sorted t
  have HFO := Lib.hid hfo
  clear hfo
  go_enter Try.func34, Try.ntmps34
  go_wp2_with fail
  refine (find_any xb v l t ⟨#[]⟩ _ h).mono ?_
  rintro e2 w2 ⟨rfl, hf2⟩
  have hA2 := h.frm0 hf2
  clear h
  rw [nil_list]
  have hpl := place_le En.nm l (t, [])
  obtain ⟨p, hp⟩ : ∃ p, place En.nm l (t, []) = p := ⟨_, rfl⟩
  rw [hp] at HFO hpl ⊢
  clear hp
  have hll := hA2.len
  have HA := Lib.hid hA2
  obtain ⟨A, c, rfl⟩ := owns_nil_form' hA2.row
  clear hA2
  go_wp2_with fail
  go_loopw [5, 7] (fun i o wr => ∃ q : Nat, p ≤ q ∧ q ≤ l.length ∧ i = .int .i64 q ∧ Hid (wr.ownsRow w2.heap.size 52 14 o (q - p) (ecs ((l.drop p).take (q - p)))) ∧ Frm0 w2 wr ∧ Hid (∀ j (hj : j < l.length), p ≤ j → j < q → (En.nm l[j]).1 = t)) (fun i o _ => l.length - (intOf i).toNat)
  case atStart => exact ⟨p, Nat.le_refl _, hpl, rfl, by rw [Nat.sub_self, List.take_zero]; exact World.ownsRow_nil _ _ _ _, Frm.refl _ _, fun j hj h1 h2 => by omega⟩
  case round =>
    obtain ⟨q, hpq, hql, rfl, HO, hFr, HALL⟩ := hrel
    have hAr := HA.out.frm0 hFr
    go_wp2_with fail
    refine (len_any xb _ l _ hAr).mono ?_
    rintro e3 w3 ⟨rfl, rfl⟩
    have hsz2 := hf2.size
    have hszr := hFr.size
    by_cases hlt : q < l.length
    · obtain ⟨g, o, rfl⟩ := sl_base hAr.sl (by omega)
      have c0 : wr.cell? ⟨xb, 0, none⟩ = some (.slice (some ⟨g, o, none⟩) l.length c) := by rw [Bk.cell hAr.blk]; rfl
      have hrg := sl_range hAr.sl rfl q hlt
      obtain ⟨e, hee⟩ : ∃ e, l[q] = e := ⟨_, rfl⟩
      rw [hee] at hrg
      have x0 : wr.cell? ⟨g, o + q * 14, none⟩ = some (.int .i64 e.tenant) := hrg 0 _ rfl
      have hlt2 : (q : Int) < (l.length : Int) := by omega
      have hge2 : (0 : Int) ≤ (q : Int) := by omega
      have d1 : decide ((q : Int) < (l.length : Int)) = true := decide_eq_true hlt2
      have HEE := Lib.hid hee
      clear hee hAr
      by_cases he : e.tenant = t
      · have b1 : (e.tenant == t) = true := beq_iff_eq.2 he
        have HE := Lib.hid he
        clear he
        obtain ⟨A7, c7, hu7⟩ := owns_nil_form' HO.out
        subst hu7
        have hFW := (Frm.refl (fun _ => False) wr).alloc (.cells #[.int .i64 e.tenant, .string e.key, .int .i64 e.state, .int .i64 e.epoch, .int .i64 e.token, .int .i64 e.point, .string e.print, .int .i64 e.lease, .int .i64 e.expiry, .int .i64 e.status, .string e.text, .string e.method, .string e.path, .string e.body] 52)
        have HO2 := Lib.hid (owns_frm0 HO.out hFW)
        have HS2 := Lib.hid (Sl.new wr #[.int .i64 e.tenant, .string e.key, .int .i64 e.state, .int .i64 e.epoch, .int .i64 e.token, .int .i64 e.point, .string e.print, .int .i64 e.lease, .int .i64 e.expiry, .int .i64 e.status, .string e.text, .string e.method, .string e.path, .string e.body] 52 1 (by unfold maxLen; omega) (by omega))
        have HL2 := Lib.hid (en_one e)
        have HZ := Lib.hid (show w2.heap.size ≤ (wr.alloc (.cells #[.int .i64 e.tenant, .string e.key, .int .i64 e.state, .int .i64 e.epoch, .int .i64 e.token, .int .i64 e.point, .string e.print, .int .i64 e.lease, .int .i64 e.expiry, .int .i64 e.status, .string e.text, .string e.method, .string e.path, .string e.body] 52)).heap.size by simp; omega)
        have hw1 : IntKind.i64.wrap ((q : Int) + 1) = ((q + 1 : Nat) : Int) := by rw [IntKind.wrap_i64]; omega
        go_wp2_with (first
          | (refine wpList_load_mid rfl 52 (.tmp 39) rfl g (o + q * 14) rfl [.int .i64 e.tenant, .string e.key, .int .i64 e.state, .int .i64 e.epoch, .int .i64 e.token, .int .i64 e.point, .string e.print, .int .i64 e.lease, .int .i64 e.expiry, .int .i64 e.status, .string e.text, .string e.method, .string e.path, .string e.body] _ hrg Try.underlying52 rfl (by rw [iE]; rfl) ?_)
          | (refine wpList_append_sl rfl (.tmp 33) (.tmp 41) rfl EEn w2.heap.size (.slice A7 (q - p) c7) _ (q - p) 1 (ecs ((l.drop p).take (q - p))) [.int .i64 e.tenant, .string e.key, .int .i64 e.state, .int .i64 e.epoch, .int .i64 e.token, .int .i64 e.point, .string e.print, .int .i64 e.lease, .int .i64 e.expiry, .int .i64 e.status, .string e.text, .string e.method, .string e.path, .string e.body] rfl rfl HO2.out HS2.out rfl HL2.out (by unfold maxLen; omega) (by omega) HZ.out ?_; intro v7 w7 ho7 hf7 hb7))
        go_roundw
        case rel =>
          refine ⟨q + 1, by omega, by omega, by go_num, ?_, ?_, ?_⟩
          · have := ecs_snoc l p q hpq hlt
            rw [HEE.out] at this
            rw [this, show q + 1 - p = q - p + 1 by omega]
            exact ho7
          · exact (hFr.trans hFW).then_ hf7 (fun k hk h => by
              have := HO2.out.lt k h
              omega)
          · intro j hj h1 h2
            by_cases hjq : j = q
            · subst hjq
              rw [HEE.out]; exact HE.out
            · exact HALL.out j hj h1 (by omega)
        case measure => simp [intOf]; omega
      · have b1 : (e.tenant == t) = false := beq_eq_false_iff_ne.2 he
        have HE := Lib.hid he
        clear he
        go_wp2
        go_ret
        have htw := tw_take (fun a => decide ((En.nm a).1 = t)) (l.drop p) (q - p) (by rw [List.length_drop]; omega) (fun j hj hjm => by
          rw [List.length_drop] at hj
          rw [List.getElem_drop]
          exact decide_eq_true (HALL.out (p + j) (by omega) (by omega) (by omega))) (fun h => by
          rw [List.getElem_drop]
          refine decide_eq_false (fun h9 => HE.out ?_)
          rw [← HEE.out, ← h9]
          exact congrArg (fun x => (En.nm x).1) (getElem_congr_idx (show q = p + (q - p) by omega)))
        refine ⟨_, rfl, ?_, hf2.trans hFr⟩
        rw [HFO.out, htw, List.length_take, List.length_drop, Nat.min_eq_left (by omega)]
        exact owns_base HO.out hf2.size
    · obtain rfl : q = l.length := by omega
      have d1 : decide ((l.length : Int) < (l.length : Int)) = false := decide_eq_false (by omega)
      clear hAr
      go_wp2
      go_ret
      have htw := tw_take (fun a => decide ((En.nm a).1 = t)) (l.drop p) (l.length - p) (by rw [List.length_drop]; omega) (fun j hj hjm => by
        rw [List.length_drop] at hj
        rw [List.getElem_drop]
        exact decide_eq_true (HALL.out (p + j) (by omega) (by omega) (by omega))) (fun h => by rw [List.length_drop] at h; omega)
      refine ⟨_, rfl, ?_, hf2.trans hFr⟩
      rw [HFO.out, htw, List.length_take, List.length_drop, Nat.min_eq_left (by omega)]
      exact owns_base HO.out hf2.size

end
end Ix
end Go.Proofs.Ythggbohoedfkpaa
