/- The cache's reference: Get. -/
import Derived.Test.YthmhihmbciigdaaLrk
namespace Go.Proofs.Ythmhihmbciigdaa
open Go.RowKit Go.Maps
set_option linter.unusedVariables false
set_option linter.unusedSimpArgs false
set_option maxRecDepth 100000
namespace Lr
section
variable {w w1 : World} {v : Value} {b : Nat} {l p q : PP} {k : ByteArray} {x : ByteArray × ByteArray} {S : Nat → Prop}
set_option maxHeartbeats 2000000 in
theorem rget_any (h : Pr w b v l) (hl : l.length ≤ 1000) (k : ByteArray) : Calls Try.prog 28 #[v, .string k] w fun e w' => ∃ v', Frm0 w w' ∧
    ((∃ p x q, l = p ++ x :: q ∧ x.1 = k ∧ e = .returned (.tuple #[v', .string x.2, .bool true]) ∧ Pr w' w.heap.size v' (x :: drp l k)) ∨
      ((∀ y ∈ l, y.1 ≠ k) ∧ e = .returned (.tuple #[v', .string ⟨#[]⟩, .bool false]) ∧ v' = v ∧ w = w')) := by
  have HH := Lib.hid h
  have HLL := Lib.hid hl
  have HRF := Lib.hid (rfind_any (k := k) h hl)
  obtain ⟨A, c, rfl⟩ := h.form
  clear h
  go_enter Try.func28, Try.ntmps28
  go_wp2_with fail
  refine HRF.out.mono ?_
  rintro e w0 ⟨rfl, ⟨p, x, q, hl2, hx, rfl⟩ | ⟨hn, rfl⟩⟩
  · have hk : p.length < l.length := by rw [hl2]; simp
    have hat := HH.out
    rw [hl2] at hat
    obtain ⟨g, c', e, c0, c1⟩ := hat.at_
    rw [← hl2] at e
    cases e
    have HC := Lib.hid (fun (w9 : World) (hf : Frm0 w w9) => And.intro (hf.cell c0 (fun h => h)) (hf.cell c1 (fun h => h)))
    have HL2 := Lib.hid hl2
    have HX := Lib.hid hx
    clear hat c0 c1 hl2 hx
    go_upto_region 4 with (fail)
    refine wp_region_held_drew (S := fun w9 => Frm0 w w9) (by kernel_rfl) ((Frm.refl (fun _ => False) w).drew) (fun hHeld => ?_)
    refine wpAnyH_take (i := 0) (v := ?_) rfl (by kernel_rfl) (by kernel_rfl) (by kernel_rfl) (fun _ _ _ h => h) (Or.inl ⟨by rfl, ?_⟩) (by assumption) ?_
    rotate_left 1
    focus (intro w hSw; (try dsimp only at hSw); obtain ⟨c0, c1⟩ := HC.out _ hSw; go_simp; (try with_reducible rfl))
    (try simp only [Act.put, List.getElem_toArray, List.getElem_cons_succ, List.getElem_cons_zero, List.setIfInBounds_toArray, List.set_cons_zero, List.set_cons_succ])
    refine wpAnyH_take (i := 1) (v := ?_) rfl (by kernel_rfl) (by kernel_rfl) (by kernel_rfl) (fun _ _ _ h => h) (Or.inl ⟨by rfl, ?_⟩) (by assumption) ?_
    rotate_left 1
    focus (intro w hSw; (try dsimp only at hSw); obtain ⟨c0, c1⟩ := HC.out _ hSw; go_simp; (try with_reducible rfl))
    (try simp only [Act.put, List.getElem_toArray, List.getElem_cons_succ, List.getElem_cons_zero, List.setIfInBounds_toArray, List.set_cons_zero, List.set_cons_succ])
    refine wpAnyH_take (i := 2) (v := ?_) rfl (by kernel_rfl) (by kernel_rfl) (by kernel_rfl) (fun _ _ _ h => h) (Or.inl ⟨by rfl, ?_⟩) (by assumption) ?_
    rotate_left 1
    focus (intro w hSw; (try dsimp only at hSw); obtain ⟨c0, c1⟩ := HC.out _ hSw; go_simp; (try with_reducible rfl))
    (try simp only [Act.put, List.getElem_toArray, List.getElem_cons_succ, List.getElem_cons_zero, List.setIfInBounds_toArray, List.set_cons_zero, List.set_cons_succ])
    refine wpAnyH_take (i := 3) (v := ?_) rfl (by kernel_rfl) (by kernel_rfl) (by kernel_rfl) (fun _ _ _ h => h) (Or.inl ⟨by rfl, ?_⟩) (by assumption) ?_
    rotate_left 1
    focus (intro w hSw; (try dsimp only at hSw); obtain ⟨c0, c1⟩ := HC.out _ hSw; go_simp; (try with_reducible rfl))
    (try simp only [Act.put, List.getElem_toArray, List.getElem_cons_succ, List.getElem_cons_zero, List.setIfInBounds_toArray, List.set_cons_zero, List.set_cons_succ])
    refine wpAnyH_take (i := 5) (v := ?_) rfl (by kernel_rfl) (by kernel_rfl) (by kernel_rfl) (fun _ _ _ h => h) (Or.inl ⟨by rfl, ?_⟩) (by assumption) ?_
    rotate_left 1
    focus (intro w hSw; (try dsimp only at hSw); obtain ⟨c0, c1⟩ := HC.out _ hSw; go_simp; (try with_reducible rfl))
    (try simp only [Act.put, List.getElem_toArray, List.getElem_cons_succ, List.getElem_cons_zero, List.setIfInBounds_toArray, List.set_cons_zero, List.set_cons_succ])
    refine wpAnyH_take (i := 6) (v := ?_) rfl (by kernel_rfl) (by kernel_rfl) (by kernel_rfl) (fun _ _ _ h => h) (Or.inl ⟨by rfl, ?_⟩) (by assumption) ?_
    rotate_left 1
    focus (intro w hSw; (try dsimp only at hSw); obtain ⟨c0, c1⟩ := HC.out _ hSw; go_simp; (try with_reducible rfl))
    (try simp only [Act.put, List.getElem_toArray, List.getElem_cons_succ, List.getElem_cons_zero, List.setIfInBounds_toArray, List.set_cons_zero, List.set_cons_succ])
    refine wpAnyH_take (i := 9) (v := ?_) rfl (by kernel_rfl) (by kernel_rfl) (by kernel_rfl) (fun _ _ _ h => h) (Or.inl ⟨by rfl, ?_⟩) (by assumption) ?_
    rotate_left 1
    focus (intro w hSw; (try dsimp only at hSw); obtain ⟨c0, c1⟩ := HC.out _ hSw; go_simp; (try with_reducible rfl))
    (try simp only [Act.put, List.getElem_toArray, List.getElem_cons_succ, List.getElem_cons_zero, List.setIfInBounds_toArray, List.set_cons_zero, List.set_cons_succ])
    refine wpAnyH_take (i := 10) (v := ?_) rfl (by kernel_rfl) (by kernel_rfl) (by kernel_rfl) (fun _ _ _ h => h) (Or.inl ⟨by rfl, ?_⟩) (by assumption) ?_
    rotate_left 1
    focus (intro w hSw; (try dsimp only at hSw); obtain ⟨c0, c1⟩ := HC.out _ hSw; go_simp; (try with_reducible rfl))
    (try simp only [Act.put, List.getElem_toArray, List.getElem_cons_succ, List.getElem_cons_zero, List.setIfInBounds_toArray, List.set_cons_zero, List.set_cons_succ])
    refine wpAnyH_take (i := 11) (v := ?_) rfl (by kernel_rfl) (by kernel_rfl) (by kernel_rfl) (fun _ _ _ h => h) (Or.inl ⟨by rfl, ?_⟩) (by assumption) ?_
    rotate_left 1
    focus (intro w hSw; (try dsimp only at hSw); obtain ⟨c0, c1⟩ := HC.out _ hSw; go_simp; (try with_reducible rfl))
    (try simp only [Act.put, List.getElem_toArray, List.getElem_cons_succ, List.getElem_cons_zero, List.setIfInBounds_toArray, List.set_cons_zero, List.set_cons_succ])
    refine wpAnyH_take (i := 12) (v := ?_) rfl (by kernel_rfl) (by kernel_rfl) (by kernel_rfl) (fun _ _ _ h => h) (Or.inl ⟨by rfl, ?_⟩) (by assumption) ?_
    rotate_left 1
    focus (intro w hSw; (try dsimp only at hSw); obtain ⟨c0, c1⟩ := HC.out _ hSw; go_simp; (try with_reducible rfl))
    (try simp only [Act.put, List.getElem_toArray, List.getElem_cons_succ, List.getElem_cons_zero, List.setIfInBounds_toArray, List.set_cons_zero, List.set_cons_succ])
    refine wpAnyH_take (i := 13) (v := ?_) rfl (by kernel_rfl) (by kernel_rfl) (by kernel_rfl) (fun _ _ _ h => h) (Or.inl ⟨by rfl, ?_⟩) (by assumption) ?_
    rotate_left 1
    focus (intro w hSw; (try dsimp only at hSw); obtain ⟨c0, c1⟩ := HC.out _ hSw; go_simp; (try with_reducible rfl))
    (try simp only [Act.put, List.getElem_toArray, List.getElem_cons_succ, List.getElem_cons_zero, List.setIfInBounds_toArray, List.set_cons_zero, List.set_cons_succ])
    refine wpAnyH_ready (rs := [4, 7]) (by kernel_rfl) (by simp) ?_
    refine AllReadyH.cons rfl (fun K hK => ?_) (AllReadyH.cons rfl (fun K hK => ?_) AllReadyH.nil)
    · rw [if_pos (by rfl)]
      go_simp
      refine hK.out _ _ (Frm.alloc (by assumption) _) (fun hHeld => ?_)
      clear hK K
      (try simp only [Act.put, List.getElem_toArray, List.getElem_cons_succ, List.getElem_cons_zero, List.setIfInBounds_toArray, List.set_cons_zero, List.set_cons_succ])
      refine wpAnyH_ready (rs := [7]) (by kernel_rfl) (by simp) ?_
      refine AllReadyH.cons rfl (fun K hK => ?_) AllReadyH.nil
      go_simp
      refine (rdrop_any (HH.out.frm0 (((Frm.refl (fun _ => False) w).drew).alloc (.cells #[.string x.1, .string x.2] 56))) HLL.out).mono ?_
      rintro e w2 ⟨v2, rfl, hP2, hf2⟩
      have hD2 := ((((Frm.refl (fun _ => False) w).drew).alloc (.cells #[.string x.1, .string x.2] 56))).trans hf2
      (try go_wp2_with fail)
      refine hK.out _ _ hD2 (fun hHeld => ?_)
      clear hK K
      (try simp only [Act.put, List.getElem_toArray, List.getElem_cons_succ, List.getElem_cons_zero, List.setIfInBounds_toArray, List.set_cons_zero, List.set_cons_succ])
      refine wpAnyH_ready (rs := [8]) (by kernel_rfl) (by simp) ?_
      refine AllReadyH.cons rfl (fun K hK => ?_) AllReadyH.nil
      have hD3 := hD2
      have hown := owns_frm0 (show (w.drew.alloc (.cells #[.string x.1, .string x.2] 56)).ownsRow w.heap.size 56 2 (.slice (some ⟨w.heap.size, 0, none⟩) 1 1) 1 (pc x) from own_one w.drew x) hf2
      have hsl := Sl.of_own hP2
      refine step_append_sl rfl (.tmp 18) (.tmp 21) rfl Epr w.heap.size (.slice (some ⟨w.heap.size, 0, none⟩) 1 1) v2 1 (drp l k).length (pc x) ((drp l k).flatMap pc) rfl rfl hown hsl (pcs_len _) (pcs_one _) (by have := HLL.out; have := drp_le l k; unfold maxLen; omega) (by have := HLL.out; have := drp_le l k; omega) (by have := hD3.size; omega) ?_
      intro v3 w3 hown3 hf3 hat3
      have hD4 := hD3.then_ hf3 (fun i hi h => by have e : w.heap.size = i := Option.some.inj h; omega)
      rw [Nat.add_comm 1] at hown3
      refine hK.out _ _ hD4 (fun hHeld => ?_)
      clear hK K
      (try simp only [Act.put, List.getElem_toArray, List.getElem_cons_succ, List.getElem_cons_zero, List.setIfInBounds_toArray, List.set_cons_zero, List.set_cons_succ])
      refine wpAnyH_take (i := 14) (v := ?_) rfl (by kernel_rfl) (by kernel_rfl) (by kernel_rfl) (fun _ _ _ h => h) (Or.inl ⟨by rfl, ?_⟩) (by assumption) ?_
      rotate_left 1
      focus (intro w hSw; (try dsimp only at hSw); go_simp; (try with_reducible rfl))
      (try simp only [Act.put, List.getElem_toArray, List.getElem_cons_succ, List.getElem_cons_zero, List.setIfInBounds_toArray, List.set_cons_zero, List.set_cons_succ])
      refine wpAnyH_take (i := 15) (v := ?_) rfl (by kernel_rfl) (by kernel_rfl) (by kernel_rfl) (fun _ _ _ h => h) (Or.inl ⟨by rfl, ?_⟩) (by assumption) ?_
      rotate_left 1
      focus (intro w hSw; (try dsimp only at hSw); go_simp; (try with_reducible rfl))
      (try simp only [Act.put, List.getElem_toArray, List.getElem_cons_succ, List.getElem_cons_zero, List.setIfInBounds_toArray, List.set_cons_zero, List.set_cons_succ])
      refine wpAnyH_take (i := 16) (v := ?_) rfl (by kernel_rfl) (by kernel_rfl) (by kernel_rfl) (fun _ _ _ h => h) (Or.inl ⟨by rfl, ?_⟩) (by assumption) ?_
      rotate_left 1
      focus (intro w hSw; (try dsimp only at hSw); go_simp; (try with_reducible rfl))
      (try simp only [Act.put, List.getElem_toArray, List.getElem_cons_succ, List.getElem_cons_zero, List.setIfInBounds_toArray, List.set_cons_zero, List.set_cons_succ])
      refine wpAnyH_done (by kernel_rfl) ?_ _
      go_wp2
      go_returns
      refine ⟨_, hD4, .inl ⟨p, x, q, HL2.out, HX.out, rfl, ?_⟩⟩
      exact hown3
    · rw [if_pos (by rfl)]
      go_simp
      refine (rdrop_any (HH.out.frm0 (Frm.refl (fun _ => False) w).drew) HLL.out).mono ?_
      rintro e w2 ⟨v2, rfl, hP2, hf2⟩
      have hD2 := ((Frm.refl (fun _ => False) w).drew).trans hf2
      (try go_wp2_with fail)
      refine hK.out _ _ hD2 (fun hHeld => ?_)
      clear hK K
      (try simp only [Act.put, List.getElem_toArray, List.getElem_cons_succ, List.getElem_cons_zero, List.setIfInBounds_toArray, List.set_cons_zero, List.set_cons_succ])
      refine wpAnyH_ready (rs := [4]) (by kernel_rfl) (by simp) ?_
      refine AllReadyH.cons rfl (fun K hK => ?_) AllReadyH.nil
      rw [if_pos (by rfl)]
      go_simp
      refine hK.out _ _ (Frm.alloc (by assumption) _) (fun hHeld => ?_)
      clear hK K
      (try simp only [Act.put, List.getElem_toArray, List.getElem_cons_succ, List.getElem_cons_zero, List.setIfInBounds_toArray, List.set_cons_zero, List.set_cons_succ])
      refine wpAnyH_ready (rs := [8]) (by kernel_rfl) (by simp) ?_
      refine AllReadyH.cons rfl (fun K hK => ?_) AllReadyH.nil
      have hD3 := hD2.alloc (.cells #[.string x.1, .string x.2] 56)
      have hs2 := hD2.size
      have hown := owns_base (b' := w.heap.size) (show (w2.alloc (.cells #[.string x.1, .string x.2] 56)).ownsRow w2.heap.size 56 2 (.slice (some ⟨w2.heap.size, 0, none⟩) 1 1) 1 (pc x) from own_one w2 x) hs2
      have hsl := (Sl.of_own hP2).frm0 ((Frm.refl _ _).alloc (.cells #[.string x.1, .string x.2] 56))
      refine step_append_sl rfl (.tmp 18) (.tmp 21) rfl Epr w.heap.size (.slice (some ⟨w2.heap.size, 0, none⟩) 1 1) v2 1 (drp l k).length (pc x) ((drp l k).flatMap pc) rfl rfl hown hsl (pcs_len _) (pcs_one _) (by have := HLL.out; have := drp_le l k; unfold maxLen; omega) (by have := HLL.out; have := drp_le l k; omega) (by have := hD3.size; omega) ?_
      intro v3 w3 hown3 hf3 hat3
      have hD4 := hD3.then_ hf3 (fun i hi h => by have e : w2.heap.size = i := Option.some.inj h; omega)
      rw [Nat.add_comm 1] at hown3
      refine hK.out _ _ hD4 (fun hHeld => ?_)
      clear hK K
      (try simp only [Act.put, List.getElem_toArray, List.getElem_cons_succ, List.getElem_cons_zero, List.setIfInBounds_toArray, List.set_cons_zero, List.set_cons_succ])
      refine wpAnyH_take (i := 14) (v := ?_) rfl (by kernel_rfl) (by kernel_rfl) (by kernel_rfl) (fun _ _ _ h => h) (Or.inl ⟨by rfl, ?_⟩) (by assumption) ?_
      rotate_left 1
      focus (intro w hSw; (try dsimp only at hSw); go_simp; (try with_reducible rfl))
      (try simp only [Act.put, List.getElem_toArray, List.getElem_cons_succ, List.getElem_cons_zero, List.setIfInBounds_toArray, List.set_cons_zero, List.set_cons_succ])
      refine wpAnyH_take (i := 15) (v := ?_) rfl (by kernel_rfl) (by kernel_rfl) (by kernel_rfl) (fun _ _ _ h => h) (Or.inl ⟨by rfl, ?_⟩) (by assumption) ?_
      rotate_left 1
      focus (intro w hSw; (try dsimp only at hSw); go_simp; (try with_reducible rfl))
      (try simp only [Act.put, List.getElem_toArray, List.getElem_cons_succ, List.getElem_cons_zero, List.setIfInBounds_toArray, List.set_cons_zero, List.set_cons_succ])
      refine wpAnyH_take (i := 16) (v := ?_) rfl (by kernel_rfl) (by kernel_rfl) (by kernel_rfl) (fun _ _ _ h => h) (Or.inl ⟨by rfl, ?_⟩) (by assumption) ?_
      rotate_left 1
      focus (intro w hSw; (try dsimp only at hSw); go_simp; (try with_reducible rfl))
      (try simp only [Act.put, List.getElem_toArray, List.getElem_cons_succ, List.getElem_cons_zero, List.setIfInBounds_toArray, List.set_cons_zero, List.set_cons_succ])
      refine wpAnyH_done (by kernel_rfl) ?_ _
      go_wp2
      go_returns
      refine ⟨_, hD4, .inl ⟨p, x, q, HL2.out, HX.out, rfl, ?_⟩⟩
      exact hown3
  · have HN := Lib.hid hn
    clear hn
    go_wp2
    go_returns
    exact ⟨_, Frm.refl _ _, .inr ⟨HN.out, rfl, rfl, rfl⟩⟩
end
end Lr
end Go.Proofs.Ythmhihmbciigdaa
