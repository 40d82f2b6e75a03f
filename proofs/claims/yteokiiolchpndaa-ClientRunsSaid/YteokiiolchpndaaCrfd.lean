/- The reference's client: contract of Again. -/
import Derived.Test.YteokiiolchpndaaCrfc
namespace Go.Proofs.Yteokiiolchpndaa
open Go.RowKit
set_option linter.unusedVariables false
set_option linter.unusedSimpArgs false
namespace Rf
def Held6 (W : World) (b : Nat) (z0 z1 z2 : Int) (z3 : ByteArray) (z4 z5 : Int) (w' : World) : Prop :=
  w'.cell? ⟨b, 0, none⟩ = some (.int .i64 z0) ∧ w'.cell? ⟨b, 1, none⟩ = some (.int .i64 z1) ∧ w'.cell? ⟨b, 2, none⟩ = some (.int .i64 z2) ∧ w'.cell? ⟨b, 3, none⟩ = some (.string z3) ∧ w'.cell? ⟨b, 4, none⟩ = some (.int .i64 z4) ∧ w'.cell? ⟨b, 5, none⟩ = some (.int .i64 z5) ∧ Frm0 W w'
theorem keep6 {W wa wb : World} {b : Nat} {z0 z1 z2 : Int} {z3 : ByteArray} {z4 z5 : Int}
    (h : wa.cell? ⟨b, 0, none⟩ = some (.int .i64 z0) ∧ wa.cell? ⟨b, 1, none⟩ = some (.int .i64 z1) ∧ wa.cell? ⟨b, 2, none⟩ = some (.int .i64 z2) ∧ wa.cell? ⟨b, 3, none⟩ = some (.string z3) ∧ wa.cell? ⟨b, 4, none⟩ = some (.int .i64 z4) ∧ wa.cell? ⟨b, 5, none⟩ = some (.int .i64 z5) ∧ Frm0 W wa) (hf : Frm0 wa wb) :
    wb.cell? ⟨b, 0, none⟩ = some (.int .i64 z0) ∧ wb.cell? ⟨b, 1, none⟩ = some (.int .i64 z1) ∧ wb.cell? ⟨b, 2, none⟩ = some (.int .i64 z2) ∧ wb.cell? ⟨b, 3, none⟩ = some (.string z3) ∧ wb.cell? ⟨b, 4, none⟩ = some (.int .i64 z4) ∧ wb.cell? ⟨b, 5, none⟩ = some (.int .i64 z5) ∧ Frm0 W wb :=
  ⟨hf.cell h.1 (fun h => h), hf.cell h.2.1 (fun h => h), hf.cell h.2.2.1 (fun h => h), hf.cell h.2.2.2.1 (fun h => h), hf.cell h.2.2.2.2.1 (fun h => h), hf.cell h.2.2.2.2.2.1 (fun h => h), h.2.2.2.2.2.2.trans hf⟩
theorem frm6 {W wa : World} {b : Nat} {z0 z1 z2 : Int} {z3 : ByteArray} {z4 z5 : Int}
    (h : wa.cell? ⟨b, 0, none⟩ = some (.int .i64 z0) ∧ wa.cell? ⟨b, 1, none⟩ = some (.int .i64 z1) ∧ wa.cell? ⟨b, 2, none⟩ = some (.int .i64 z2) ∧ wa.cell? ⟨b, 3, none⟩ = some (.string z3) ∧ wa.cell? ⟨b, 4, none⟩ = some (.int .i64 z4) ∧ wa.cell? ⟨b, 5, none⟩ = some (.int .i64 z5) ∧ Frm0 W wa) : Frm0 W wa := h.2.2.2.2.2.2
section
variable {w w1 : World} {rb : Nat} {id : Int} {v1 v2 v3 : Value} {vs : List Vw} {S : Nat → Prop}
theorem again_out (h : At w rb id v1 v2 v3 vs) (hl : vs.length ≤ 900) (s at_ now : Int) (hn : vTold vs s = none) :
    Calls Try.prog 47 #[.pointer (some ⟨rb, 0, none⟩), .int .i64 s, .int .i64 at_, .int .i64 now] w fun e w' => e = .returned (.tuple #[rqV rq0, .bool false]) ∧ Frm0 w w' := by
  have hF0 := (Frm.refl (fun _ => False) w).alloc (.cells #[.int .i64 0, .int .i64 0, .int .i64 0, .string ⟨#[]⟩, .string ⟨#[]⟩, .string ⟨#[]⟩, .string ⟨#[]⟩] 84)
  have h1 := h.frm0 hF0
  obtain ⟨b0, b1, b2, b3⟩ := Bk.c4 h1.blk
  obtain ⟨A1, p1, rfl⟩ := form_of h1.r1
  have hcs : decide (s < 1) = true ∨ (decide (s < 1) = false ∧ decide ((vs.length : Int) < s) = true) ∨ (decide (s < 1) = false ∧ decide ((vs.length : Int) < s) = false ∧ ∃ k : Nat, s = (k : Int) + 1 ∧ ∃ hk : k < vs.length, (vs[k]).2 = none) := by
    by_cases h1 : s < 1
    · exact .inl (decide_eq_true h1)
    · by_cases h2 : (vs.length : Int) < s
      · exact .inr (.inl ⟨decide_eq_false h1, decide_eq_true h2⟩)
      · obtain ⟨k, rfl, hk⟩ := ser_nat (n := vs.length) (s := s) ⟨by omega, by omega⟩
        rw [told_is vs k hk] at hn
        exact .inr (.inr ⟨decide_eq_false h1, decide_eq_false h2, k, rfl, hk, hn⟩)
  unfold rqV rq0
  simp only
  clear h hn
  rcases hcs with d1 | ⟨d1, d2⟩ | ⟨d1, d2, k, rfl, hk, ht⟩
  · clear h1
    go_enter Try.func47, Try.ntmps47
    go_wp2
    go_returns
    exact ⟨rfl, hF0⟩
  · clear h1
    go_enter Try.func47, Try.ntmps47
    go_wp2
    go_returns
    exact ⟨rfl, hF0⟩
  · obtain ⟨g2, p2, rfl⟩ := pos_of h1.r2 (by omega)
    have x2 : (w.alloc (.cells #[.int .i64 0, .int .i64 0, .int .i64 0, .string ⟨#[]⟩, .string ⟨#[]⟩, .string ⟨#[]⟩, .string ⟨#[]⟩] 84)).cell? ⟨g2, k, none⟩ = some (.bool false) := by rw [h1.r2.cellAt k (by omega), c2_at vs k hk, ht]; rfl
    have hki : (k : Int) < (vs.length : Int) := by omega
    clear h1 ht
    go_enter Try.func47, Try.ntmps47
    go_wp2
    go_returns
    exact ⟨rfl, hF0⟩
set_option maxHeartbeats 2000000 in
set_option maxRecDepth 100000 in
theorem again_in (h : At w rb id v1 v2 v3 vs) (hl : vs.length ≤ 900) (k : Nat) (hk : k < vs.length) (at_ now : Int) (y : An) (hy : (vs[k]).2 = some y) :
    Calls Try.prog 47 #[.pointer (some ⟨rb, 0, none⟩), .int .i64 ((k : Int) + 1), .int .i64 at_, .int .i64 now] w fun e w' => (if fin y = true ∨ y.after < 1 ∨ pst now (plus at_ y.after) = false then e = .returned (.tuple #[rqV rq0, .bool false]) else e = .returned (.tuple #[rqV (vs[k]).1, .bool true])) ∧ Frm0 w w' := by
  have hF0 := (Frm.refl (fun _ => False) w).alloc (.cells #[.int .i64 0, .int .i64 0, .int .i64 0, .string ⟨#[]⟩, .string ⟨#[]⟩, .string ⟨#[]⟩, .string ⟨#[]⟩] 84)
  have hbR := Bk.new w (.cells #[.int .i64 0, .int .i64 0, .int .i64 0, .string ⟨#[]⟩, .string ⟨#[]⟩, .string ⟨#[]⟩, .string ⟨#[]⟩] 84)
  have h1 := h.frm0 hF0
  obtain ⟨b0, b1, b2, b3⟩ := Bk.c4 h1.blk
  obtain ⟨A1, p1, rfl⟩ := form_of h1.r1
  obtain ⟨g1, p1', he⟩ := pos_of h1.r1 (by omega)
  cases he
  obtain ⟨g2, p2, rfl⟩ := pos_of h1.r2 (by omega)
  obtain ⟨g3, p3, rfl⟩ := pos_of h1.r3 (by omega)
  have x2 : (w.alloc (.cells #[.int .i64 0, .int .i64 0, .int .i64 0, .string ⟨#[]⟩, .string ⟨#[]⟩, .string ⟨#[]⟩, .string ⟨#[]⟩] 84)).cell? ⟨g2, k, none⟩ = some (.bool true) := by rw [h1.r2.cellAt k (by omega), c2_at vs k hk, hy]; rfl
  have hf3 : f3 vs[k] = [.int .i64 y.client, .int .i64 y.serial, .int .i64 y.status, .string y.text, .int .i64 y.after, .int .i64 y.epoch] := by unfold f3; rw [hy]; rfl
  have hki : (k : Int) < (vs.length : Int) := by omega
  have d1 : decide ((k : Int) + 1 < 1) = false := decide_eq_false (by omega)
  have d2 : decide ((vs.length : Int) < (k : Int) + 1) = false := decide_eq_false (by omega)
  have HR3 := Lib.hid h1.r3
  have HR1 := Lib.hid h1.r1
  have H1 := Lib.hid h1
  have HF3 := Lib.hid hf3
  clear h hf3 h1 hy
  have HFI := Lib.hid (fun w => final_any y w)
  obtain ⟨z0, z1, z2, z3, z4, z5⟩ := y
  generalize fin ⟨z0, z1, z2, z3, z4, z5⟩ = q at *
  unfold anV at HFI
  simp only at HFI HF3 ⊢
  unfold rqV rq0
  simp only
  have hpp : (pst now (plus at_ z4) = false ∧ decide (tm now < plus at_ z4) = true) ∨ (pst now (plus at_ z4) = true ∧ decide (tm now < plus at_ z4) = false) := by
    have e : tm (plus at_ z4) = plus at_ z4 := by unfold plus; rw [tm_tm]
    unfold pst
    rw [e]
    by_cases hc : plus at_ z4 ≤ tm now
    · exact .inr ⟨decide_eq_true hc, decide_eq_false (by omega)⟩
    · exact .inl ⟨decide_eq_false hc, decide_eq_true (by omega)⟩
  have HT1 := Lib.hid (fun w => rtime_to (a := now) rfl w)
  have HT2 := Lib.hid (fun w => rtime_to (a := at_) rfl w)
  have HT3 := Lib.hid (fun w => rnumber_to (a := z4) rfl w)
  have HT4 := Lib.hid (fun w => rtime_to (a := tm at_ + nb z4) (c := plus at_ z4) rfl w)
  have t1 := tm_bd at_
  have t2 := nb_bd z4
  have t3 := tm_bd now
  have e3 : IntKind.i64.wrap (tm at_ + nb z4) = tm at_ + nb z4 := IntWalk.i64_in _ (by omega)
  by_cases hc : q = true ∨ z4 < 1 ∨ pst now (plus at_ z4) = false
  · simp only [if_pos hc]
    have hcs : q = true ∨ (q = false ∧ decide (z4 < 1) = true) ∨ (q = false ∧ decide (z4 < 1) = false ∧ decide (tm now < plus at_ z4) = true) := by
      cases q
      · by_cases h4 : z4 < 1
        · exact .inr (.inl ⟨rfl, decide_eq_true h4⟩)
        · refine .inr (.inr ⟨rfl, decide_eq_false h4, ?_⟩)
          rcases hpp with h | h
          · exact h.2
          · rcases hc with h5 | h5 | h5
            · cases h5
            · exact absurd h5 h4
            · rw [h.1] at h5; cases h5
      · exact .inl rfl
    clear hc hpp
    rcases hcs with rfl | ⟨rfl, d4⟩ | ⟨rfl, d4, d5⟩
    · go_enter Try.func47, Try.ntmps47
      go_wp2_with (refine wpList_load_row rfl 86 (.tmp 40) rfl (f := f3) (l := vs) HR3.out f3_len rfl hk rfl Try.underlying86 rfl iAn ?_; rw [HF3.out])
      have hF1 := hF0.alloc (.cells #[.int .i64 z0, .int .i64 z1, .int .i64 z2, .string z3, .int .i64 z4, .int .i64 z5] 86)
      have hbA := new_second w (.cells #[.int .i64 0, .int .i64 0, .int .i64 0, .string ⟨#[]⟩, .string ⟨#[]⟩, .string ⟨#[]⟩, .string ⟨#[]⟩] 84) (.cells #[.int .i64 z0, .int .i64 z1, .int .i64 z2, .string z3, .int .i64 z4, .int .i64 z5] 86)
      have hbR1 := Bk.alloc hbR (.cells #[.int .i64 z0, .int .i64 z1, .int .i64 z2, .string z3, .int .i64 z4, .int .i64 z5] 86)
      obtain ⟨a0, a1, a2, a3, a4, a5⟩ := Bk.c6 hbA
      have hA1 := H1.out.frm0 ((Frm.refl _ _).alloc (.cells #[.int .i64 z0, .int .i64 z1, .int .i64 z2, .string z3, .int .i64 z4, .int .i64 z5] 86))
      generalize (w.alloc (.cells #[.int .i64 0, .int .i64 0, .int .i64 0, .string ⟨#[]⟩, .string ⟨#[]⟩, .string ⟨#[]⟩, .string ⟨#[]⟩] 84)).alloc (.cells #[.int .i64 z0, .int .i64 z1, .int .i64 z2, .string z3, .int .i64 z4, .int .i64 z5] 86) = w2 at *
      refine wp_region_held_drew (S := (fun w' => w'.cell? ⟨w.heap.size + 1, 0, none⟩ = some (.int .i64 z0) ∧ w'.cell? ⟨w.heap.size + 1, 1, none⟩ = some (.int .i64 z1) ∧ w'.cell? ⟨w.heap.size + 1, 2, none⟩ = some (.int .i64 z2) ∧ w'.cell? ⟨w.heap.size + 1, 3, none⟩ = some (.string z3) ∧ w'.cell? ⟨w.heap.size + 1, 4, none⟩ = some (.int .i64 z4) ∧ w'.cell? ⟨w.heap.size + 1, 5, none⟩ = some (.int .i64 z5) ∧ Frm0 w2 w')) (by kernel_rfl) (⟨a0, a1, a2, a3, a4, a5, (Frm.refl _ w2).drew⟩) (fun hHeld => ?_)
      skip
      refine wpAnyH_take (i := 0) (v := ?_) rfl (by kernel_rfl) (by kernel_rfl) (by kernel_rfl) (fun _ _ _ h => h) (Or.inl ⟨by rfl, ?_⟩) (by assumption) ?_
      rotate_left 1
      focus (intro w hSw; (try dsimp only at hSw); go_simp; (try with_reducible rfl))
      (try simp only [Act.put, List.getElem_toArray, List.getElem_cons_succ, List.getElem_cons_zero, List.setIfInBounds_toArray, List.set_cons_zero, List.set_cons_succ])
      refine wpAnyH_ready (rs := [1]) (by kernel_rfl) (by simp) ?_
      refine AllReadyH.cons rfl (fun K hK => ?_) AllReadyH.nil
      go_simp
      refine (HFI.out _).mono ?_
      rintro e w9 ⟨rfl, hf9⟩
      (try go_wp2_with fail)
      refine hK.out _ _ ?_ (fun hHeld => ?_)
      focus (exact keep6 (by assumption) hf9)
      clear hK K
      (try simp only [Act.put, List.getElem_toArray, List.getElem_cons_succ, List.getElem_cons_zero, List.setIfInBounds_toArray, List.set_cons_zero, List.set_cons_succ])
      refine wpAnyH_take (i := 2) (v := ?_) rfl (by kernel_rfl) (by kernel_rfl) (by kernel_rfl) (fun _ _ _ h => h) (Or.inl ⟨by rfl, ?_⟩) (by assumption) ?_
      rotate_left 1
      focus (intro w hSw; (try dsimp only at hSw); go_simp; (try with_reducible rfl))
      (try simp only [Act.put, List.getElem_toArray, List.getElem_cons_succ, List.getElem_cons_zero, List.setIfInBounds_toArray, List.set_cons_zero, List.set_cons_succ])
      refine wpAnyH_take (i := 3) (v := undef) rfl (by kernel_rfl) (by kernel_rfl) (by kernel_rfl) (fun _ _ _ h => h) (Or.inr ⟨by rfl, rfl⟩) (by assumption) ?_
      (try simp only [Act.put, List.getElem_toArray, List.getElem_cons_succ, List.getElem_cons_zero, List.setIfInBounds_toArray, List.set_cons_zero, List.set_cons_succ])
      refine wpAnyH_take (i := 4) (v := undef) rfl (by kernel_rfl) (by kernel_rfl) (by kernel_rfl) (fun _ _ _ h => h) (Or.inr ⟨by rfl, rfl⟩) (by assumption) ?_
      (try simp only [Act.put, List.getElem_toArray, List.getElem_cons_succ, List.getElem_cons_zero, List.setIfInBounds_toArray, List.set_cons_zero, List.set_cons_succ])
      refine wpAnyH_take (i := 5) (v := undef) rfl (by kernel_rfl) (by kernel_rfl) (by kernel_rfl) (fun _ _ _ h => h) (Or.inr ⟨by rfl, rfl⟩) (by assumption) ?_
      (try simp only [Act.put, List.getElem_toArray, List.getElem_cons_succ, List.getElem_cons_zero, List.setIfInBounds_toArray, List.set_cons_zero, List.set_cons_succ])
      refine wpAnyH_take (i := 6) (v := ?_) rfl (by kernel_rfl) (by kernel_rfl) (by kernel_rfl) (fun _ _ _ h => h) (Or.inl ⟨by rfl, ?_⟩) (by assumption) ?_
      rotate_left 1
      focus (intro w hSw; (try dsimp only at hSw); go_simp; (try with_reducible rfl))
      (try simp only [Act.put, List.getElem_toArray, List.getElem_cons_succ, List.getElem_cons_zero, List.setIfInBounds_toArray, List.set_cons_zero, List.set_cons_succ])
      refine wpAnyH_take (i := 7) (v := ?_) rfl (by kernel_rfl) (by kernel_rfl) (by kernel_rfl) (fun _ _ _ h => h) (Or.inl ⟨by rfl, ?_⟩) (by assumption) ?_
      rotate_left 1
      focus (intro w hSw; (try dsimp only at hSw); go_simp; (try with_reducible rfl))
      (try simp only [Act.put, List.getElem_toArray, List.getElem_cons_succ, List.getElem_cons_zero, List.setIfInBounds_toArray, List.set_cons_zero, List.set_cons_succ])
      refine wpAnyH_take (i := 8) (v := undef) rfl (by kernel_rfl) (by kernel_rfl) (by kernel_rfl) (fun _ _ _ h => h) (Or.inr ⟨by rfl, rfl⟩) (by assumption) ?_
      (try simp only [Act.put, List.getElem_toArray, List.getElem_cons_succ, List.getElem_cons_zero, List.setIfInBounds_toArray, List.set_cons_zero, List.set_cons_succ])
      refine wpAnyH_take (i := 9) (v := undef) rfl (by kernel_rfl) (by kernel_rfl) (by kernel_rfl) (fun _ _ _ h => h) (Or.inr ⟨by rfl, rfl⟩) (by assumption) ?_
      (try simp only [Act.put, List.getElem_toArray, List.getElem_cons_succ, List.getElem_cons_zero, List.setIfInBounds_toArray, List.set_cons_zero, List.set_cons_succ])
      refine wpAnyH_take (i := 10) (v := undef) rfl (by kernel_rfl) (by kernel_rfl) (by kernel_rfl) (fun _ _ _ h => h) (Or.inr ⟨by rfl, rfl⟩) (by assumption) ?_
      (try simp only [Act.put, List.getElem_toArray, List.getElem_cons_succ, List.getElem_cons_zero, List.setIfInBounds_toArray, List.set_cons_zero, List.set_cons_succ])
      refine wpAnyH_take (i := 11) (v := undef) rfl (by kernel_rfl) (by kernel_rfl) (by kernel_rfl) (fun _ _ _ h => h) (Or.inr ⟨by rfl, rfl⟩) (by assumption) ?_
      (try simp only [Act.put, List.getElem_toArray, List.getElem_cons_succ, List.getElem_cons_zero, List.setIfInBounds_toArray, List.set_cons_zero, List.set_cons_succ])
      refine wpAnyH_take (i := 12) (v := undef) rfl (by kernel_rfl) (by kernel_rfl) (by kernel_rfl) (fun _ _ _ h => h) (Or.inr ⟨by rfl, rfl⟩) (by assumption) ?_
      (try simp only [Act.put, List.getElem_toArray, List.getElem_cons_succ, List.getElem_cons_zero, List.setIfInBounds_toArray, List.set_cons_zero, List.set_cons_succ])
      refine wpAnyH_take (i := 13) (v := undef) rfl (by kernel_rfl) (by kernel_rfl) (by kernel_rfl) (fun _ _ _ h => h) (Or.inr ⟨by rfl, rfl⟩) (by assumption) ?_
      (try simp only [Act.put, List.getElem_toArray, List.getElem_cons_succ, List.getElem_cons_zero, List.setIfInBounds_toArray, List.set_cons_zero, List.set_cons_succ])
      refine wpAnyH_take (i := 14) (v := undef) rfl (by kernel_rfl) (by kernel_rfl) (by kernel_rfl) (fun _ _ _ h => h) (Or.inr ⟨by rfl, rfl⟩) (by assumption) ?_
      (try simp only [Act.put, List.getElem_toArray, List.getElem_cons_succ, List.getElem_cons_zero, List.setIfInBounds_toArray, List.set_cons_zero, List.set_cons_succ])
      refine wpAnyH_take (i := 15) (v := undef) rfl (by kernel_rfl) (by kernel_rfl) (by kernel_rfl) (fun _ _ _ h => h) (Or.inr ⟨by rfl, rfl⟩) (by assumption) ?_
      (try simp only [Act.put, List.getElem_toArray, List.getElem_cons_succ, List.getElem_cons_zero, List.setIfInBounds_toArray, List.set_cons_zero, List.set_cons_succ])
      refine wpAnyH_take (i := 16) (v := undef) rfl (by kernel_rfl) (by kernel_rfl) (by kernel_rfl) (fun _ _ _ h => h) (Or.inr ⟨by rfl, rfl⟩) (by assumption) ?_
      (try simp only [Act.put, List.getElem_toArray, List.getElem_cons_succ, List.getElem_cons_zero, List.setIfInBounds_toArray, List.set_cons_zero, List.set_cons_succ])
      refine wpAnyH_take (i := 17) (v := undef) rfl (by kernel_rfl) (by kernel_rfl) (by kernel_rfl) (fun _ _ _ h => h) (Or.inr ⟨by rfl, rfl⟩) (by assumption) ?_
      (try simp only [Act.put, List.getElem_toArray, List.getElem_cons_succ, List.getElem_cons_zero, List.setIfInBounds_toArray, List.set_cons_zero, List.set_cons_succ])
      refine wpAnyH_take (i := 18) (v := ?_) rfl (by kernel_rfl) (by kernel_rfl) (by kernel_rfl) (fun _ _ _ h => h) (Or.inl ⟨by rfl, ?_⟩) (by assumption) ?_
      rotate_left 1
      focus (intro w hSw; (try dsimp only at hSw); go_simp; (try with_reducible rfl))
      (try simp only [Act.put, List.getElem_toArray, List.getElem_cons_succ, List.getElem_cons_zero, List.setIfInBounds_toArray, List.set_cons_zero, List.set_cons_succ])
      refine wpAnyH_done (by kernel_rfl) ?_ _
      have hF9 := frm6 (by assumption)
      have hFa := hF1.trans hF9
      have hZ := hF9.blk hbR1 (fun h => h)
      go_wp2_with (refine wpList_store_blk rfl 84 (.tmp 8) (.tmp 61) rfl hZ rfl rfl iRq rfl rfl rfl ?_; intro w12 hb12 hf12)
      (try simp only [Exit.inBlock, Exit.then])
      refine ret_cell1 rfl Try.underlying84 rfl iRq hb12 rfl rfl rfl rfl ?_
      exact ⟨rfl, hFa.then_ hf12 (fun i hi e => by omega)⟩
    · go_enter Try.func47, Try.ntmps47
      go_wp2_with (refine wpList_load_row rfl 86 (.tmp 40) rfl (f := f3) (l := vs) HR3.out f3_len rfl hk rfl Try.underlying86 rfl iAn ?_; rw [HF3.out])
      have hF1 := hF0.alloc (.cells #[.int .i64 z0, .int .i64 z1, .int .i64 z2, .string z3, .int .i64 z4, .int .i64 z5] 86)
      have hbA := new_second w (.cells #[.int .i64 0, .int .i64 0, .int .i64 0, .string ⟨#[]⟩, .string ⟨#[]⟩, .string ⟨#[]⟩, .string ⟨#[]⟩] 84) (.cells #[.int .i64 z0, .int .i64 z1, .int .i64 z2, .string z3, .int .i64 z4, .int .i64 z5] 86)
      have hbR1 := Bk.alloc hbR (.cells #[.int .i64 z0, .int .i64 z1, .int .i64 z2, .string z3, .int .i64 z4, .int .i64 z5] 86)
      obtain ⟨a0, a1, a2, a3, a4, a5⟩ := Bk.c6 hbA
      have hA1 := H1.out.frm0 ((Frm.refl _ _).alloc (.cells #[.int .i64 z0, .int .i64 z1, .int .i64 z2, .string z3, .int .i64 z4, .int .i64 z5] 86))
      generalize (w.alloc (.cells #[.int .i64 0, .int .i64 0, .int .i64 0, .string ⟨#[]⟩, .string ⟨#[]⟩, .string ⟨#[]⟩, .string ⟨#[]⟩] 84)).alloc (.cells #[.int .i64 z0, .int .i64 z1, .int .i64 z2, .string z3, .int .i64 z4, .int .i64 z5] 86) = w2 at *
      refine wp_region_held_drew (S := (fun w' => w'.cell? ⟨w.heap.size + 1, 0, none⟩ = some (.int .i64 z0) ∧ w'.cell? ⟨w.heap.size + 1, 1, none⟩ = some (.int .i64 z1) ∧ w'.cell? ⟨w.heap.size + 1, 2, none⟩ = some (.int .i64 z2) ∧ w'.cell? ⟨w.heap.size + 1, 3, none⟩ = some (.string z3) ∧ w'.cell? ⟨w.heap.size + 1, 4, none⟩ = some (.int .i64 z4) ∧ w'.cell? ⟨w.heap.size + 1, 5, none⟩ = some (.int .i64 z5) ∧ Frm0 w2 w')) (by kernel_rfl) (⟨a0, a1, a2, a3, a4, a5, (Frm.refl _ w2).drew⟩) (fun hHeld => ?_)
      skip
      refine wpAnyH_take (i := 0) (v := ?_) rfl (by kernel_rfl) (by kernel_rfl) (by kernel_rfl) (fun _ _ _ h => h) (Or.inl ⟨by rfl, ?_⟩) (by assumption) ?_
      rotate_left 1
      focus (intro w hSw; (try dsimp only at hSw); go_simp; (try with_reducible rfl))
      (try simp only [Act.put, List.getElem_toArray, List.getElem_cons_succ, List.getElem_cons_zero, List.setIfInBounds_toArray, List.set_cons_zero, List.set_cons_succ])
      refine wpAnyH_ready (rs := [1]) (by kernel_rfl) (by simp) ?_
      refine AllReadyH.cons rfl (fun K hK => ?_) AllReadyH.nil
      go_simp
      refine (HFI.out _).mono ?_
      rintro e w9 ⟨rfl, hf9⟩
      (try go_wp2_with fail)
      refine hK.out _ _ ?_ (fun hHeld => ?_)
      focus (exact keep6 (by assumption) hf9)
      clear hK K
      (try simp only [Act.put, List.getElem_toArray, List.getElem_cons_succ, List.getElem_cons_zero, List.setIfInBounds_toArray, List.set_cons_zero, List.set_cons_succ])
      refine wpAnyH_take (i := 2) (v := ?_) rfl (by kernel_rfl) (by kernel_rfl) (by kernel_rfl) (fun _ _ _ h => h) (Or.inl ⟨by rfl, ?_⟩) (by assumption) ?_
      rotate_left 1
      focus (intro w hSw; (try dsimp only at hSw); go_simp; (try with_reducible rfl))
      (try simp only [Act.put, List.getElem_toArray, List.getElem_cons_succ, List.getElem_cons_zero, List.setIfInBounds_toArray, List.set_cons_zero, List.set_cons_succ])
      refine wpAnyH_take (i := 3) (v := ?_) rfl (by kernel_rfl) (by kernel_rfl) (by kernel_rfl) (fun _ _ _ h => h) (Or.inl ⟨by rfl, ?_⟩) (by assumption) ?_
      rotate_left 1
      focus (intro w hSw; (try dsimp only at hSw); go_simp; (try with_reducible rfl))
      (try simp only [Act.put, List.getElem_toArray, List.getElem_cons_succ, List.getElem_cons_zero, List.setIfInBounds_toArray, List.set_cons_zero, List.set_cons_succ])
      refine wpAnyH_take (i := 4) (v := ?_) rfl (by kernel_rfl) (by kernel_rfl) (by kernel_rfl) (fun _ _ _ h => h) (Or.inl ⟨by rfl, ?_⟩) (by assumption) ?_
      rotate_left 1
      focus (intro w hSw; (try dsimp only at hSw); go_simp; (try with_reducible rfl))
      (try simp only [Act.put, List.getElem_toArray, List.getElem_cons_succ, List.getElem_cons_zero, List.setIfInBounds_toArray, List.set_cons_zero, List.set_cons_succ])
      refine wpAnyH_take (i := 5) (v := ?_) rfl (by kernel_rfl) (by kernel_rfl) (by kernel_rfl) (fun _ _ _ h => h) (Or.inl ⟨by rfl, ?_⟩) (by assumption) ?_
      rotate_left 1
      focus (intro w hSw; (try dsimp only at hSw); go_simp; (try with_reducible rfl))
      (try simp only [Act.put, List.getElem_toArray, List.getElem_cons_succ, List.getElem_cons_zero, List.setIfInBounds_toArray, List.set_cons_zero, List.set_cons_succ])
      refine wpAnyH_take (i := 6) (v := ?_) rfl (by kernel_rfl) (by kernel_rfl) (by kernel_rfl) (fun _ _ _ h => h) (Or.inl ⟨by rfl, ?_⟩) (by assumption) ?_
      rotate_left 1
      focus (intro w hSw; (try dsimp only at hSw); go_simp; (try with_reducible rfl))
      (try simp only [Act.put, List.getElem_toArray, List.getElem_cons_succ, List.getElem_cons_zero, List.setIfInBounds_toArray, List.set_cons_zero, List.set_cons_succ])
      refine wpAnyH_take (i := 7) (v := ?_) rfl (by kernel_rfl) (by kernel_rfl) (by kernel_rfl) (fun _ _ _ h => h) (Or.inl ⟨by rfl, ?_⟩) (by assumption) ?_
      rotate_left 1
      focus (intro w hSw; (try dsimp only at hSw); go_simp; (try with_reducible rfl))
      (try simp only [Act.put, List.getElem_toArray, List.getElem_cons_succ, List.getElem_cons_zero, List.setIfInBounds_toArray, List.set_cons_zero, List.set_cons_succ])
      refine wpAnyH_take (i := 8) (v := undef) rfl (by kernel_rfl) (by kernel_rfl) (by kernel_rfl) (fun _ _ _ h => h) (Or.inr ⟨by rfl, rfl⟩) (by assumption) ?_
      (try simp only [Act.put, List.getElem_toArray, List.getElem_cons_succ, List.getElem_cons_zero, List.setIfInBounds_toArray, List.set_cons_zero, List.set_cons_succ])
      refine wpAnyH_take (i := 9) (v := undef) rfl (by kernel_rfl) (by kernel_rfl) (by kernel_rfl) (fun _ _ _ h => h) (Or.inr ⟨by rfl, rfl⟩) (by assumption) ?_
      (try simp only [Act.put, List.getElem_toArray, List.getElem_cons_succ, List.getElem_cons_zero, List.setIfInBounds_toArray, List.set_cons_zero, List.set_cons_succ])
      refine wpAnyH_take (i := 10) (v := undef) rfl (by kernel_rfl) (by kernel_rfl) (by kernel_rfl) (fun _ _ _ h => h) (Or.inr ⟨by rfl, rfl⟩) (by assumption) ?_
      (try simp only [Act.put, List.getElem_toArray, List.getElem_cons_succ, List.getElem_cons_zero, List.setIfInBounds_toArray, List.set_cons_zero, List.set_cons_succ])
      refine wpAnyH_take (i := 11) (v := undef) rfl (by kernel_rfl) (by kernel_rfl) (by kernel_rfl) (fun _ _ _ h => h) (Or.inr ⟨by rfl, rfl⟩) (by assumption) ?_
      (try simp only [Act.put, List.getElem_toArray, List.getElem_cons_succ, List.getElem_cons_zero, List.setIfInBounds_toArray, List.set_cons_zero, List.set_cons_succ])
      refine wpAnyH_take (i := 12) (v := undef) rfl (by kernel_rfl) (by kernel_rfl) (by kernel_rfl) (fun _ _ _ h => h) (Or.inr ⟨by rfl, rfl⟩) (by assumption) ?_
      (try simp only [Act.put, List.getElem_toArray, List.getElem_cons_succ, List.getElem_cons_zero, List.setIfInBounds_toArray, List.set_cons_zero, List.set_cons_succ])
      refine wpAnyH_take (i := 13) (v := undef) rfl (by kernel_rfl) (by kernel_rfl) (by kernel_rfl) (fun _ _ _ h => h) (Or.inr ⟨by rfl, rfl⟩) (by assumption) ?_
      (try simp only [Act.put, List.getElem_toArray, List.getElem_cons_succ, List.getElem_cons_zero, List.setIfInBounds_toArray, List.set_cons_zero, List.set_cons_succ])
      refine wpAnyH_take (i := 14) (v := undef) rfl (by kernel_rfl) (by kernel_rfl) (by kernel_rfl) (fun _ _ _ h => h) (Or.inr ⟨by rfl, rfl⟩) (by assumption) ?_
      (try simp only [Act.put, List.getElem_toArray, List.getElem_cons_succ, List.getElem_cons_zero, List.setIfInBounds_toArray, List.set_cons_zero, List.set_cons_succ])
      refine wpAnyH_take (i := 15) (v := undef) rfl (by kernel_rfl) (by kernel_rfl) (by kernel_rfl) (fun _ _ _ h => h) (Or.inr ⟨by rfl, rfl⟩) (by assumption) ?_
      (try simp only [Act.put, List.getElem_toArray, List.getElem_cons_succ, List.getElem_cons_zero, List.setIfInBounds_toArray, List.set_cons_zero, List.set_cons_succ])
      refine wpAnyH_take (i := 16) (v := undef) rfl (by kernel_rfl) (by kernel_rfl) (by kernel_rfl) (fun _ _ _ h => h) (Or.inr ⟨by rfl, rfl⟩) (by assumption) ?_
      (try simp only [Act.put, List.getElem_toArray, List.getElem_cons_succ, List.getElem_cons_zero, List.setIfInBounds_toArray, List.set_cons_zero, List.set_cons_succ])
      refine wpAnyH_take (i := 17) (v := undef) rfl (by kernel_rfl) (by kernel_rfl) (by kernel_rfl) (fun _ _ _ h => h) (Or.inr ⟨by rfl, rfl⟩) (by assumption) ?_
      (try simp only [Act.put, List.getElem_toArray, List.getElem_cons_succ, List.getElem_cons_zero, List.setIfInBounds_toArray, List.set_cons_zero, List.set_cons_succ])
      refine wpAnyH_take (i := 18) (v := ?_) rfl (by kernel_rfl) (by kernel_rfl) (by kernel_rfl) (fun _ _ _ h => h) (Or.inl ⟨by rfl, ?_⟩) (by assumption) ?_
      rotate_left 1
      focus (intro w hSw; (try dsimp only at hSw); go_simp; (try with_reducible rfl))
      (try simp only [Act.put, List.getElem_toArray, List.getElem_cons_succ, List.getElem_cons_zero, List.setIfInBounds_toArray, List.set_cons_zero, List.set_cons_succ])
      refine wpAnyH_done (by kernel_rfl) ?_ _
      have hF9 := frm6 (by assumption)
      have hFa := hF1.trans hF9
      have hZ := hF9.blk hbR1 (fun h => h)
      go_wp2_with (refine wpList_store_blk rfl 84 (.tmp 8) (.tmp 61) rfl hZ rfl rfl iRq rfl rfl rfl ?_; intro w12 hb12 hf12)
      (try simp only [Exit.inBlock, Exit.then])
      refine ret_cell1 rfl Try.underlying84 rfl iRq hb12 rfl rfl rfl rfl ?_
      exact ⟨rfl, hFa.then_ hf12 (fun i hi e => by omega)⟩
    · go_enter Try.func47, Try.ntmps47
      go_wp2_with (refine wpList_load_row rfl 86 (.tmp 40) rfl (f := f3) (l := vs) HR3.out f3_len rfl hk rfl Try.underlying86 rfl iAn ?_; rw [HF3.out])
      have hF1 := hF0.alloc (.cells #[.int .i64 z0, .int .i64 z1, .int .i64 z2, .string z3, .int .i64 z4, .int .i64 z5] 86)
      have hbA := new_second w (.cells #[.int .i64 0, .int .i64 0, .int .i64 0, .string ⟨#[]⟩, .string ⟨#[]⟩, .string ⟨#[]⟩, .string ⟨#[]⟩] 84) (.cells #[.int .i64 z0, .int .i64 z1, .int .i64 z2, .string z3, .int .i64 z4, .int .i64 z5] 86)
      have hbR1 := Bk.alloc hbR (.cells #[.int .i64 z0, .int .i64 z1, .int .i64 z2, .string z3, .int .i64 z4, .int .i64 z5] 86)
      obtain ⟨a0, a1, a2, a3, a4, a5⟩ := Bk.c6 hbA
      have hA1 := H1.out.frm0 ((Frm.refl _ _).alloc (.cells #[.int .i64 z0, .int .i64 z1, .int .i64 z2, .string z3, .int .i64 z4, .int .i64 z5] 86))
      generalize (w.alloc (.cells #[.int .i64 0, .int .i64 0, .int .i64 0, .string ⟨#[]⟩, .string ⟨#[]⟩, .string ⟨#[]⟩, .string ⟨#[]⟩] 84)).alloc (.cells #[.int .i64 z0, .int .i64 z1, .int .i64 z2, .string z3, .int .i64 z4, .int .i64 z5] 86) = w2 at *
      refine wp_region_held_drew (S := (fun w' => w'.cell? ⟨w.heap.size + 1, 0, none⟩ = some (.int .i64 z0) ∧ w'.cell? ⟨w.heap.size + 1, 1, none⟩ = some (.int .i64 z1) ∧ w'.cell? ⟨w.heap.size + 1, 2, none⟩ = some (.int .i64 z2) ∧ w'.cell? ⟨w.heap.size + 1, 3, none⟩ = some (.string z3) ∧ w'.cell? ⟨w.heap.size + 1, 4, none⟩ = some (.int .i64 z4) ∧ w'.cell? ⟨w.heap.size + 1, 5, none⟩ = some (.int .i64 z5) ∧ Frm0 w2 w')) (by kernel_rfl) (⟨a0, a1, a2, a3, a4, a5, (Frm.refl _ w2).drew⟩) (fun hHeld => ?_)
      skip
      refine wpAnyH_take (i := 0) (v := ?_) rfl (by kernel_rfl) (by kernel_rfl) (by kernel_rfl) (fun _ _ _ h => h) (Or.inl ⟨by rfl, ?_⟩) (by assumption) ?_
      rotate_left 1
      focus (intro w hSw; (try dsimp only at hSw); go_simp; (try with_reducible rfl))
      (try simp only [Act.put, List.getElem_toArray, List.getElem_cons_succ, List.getElem_cons_zero, List.setIfInBounds_toArray, List.set_cons_zero, List.set_cons_succ])
      refine wpAnyH_ready (rs := [1]) (by kernel_rfl) (by simp) ?_
      refine AllReadyH.cons rfl (fun K hK => ?_) AllReadyH.nil
      go_simp
      refine (HFI.out _).mono ?_
      rintro e w9 ⟨rfl, hf9⟩
      (try go_wp2_with fail)
      refine hK.out _ _ ?_ (fun hHeld => ?_)
      focus (exact keep6 (by assumption) hf9)
      clear hK K
      (try simp only [Act.put, List.getElem_toArray, List.getElem_cons_succ, List.getElem_cons_zero, List.setIfInBounds_toArray, List.set_cons_zero, List.set_cons_succ])
      refine wpAnyH_take (i := 2) (v := ?_) rfl (by kernel_rfl) (by kernel_rfl) (by kernel_rfl) (fun _ _ _ h => h) (Or.inl ⟨by rfl, ?_⟩) (by assumption) ?_
      rotate_left 1
      focus (intro w hSw; (try dsimp only at hSw); go_simp; (try with_reducible rfl))
      (try simp only [Act.put, List.getElem_toArray, List.getElem_cons_succ, List.getElem_cons_zero, List.setIfInBounds_toArray, List.set_cons_zero, List.set_cons_succ])
      refine wpAnyH_take (i := 3) (v := ?_) rfl (by kernel_rfl) (by kernel_rfl) (by kernel_rfl) (fun _ _ _ h => h) (Or.inl ⟨by rfl, ?_⟩) (by assumption) ?_
      rotate_left 1
      focus (intro w hSw; (try dsimp only at hSw); go_simp; (try with_reducible rfl))
      (try simp only [Act.put, List.getElem_toArray, List.getElem_cons_succ, List.getElem_cons_zero, List.setIfInBounds_toArray, List.set_cons_zero, List.set_cons_succ])
      refine wpAnyH_take (i := 4) (v := ?_) rfl (by kernel_rfl) (by kernel_rfl) (by kernel_rfl) (fun _ _ _ h => h) (Or.inl ⟨by rfl, ?_⟩) (by assumption) ?_
      rotate_left 1
      focus (intro w hSw; (try dsimp only at hSw); go_simp; (try with_reducible rfl))
      (try simp only [Act.put, List.getElem_toArray, List.getElem_cons_succ, List.getElem_cons_zero, List.setIfInBounds_toArray, List.set_cons_zero, List.set_cons_succ])
      refine wpAnyH_take (i := 5) (v := ?_) rfl (by kernel_rfl) (by kernel_rfl) (by kernel_rfl) (fun _ _ _ h => h) (Or.inl ⟨by rfl, ?_⟩) (by assumption) ?_
      rotate_left 1
      focus (intro w hSw; (try dsimp only at hSw); go_simp; (try with_reducible rfl))
      (try simp only [Act.put, List.getElem_toArray, List.getElem_cons_succ, List.getElem_cons_zero, List.setIfInBounds_toArray, List.set_cons_zero, List.set_cons_succ])
      refine wpAnyH_take (i := 6) (v := ?_) rfl (by kernel_rfl) (by kernel_rfl) (by kernel_rfl) (fun _ _ _ h => h) (Or.inl ⟨by rfl, ?_⟩) (by assumption) ?_
      rotate_left 1
      focus (intro w hSw; (try dsimp only at hSw); go_simp; (try with_reducible rfl))
      (try simp only [Act.put, List.getElem_toArray, List.getElem_cons_succ, List.getElem_cons_zero, List.setIfInBounds_toArray, List.set_cons_zero, List.set_cons_succ])
      refine wpAnyH_take (i := 7) (v := ?_) rfl (by kernel_rfl) (by kernel_rfl) (by kernel_rfl) (fun _ _ _ h => h) (Or.inl ⟨by rfl, ?_⟩) (by assumption) ?_
      rotate_left 1
      focus (intro w hSw; (try dsimp only at hSw); go_simp; (try with_reducible rfl))
      (try simp only [Act.put, List.getElem_toArray, List.getElem_cons_succ, List.getElem_cons_zero, List.setIfInBounds_toArray, List.set_cons_zero, List.set_cons_succ])
      refine wpAnyH_take (i := 8) (v := ?_) rfl (by kernel_rfl) (by kernel_rfl) (by kernel_rfl) (fun _ _ _ h => h) (Or.inl ⟨by rfl, ?_⟩) (by assumption) ?_
      rotate_left 1
      focus (intro w hSw; (try dsimp only at hSw); go_simp; (try with_reducible rfl))
      (try simp only [Act.put, List.getElem_toArray, List.getElem_cons_succ, List.getElem_cons_zero, List.setIfInBounds_toArray, List.set_cons_zero, List.set_cons_succ])
      refine wpAnyH_take (i := 10) (v := ?_) rfl (by kernel_rfl) (by kernel_rfl) (by kernel_rfl) (fun _ _ _ h => h) (Or.inl ⟨by rfl, ?_⟩) (by assumption) ?_
      rotate_left 1
      focus (intro w hSw; (try dsimp only at hSw); go_simp; (try with_reducible rfl))
      (try simp only [Act.put, List.getElem_toArray, List.getElem_cons_succ, List.getElem_cons_zero, List.setIfInBounds_toArray, List.set_cons_zero, List.set_cons_succ])
      refine wpAnyH_take (i := 12) (v := ?_) rfl (by kernel_rfl) (by kernel_rfl) (by kernel_rfl) (fun _ _ _ h => h) (Or.inl ⟨by rfl, ?_⟩) (by assumption) ?_
      rotate_left 1
      focus (intro w hSw; (try dsimp only at hSw); go_simp; (try with_reducible rfl))
      (try simp only [Act.put, List.getElem_toArray, List.getElem_cons_succ, List.getElem_cons_zero, List.setIfInBounds_toArray, List.set_cons_zero, List.set_cons_succ])
      refine wpAnyH_take (i := 13) (v := ?_) rfl (by kernel_rfl) (by kernel_rfl) (by kernel_rfl) (fun _ _ _ h => h) (Or.inl ⟨by rfl, ?_⟩) (by assumption) ?_
      rotate_left 1
      focus (intro w hSw; (try dsimp only at hSw); go_simp; (try with_reducible rfl))
      (try simp only [Act.put, List.getElem_toArray, List.getElem_cons_succ, List.getElem_cons_zero, List.setIfInBounds_toArray, List.set_cons_zero, List.set_cons_succ])
      refine wpAnyH_ready (rs := [9]) (by kernel_rfl) (by simp) ?_
      refine AllReadyH.cons rfl (fun K hK => ?_) AllReadyH.nil
      go_simp
      refine (HT1.out _).mono ?_
      rintro e w10 ⟨rfl, rfl⟩
      (try go_wp2_with fail)
      refine hK.out _ _ ?_ (fun hHeld => ?_)
      focus (assumption)
      clear hK K
      (try simp only [Act.put, List.getElem_toArray, List.getElem_cons_succ, List.getElem_cons_zero, List.setIfInBounds_toArray, List.set_cons_zero, List.set_cons_succ])
      refine wpAnyH_ready (rs := [11]) (by kernel_rfl) (by simp) ?_
      refine AllReadyH.cons rfl (fun K hK => ?_) AllReadyH.nil
      go_simp
      refine (HT2.out _).mono ?_
      rintro e w10 ⟨rfl, rfl⟩
      (try go_wp2_with fail)
      refine hK.out _ _ ?_ (fun hHeld => ?_)
      focus (assumption)
      clear hK K
      (try simp only [Act.put, List.getElem_toArray, List.getElem_cons_succ, List.getElem_cons_zero, List.setIfInBounds_toArray, List.set_cons_zero, List.set_cons_succ])
      refine wpAnyH_ready (rs := [14]) (by kernel_rfl) (by simp) ?_
      refine AllReadyH.cons rfl (fun K hK => ?_) AllReadyH.nil
      go_simp
      refine (HT3.out _).mono ?_
      rintro e w10 ⟨rfl, rfl⟩
      (try go_wp2_with fail)
      refine hK.out _ _ ?_ (fun hHeld => ?_)
      focus (assumption)
      clear hK K
      (try simp only [Act.put, List.getElem_toArray, List.getElem_cons_succ, List.getElem_cons_zero, List.setIfInBounds_toArray, List.set_cons_zero, List.set_cons_succ])
      refine wpAnyH_take (i := 15) (v := ?_) rfl (by kernel_rfl) (by kernel_rfl) (by kernel_rfl) (fun _ _ _ h => h) (Or.inl ⟨by rfl, ?_⟩) (by assumption) ?_
      rotate_left 1
      focus (intro w hSw; (try dsimp only at hSw); go_simp; (try with_reducible rfl))
      (try simp only [Act.put, List.getElem_toArray, List.getElem_cons_succ, List.getElem_cons_zero, List.setIfInBounds_toArray, List.set_cons_zero, List.set_cons_succ])
      refine wpAnyH_ready (rs := [16]) (by kernel_rfl) (by simp) ?_
      refine AllReadyH.cons rfl (fun K hK => ?_) AllReadyH.nil
      go_simp
      refine (HT4.out _).mono ?_
      rintro e w10 ⟨rfl, rfl⟩
      (try go_wp2_with fail)
      refine hK.out _ _ ?_ (fun hHeld => ?_)
      focus (assumption)
      clear hK K
      (try simp only [Act.put, List.getElem_toArray, List.getElem_cons_succ, List.getElem_cons_zero, List.setIfInBounds_toArray, List.set_cons_zero, List.set_cons_succ])
      refine wpAnyH_take (i := 17) (v := ?_) rfl (by kernel_rfl) (by kernel_rfl) (by kernel_rfl) (fun _ _ _ h => h) (Or.inl ⟨by rfl, ?_⟩) (by assumption) ?_
      rotate_left 1
      focus (intro w hSw; (try dsimp only at hSw); go_simp; (try with_reducible rfl))
      (try simp only [Act.put, List.getElem_toArray, List.getElem_cons_succ, List.getElem_cons_zero, List.setIfInBounds_toArray, List.set_cons_zero, List.set_cons_succ])
      refine wpAnyH_take (i := 18) (v := ?_) rfl (by kernel_rfl) (by kernel_rfl) (by kernel_rfl) (fun _ _ _ h => h) (Or.inl ⟨by rfl, ?_⟩) (by assumption) ?_
      rotate_left 1
      focus (intro w hSw; (try dsimp only at hSw); go_simp; (try with_reducible rfl))
      (try simp only [Act.put, List.getElem_toArray, List.getElem_cons_succ, List.getElem_cons_zero, List.setIfInBounds_toArray, List.set_cons_zero, List.set_cons_succ])
      refine wpAnyH_done (by kernel_rfl) ?_ _
      have hF9 := frm6 (by assumption)
      have hFa := hF1.trans hF9
      have hZ := hF9.blk hbR1 (fun h => h)
      go_wp2_with (refine wpList_store_blk rfl 84 (.tmp 8) (.tmp 61) rfl hZ rfl rfl iRq rfl rfl rfl ?_; intro w12 hb12 hf12)
      (try simp only [Exit.inBlock, Exit.then])
      refine ret_cell1 rfl Try.underlying84 rfl iRq hb12 rfl rfl rfl rfl ?_
      exact ⟨rfl, hFa.then_ hf12 (fun i hi e => by omega)⟩
  · simp only [if_neg hc]
    have hcs : q = false ∧ decide (z4 < 1) = false ∧ decide (tm now < plus at_ z4) = false := by
      simp only [not_or, Bool.not_eq_true, Bool.not_eq_false] at hc
      refine ⟨hc.1, decide_eq_false hc.2.1, ?_⟩
      rcases hpp with h | h
      · rw [hc.2.2] at h; cases h.1
      · exact h.2
    obtain ⟨rfl, d4, d5⟩ := hcs
    clear hc hpp
    go_enter Try.func47, Try.ntmps47
    go_wp2_with (refine wpList_load_row rfl 86 (.tmp 40) rfl (f := f3) (l := vs) HR3.out f3_len rfl hk rfl Try.underlying86 rfl iAn ?_; rw [HF3.out])
    have hF1 := hF0.alloc (.cells #[.int .i64 z0, .int .i64 z1, .int .i64 z2, .string z3, .int .i64 z4, .int .i64 z5] 86)
    have hbA := new_second w (.cells #[.int .i64 0, .int .i64 0, .int .i64 0, .string ⟨#[]⟩, .string ⟨#[]⟩, .string ⟨#[]⟩, .string ⟨#[]⟩] 84) (.cells #[.int .i64 z0, .int .i64 z1, .int .i64 z2, .string z3, .int .i64 z4, .int .i64 z5] 86)
    have hbR1 := Bk.alloc hbR (.cells #[.int .i64 z0, .int .i64 z1, .int .i64 z2, .string z3, .int .i64 z4, .int .i64 z5] 86)
    obtain ⟨a0, a1, a2, a3, a4, a5⟩ := Bk.c6 hbA
    have hA1 := H1.out.frm0 ((Frm.refl _ _).alloc (.cells #[.int .i64 z0, .int .i64 z1, .int .i64 z2, .string z3, .int .i64 z4, .int .i64 z5] 86))
    generalize (w.alloc (.cells #[.int .i64 0, .int .i64 0, .int .i64 0, .string ⟨#[]⟩, .string ⟨#[]⟩, .string ⟨#[]⟩, .string ⟨#[]⟩] 84)).alloc (.cells #[.int .i64 z0, .int .i64 z1, .int .i64 z2, .string z3, .int .i64 z4, .int .i64 z5] 86) = w2 at *
    refine wp_region_held_drew (S := (fun w' => w'.cell? ⟨w.heap.size + 1, 0, none⟩ = some (.int .i64 z0) ∧ w'.cell? ⟨w.heap.size + 1, 1, none⟩ = some (.int .i64 z1) ∧ w'.cell? ⟨w.heap.size + 1, 2, none⟩ = some (.int .i64 z2) ∧ w'.cell? ⟨w.heap.size + 1, 3, none⟩ = some (.string z3) ∧ w'.cell? ⟨w.heap.size + 1, 4, none⟩ = some (.int .i64 z4) ∧ w'.cell? ⟨w.heap.size + 1, 5, none⟩ = some (.int .i64 z5) ∧ Frm0 w2 w')) (by kernel_rfl) (⟨a0, a1, a2, a3, a4, a5, (Frm.refl _ w2).drew⟩) (fun hHeld => ?_)
    skip
    refine wpAnyH_take (i := 0) (v := ?_) rfl (by kernel_rfl) (by kernel_rfl) (by kernel_rfl) (fun _ _ _ h => h) (Or.inl ⟨by rfl, ?_⟩) (by assumption) ?_
    rotate_left 1
    focus (intro w hSw; (try dsimp only at hSw); go_simp; (try with_reducible rfl))
    (try simp only [Act.put, List.getElem_toArray, List.getElem_cons_succ, List.getElem_cons_zero, List.setIfInBounds_toArray, List.set_cons_zero, List.set_cons_succ])
    refine wpAnyH_ready (rs := [1]) (by kernel_rfl) (by simp) ?_
    refine AllReadyH.cons rfl (fun K hK => ?_) AllReadyH.nil
    go_simp
    refine (HFI.out _).mono ?_
    rintro e w9 ⟨rfl, hf9⟩
    (try go_wp2_with fail)
    refine hK.out _ _ ?_ (fun hHeld => ?_)
    focus (exact keep6 (by assumption) hf9)
    clear hK K
    (try simp only [Act.put, List.getElem_toArray, List.getElem_cons_succ, List.getElem_cons_zero, List.setIfInBounds_toArray, List.set_cons_zero, List.set_cons_succ])
    refine wpAnyH_take (i := 2) (v := ?_) rfl (by kernel_rfl) (by kernel_rfl) (by kernel_rfl) (fun _ _ _ h => h) (Or.inl ⟨by rfl, ?_⟩) (by assumption) ?_
    rotate_left 1
    focus (intro w hSw; (try dsimp only at hSw); go_simp; (try with_reducible rfl))
    (try simp only [Act.put, List.getElem_toArray, List.getElem_cons_succ, List.getElem_cons_zero, List.setIfInBounds_toArray, List.set_cons_zero, List.set_cons_succ])
    refine wpAnyH_take (i := 3) (v := ?_) rfl (by kernel_rfl) (by kernel_rfl) (by kernel_rfl) (fun _ _ _ h => h) (Or.inl ⟨by rfl, ?_⟩) (by assumption) ?_
    rotate_left 1
    focus (intro w hSw; (try dsimp only at hSw); go_simp; (try with_reducible rfl))
    (try simp only [Act.put, List.getElem_toArray, List.getElem_cons_succ, List.getElem_cons_zero, List.setIfInBounds_toArray, List.set_cons_zero, List.set_cons_succ])
    refine wpAnyH_take (i := 4) (v := ?_) rfl (by kernel_rfl) (by kernel_rfl) (by kernel_rfl) (fun _ _ _ h => h) (Or.inl ⟨by rfl, ?_⟩) (by assumption) ?_
    rotate_left 1
    focus (intro w hSw; (try dsimp only at hSw); go_simp; (try with_reducible rfl))
    (try simp only [Act.put, List.getElem_toArray, List.getElem_cons_succ, List.getElem_cons_zero, List.setIfInBounds_toArray, List.set_cons_zero, List.set_cons_succ])
    refine wpAnyH_take (i := 5) (v := ?_) rfl (by kernel_rfl) (by kernel_rfl) (by kernel_rfl) (fun _ _ _ h => h) (Or.inl ⟨by rfl, ?_⟩) (by assumption) ?_
    rotate_left 1
    focus (intro w hSw; (try dsimp only at hSw); go_simp; (try with_reducible rfl))
    (try simp only [Act.put, List.getElem_toArray, List.getElem_cons_succ, List.getElem_cons_zero, List.setIfInBounds_toArray, List.set_cons_zero, List.set_cons_succ])
    refine wpAnyH_take (i := 6) (v := ?_) rfl (by kernel_rfl) (by kernel_rfl) (by kernel_rfl) (fun _ _ _ h => h) (Or.inl ⟨by rfl, ?_⟩) (by assumption) ?_
    rotate_left 1
    focus (intro w hSw; (try dsimp only at hSw); go_simp; (try with_reducible rfl))
    (try simp only [Act.put, List.getElem_toArray, List.getElem_cons_succ, List.getElem_cons_zero, List.setIfInBounds_toArray, List.set_cons_zero, List.set_cons_succ])
    refine wpAnyH_take (i := 7) (v := ?_) rfl (by kernel_rfl) (by kernel_rfl) (by kernel_rfl) (fun _ _ _ h => h) (Or.inl ⟨by rfl, ?_⟩) (by assumption) ?_
    rotate_left 1
    focus (intro w hSw; (try dsimp only at hSw); go_simp; (try with_reducible rfl))
    (try simp only [Act.put, List.getElem_toArray, List.getElem_cons_succ, List.getElem_cons_zero, List.setIfInBounds_toArray, List.set_cons_zero, List.set_cons_succ])
    refine wpAnyH_take (i := 8) (v := ?_) rfl (by kernel_rfl) (by kernel_rfl) (by kernel_rfl) (fun _ _ _ h => h) (Or.inl ⟨by rfl, ?_⟩) (by assumption) ?_
    rotate_left 1
    focus (intro w hSw; (try dsimp only at hSw); go_simp; (try with_reducible rfl))
    (try simp only [Act.put, List.getElem_toArray, List.getElem_cons_succ, List.getElem_cons_zero, List.setIfInBounds_toArray, List.set_cons_zero, List.set_cons_succ])
    refine wpAnyH_take (i := 10) (v := ?_) rfl (by kernel_rfl) (by kernel_rfl) (by kernel_rfl) (fun _ _ _ h => h) (Or.inl ⟨by rfl, ?_⟩) (by assumption) ?_
    rotate_left 1
    focus (intro w hSw; (try dsimp only at hSw); go_simp; (try with_reducible rfl))
    (try simp only [Act.put, List.getElem_toArray, List.getElem_cons_succ, List.getElem_cons_zero, List.setIfInBounds_toArray, List.set_cons_zero, List.set_cons_succ])
    refine wpAnyH_take (i := 12) (v := ?_) rfl (by kernel_rfl) (by kernel_rfl) (by kernel_rfl) (fun _ _ _ h => h) (Or.inl ⟨by rfl, ?_⟩) (by assumption) ?_
    rotate_left 1
    focus (intro w hSw; (try dsimp only at hSw); go_simp; (try with_reducible rfl))
    (try simp only [Act.put, List.getElem_toArray, List.getElem_cons_succ, List.getElem_cons_zero, List.setIfInBounds_toArray, List.set_cons_zero, List.set_cons_succ])
    refine wpAnyH_take (i := 13) (v := ?_) rfl (by kernel_rfl) (by kernel_rfl) (by kernel_rfl) (fun _ _ _ h => h) (Or.inl ⟨by rfl, ?_⟩) (by assumption) ?_
    rotate_left 1
    focus (intro w hSw; (try dsimp only at hSw); go_simp; (try with_reducible rfl))
    (try simp only [Act.put, List.getElem_toArray, List.getElem_cons_succ, List.getElem_cons_zero, List.setIfInBounds_toArray, List.set_cons_zero, List.set_cons_succ])
    refine wpAnyH_ready (rs := [9]) (by kernel_rfl) (by simp) ?_
    refine AllReadyH.cons rfl (fun K hK => ?_) AllReadyH.nil
    go_simp
    refine (HT1.out _).mono ?_
    rintro e w10 ⟨rfl, rfl⟩
    (try go_wp2_with fail)
    refine hK.out _ _ ?_ (fun hHeld => ?_)
    focus (assumption)
    clear hK K
    (try simp only [Act.put, List.getElem_toArray, List.getElem_cons_succ, List.getElem_cons_zero, List.setIfInBounds_toArray, List.set_cons_zero, List.set_cons_succ])
    refine wpAnyH_ready (rs := [11]) (by kernel_rfl) (by simp) ?_
    refine AllReadyH.cons rfl (fun K hK => ?_) AllReadyH.nil
    go_simp
    refine (HT2.out _).mono ?_
    rintro e w10 ⟨rfl, rfl⟩
    (try go_wp2_with fail)
    refine hK.out _ _ ?_ (fun hHeld => ?_)
    focus (assumption)
    clear hK K
    (try simp only [Act.put, List.getElem_toArray, List.getElem_cons_succ, List.getElem_cons_zero, List.setIfInBounds_toArray, List.set_cons_zero, List.set_cons_succ])
    refine wpAnyH_ready (rs := [14]) (by kernel_rfl) (by simp) ?_
    refine AllReadyH.cons rfl (fun K hK => ?_) AllReadyH.nil
    go_simp
    refine (HT3.out _).mono ?_
    rintro e w10 ⟨rfl, rfl⟩
    (try go_wp2_with fail)
    refine hK.out _ _ ?_ (fun hHeld => ?_)
    focus (assumption)
    clear hK K
    (try simp only [Act.put, List.getElem_toArray, List.getElem_cons_succ, List.getElem_cons_zero, List.setIfInBounds_toArray, List.set_cons_zero, List.set_cons_succ])
    refine wpAnyH_take (i := 15) (v := ?_) rfl (by kernel_rfl) (by kernel_rfl) (by kernel_rfl) (fun _ _ _ h => h) (Or.inl ⟨by rfl, ?_⟩) (by assumption) ?_
    rotate_left 1
    focus (intro w hSw; (try dsimp only at hSw); go_simp; (try with_reducible rfl))
    (try simp only [Act.put, List.getElem_toArray, List.getElem_cons_succ, List.getElem_cons_zero, List.setIfInBounds_toArray, List.set_cons_zero, List.set_cons_succ])
    refine wpAnyH_ready (rs := [16]) (by kernel_rfl) (by simp) ?_
    refine AllReadyH.cons rfl (fun K hK => ?_) AllReadyH.nil
    go_simp
    refine (HT4.out _).mono ?_
    rintro e w10 ⟨rfl, rfl⟩
    (try go_wp2_with fail)
    refine hK.out _ _ ?_ (fun hHeld => ?_)
    focus (assumption)
    clear hK K
    (try simp only [Act.put, List.getElem_toArray, List.getElem_cons_succ, List.getElem_cons_zero, List.setIfInBounds_toArray, List.set_cons_zero, List.set_cons_succ])
    refine wpAnyH_take (i := 17) (v := ?_) rfl (by kernel_rfl) (by kernel_rfl) (by kernel_rfl) (fun _ _ _ h => h) (Or.inl ⟨by rfl, ?_⟩) (by assumption) ?_
    rotate_left 1
    focus (intro w hSw; (try dsimp only at hSw); go_simp; (try with_reducible rfl))
    (try simp only [Act.put, List.getElem_toArray, List.getElem_cons_succ, List.getElem_cons_zero, List.setIfInBounds_toArray, List.set_cons_zero, List.set_cons_succ])
    refine wpAnyH_take (i := 18) (v := ?_) rfl (by kernel_rfl) (by kernel_rfl) (by kernel_rfl) (fun _ _ _ h => h) (Or.inl ⟨by rfl, ?_⟩) (by assumption) ?_
    rotate_left 1
    focus (intro w hSw; (try dsimp only at hSw); go_simp; (try with_reducible rfl))
    (try simp only [Act.put, List.getElem_toArray, List.getElem_cons_succ, List.getElem_cons_zero, List.setIfInBounds_toArray, List.set_cons_zero, List.set_cons_succ])
    refine wpAnyH_done (by kernel_rfl) ?_ _
    have hF9 := frm6 (by assumption)
    have hFa := hF1.trans hF9
    have hZ := hF9.blk hbR1 (fun h => h)
    have hA9 := hA1.frm0 hF9
    obtain ⟨m0, m1, m2, m3⟩ := Bk.c4 hA9.blk
    have hQ : Rq.cells (vs[k]).1 = [.int .i64 (vs[k]).1.client, .int .i64 (vs[k]).1.serial, .int .i64 (vs[k]).1.tenant, .string (vs[k]).1.key, .string (vs[k]).1.method, .string (vs[k]).1.path, .string (vs[k]).1.body] := rfl
    have hr1 := hA9.r1
    have HQ := Lib.hid hQ
    clear hQ
    go_wp2_with (first
      | (refine wpList_load_row rfl 84 (.tmp 68) rfl (f := fun p : Vw => p.1.cells) (l := vs) hr1 (fun _ => rfl) rfl hk rfl Try.underlying84 rfl iRq ?_; rw [HQ.out])
      | (refine wpList_store_blk rfl 84 (.tmp 8) (.tmp 69) rfl hZ rfl rfl iRq rfl rfl rfl ?_; intro w12 hb12 hf12))
    (try simp only [Exit.inBlock, Exit.then])
    refine ret_cell1 rfl Try.underlying84 rfl iRq hb12 rfl rfl rfl rfl ?_
    exact ⟨rfl, hFa.then_ hf12 (fun i hi e => by omega)⟩
theorem again_any (h : At w rb id v1 v2 v3 vs) (hl : vs.length ≤ 900) (s at_ now : Int) :
    Calls Try.prog 47 #[.pointer (some ⟨rb, 0, none⟩), .int .i64 s, .int .i64 at_, .int .i64 now] w fun e w' => e = .returned (.tuple #[rqV ((vAgain vs s at_ now).getD rq0), .bool (vAgain vs s at_ now).isSome]) ∧ Frm0 w w' := by
  unfold vAgain
  cases ht : vTold vs s with
  | none => exact again_out h hl s at_ now ht
  | some y =>
    simp only
    have hs : 1 ≤ s ∧ s ≤ vs.length := by
      unfold vTold at ht
      cases ha : vAt vs s with
      | none => rw [ha] at ht; cases ht
      | some p => obtain ⟨h1, h2, _⟩ := vAt_range ha; exact ⟨h1, h2⟩
    obtain ⟨k, rfl, hk⟩ := ser_nat hs
    rw [told_is vs k hk] at ht
    have ha : vAsked vs ((k : Int) + 1) = some (vs[k]).1 := by unfold vAsked; rw [vAt_nat hk]; rfl
    refine (again_in h hl k hk at_ now y ht).mono ?_
    rintro e w' ⟨he, hf⟩
    refine ⟨?_, hf⟩
    by_cases hc : fin y = true ∨ y.after < 1 ∨ pst now (plus at_ y.after) = false
    · rw [if_pos hc] at he ⊢
      exact he
    · rw [if_neg hc] at he ⊢
      rw [ha]
      exact he
end
end Rf
end Go.Proofs.Yteokiiolchpndaa
