/- The reference's client: contract of Hear. -/
import Derived.Test.YteokiiolchpndaaCrfb
namespace Go.Proofs.Yteokiiolchpndaa
open Go.RowKit
set_option linter.unusedVariables false
set_option linter.unusedSimpArgs false
namespace Rf
section
variable {w w1 : World} {rb : Nat} {id : Int} {v1 v2 v3 : Value} {vs : List Vw} {S : Nat → Prop}
def f3 (p : Vw) : List Value := (p.2.getD an0).cells
theorem f3_len (p : Vw) : (f3 p).length = 6 := rfl
theorem ser_of {vs : List Vw} {s : Int} {r : Rq} (h : vAsked vs s = some r) : ∃ k : Nat, s = (k : Int) + 1 ∧ k < vs.length := by
  unfold vAsked at h
  cases ha : vAt vs s with
  | none => rw [ha] at h; cases h
  | some p =>
    obtain ⟨h1, h2, _⟩ := vAt_range ha
    exact ser_nat ⟨h1, h2⟩
theorem no_ser {vs : List Vw} {s : Int} (h : vAsked vs s = none) : ¬ (1 ≤ s ∧ s ≤ vs.length) := by
  intro hs
  obtain ⟨k, rfl, hk⟩ := ser_nat hs
  unfold vAsked at h
  rw [vAt_nat hk] at h
  cases h
theorem hear_not (y : An) (h : At w rb id v1 v2 v3 vs) (hl : vs.length ≤ 900) (hh : vHear id vs y = false) :
    Calls Try.prog 40 #[.pointer (some ⟨rb, 0, none⟩), anV y] w fun e w' => e = .returned (.bool false) ∧ Frm0 w w' := by
  have hF0 := (Frm.refl (fun _ => False) w).alloc (.cells #[.int .i64 y.client, .int .i64 y.serial, .int .i64 y.status, .string y.text, .int .i64 y.after, .int .i64 y.epoch] 86)
  have hb0 := Bk.new w (.cells #[.int .i64 y.client, .int .i64 y.serial, .int .i64 y.status, .string y.text, .int .i64 y.after, .int .i64 y.epoch] 86)
  have h1 := h.frm0 hF0
  have hcs : ((y.client == id) = false ∧ (y.client != id) = true) ∨ ((y.client == id) = true ∧ (y.client != id) = false ∧ decide (y.serial < 1) = true) ∨ ((y.client == id) = true ∧ (y.client != id) = false ∧ decide (y.serial < 1) = false ∧ decide ((vs.length : Int) < y.serial) = true) ∨ ((y.client == id) = true ∧ (y.client != id) = false ∧ decide (y.serial < 1) = false ∧ decide ((vs.length : Int) < y.serial) = false ∧ ∃ k : Nat, y.serial = (k : Int) + 1 ∧ ∃ hk : k < vs.length, (vs[k]).2.isSome = true) := by
    have D1 : y.client = id → (y.client == id) = true ∧ (y.client != id) = false := fun e => ⟨beq_iff_eq.2 e, by rw [bne, beq_iff_eq.2 e]; rfl⟩
    rcases hr id vs y with ⟨e1, _⟩ | ⟨e1, h2, h3, _⟩ | ⟨z, r, e1, h2, h3, _⟩ | ⟨r, e1, h2, h3, h4⟩
    · exact .inl ⟨beq_eq_false_iff_ne.2 e1, by rw [bne, beq_eq_false_iff_ne.2 e1]; rfl⟩
    · have := no_ser h2
      by_cases hs1 : y.serial < 1
      · exact .inr (.inl ⟨(D1 e1).1, (D1 e1).2, decide_eq_true hs1⟩)
      · exact .inr (.inr (.inl ⟨(D1 e1).1, (D1 e1).2, decide_eq_false hs1, decide_eq_true (by omega)⟩))
    · obtain ⟨k, hk1, hk⟩ := ser_of h2
      rw [hk1, told_is vs k hk] at h3
      exact .inr (.inr (.inr ⟨(D1 e1).1, (D1 e1).2, decide_eq_false (by omega), decide_eq_false (by omega), k, hk1, hk, by rw [h3]; rfl⟩))
    · rw [hh] at h4; cases h4
  clear hh h
  obtain ⟨z0, z1, z2, z3, z4, z5⟩ := y
  unfold anV
  simp only at hcs hF0 hb0 h1 ⊢
  obtain ⟨b0, b1, b2, b3⟩ := Bk.c4 h1.blk
  obtain ⟨A1, p1, rfl⟩ := form_of h1.r1
  rcases hcs with ⟨d1, d2⟩ | ⟨d1, d2, d3⟩ | ⟨d1, d2, d3, d4⟩ | ⟨d1, d2, d3, d4, k, rfl, hk, ht⟩
  · clear h1
    go_enter Try.func40, Try.ntmps40
    go_wp2_with fail
    go_quiet (fail)
    go_wp2
    go_ret
    exact ⟨rfl, hF0.drewN _⟩
  · clear h1
    go_enter Try.func40, Try.ntmps40
    go_wp2_with fail
    go_quiet (fail)
    go_wp2
    go_ret
    exact ⟨rfl, hF0.drewN _⟩
  · clear h1
    go_enter Try.func40, Try.ntmps40
    go_wp2_with fail
    go_quiet (fail)
    go_wp2
    go_ret
    exact ⟨rfl, hF0.drewN _⟩
  · obtain ⟨g2, p2, rfl⟩ := pos_of h1.r2 (by omega)
    have x2 : (w.alloc (.cells #[.int .i64 z0, .int .i64 ((k : Int) + 1), .int .i64 z2, .string z3, .int .i64 z4, .int .i64 z5] 86)).cell? ⟨g2, k, none⟩ = some (.bool true) := by rw [h1.r2.cellAt k (by omega), c2_at vs k hk, ht]
    have e1 : IntKind.i64.wrap (k : Int) = (k : Int) := IntWalk.i64_in _ (by omega)
    have hki : (k : Int) < (vs.length : Int) := by omega
    have hki0 : (0 : Int) ≤ (k : Int) := by omega
    clear h1 ht
    go_enter Try.func40, Try.ntmps40
    go_wp2_with fail
    go_quiet (fail)
    go_wp2
    go_ret
    exact ⟨rfl, hF0.drewN _⟩
set_option maxHeartbeats 2000000 in
set_option maxRecDepth 100000 in
theorem hear_yes (y : An) (h : At w rb id v1 v2 v3 vs) (hl : vs.length ≤ 900) (hh : vHear id vs y = true) :
    Calls Try.prog 40 #[.pointer (some ⟨rb, 0, none⟩), anV y] w fun e w' => e = .returned (.bool true) ∧ At w' rb id v1 v2 v3 (vHeard id vs y) ∧ Frm (fp rb v1 v2 v3) w w' := by
  have hF0 := (Frm.refl (fun _ => False) w).alloc (.cells #[.int .i64 y.client, .int .i64 y.serial, .int .i64 y.status, .string y.text, .int .i64 y.after, .int .i64 y.epoch] 86)
  have hb0 := Bk.new w (.cells #[.int .i64 y.client, .int .i64 y.serial, .int .i64 y.status, .string y.text, .int .i64 y.after, .int .i64 y.epoch] 86)
  have h1 := h.frm0 hF0
  have hun := h.under
  have hcs : y.client = id ∧ ∃ k : Nat, y.serial = (k : Int) + 1 ∧ ∃ hk : k < vs.length, (vs[k]).2 = none := by
    rcases hr id vs y with ⟨e1, h4⟩ | ⟨e1, h2, h3, h4⟩ | ⟨z, r, e1, h2, h3, h4⟩ | ⟨r, e1, h2, h3, h4⟩
    · rw [hh] at h4; cases h4
    · rw [hh] at h4; cases h4
    · rw [hh] at h4; cases h4
    · obtain ⟨k, hk1, hk⟩ := ser_of h2
      rw [hk1, told_is vs k hk] at h3
      exact ⟨e1, k, hk1, hk, h3⟩
  obtain ⟨rfl, k, hs, hk, ht⟩ := hcs
  have hv : vHeard y.client vs y = vs.set k ((vs[k]).1, some y) := by
    unfold vHeard
    rw [if_pos hh, show (y.serial - 1).toNat = k by omega]
    apply List.ext_getElem?
    intro j
    rw [List.getElem?_modify, List.getElem?_set]
    by_cases e : k = j
    · subst e
      rw [if_pos rfl, if_pos hk, List.getElem?_eq_getElem hk]
      simp
    · rw [if_neg e]
      cases vs[j]? <;> simp [e]
  rw [hv]
  clear hh hv
  obtain ⟨z0, z1, z2, z3, z4, z5⟩ := y
  unfold anV
  simp only at hs hF0 hb0 h1 h ⊢
  subst hs
  have HH := Lib.hid h
  obtain ⟨b0, b1, b2, b3⟩ := Bk.c4 h1.blk
  obtain ⟨A1, p1, rfl⟩ := form_of h1.r1
  obtain ⟨g2, p2, rfl⟩ := pos_of h1.r2 (by omega)
  obtain ⟨g3, p3, rfl⟩ := pos_of h1.r3 (by omega)
  have x2 : (w.alloc (.cells #[.int .i64 z0, .int .i64 ((k : Int) + 1), .int .i64 z2, .string z3, .int .i64 z4, .int .i64 z5] 86)).cell? ⟨g2, k, none⟩ = some (.bool false) := by rw [h1.r2.cellAt k (by omega), c2_at vs k hk, ht]; rfl
  have f2 := h1.r2.frozenAt k
  have e1 : IntKind.i64.wrap (k : Int) = (k : Int) := IntWalk.i64_in _ (by omega)
  have hki : (k : Int) < (vs.length : Int) := by omega
  have hki0 : (0 : Int) ≤ (k : Int) := by omega
  have d1 : (z0 == z0) = true := beq_iff_eq.2 rfl
  have d2 : (z0 != z0) = false := by rw [bne, d1]; rfl
  have d3 : decide ((k : Int) + 1 < 1) = false := decide_eq_false (by omega)
  have d4 : decide ((vs.length : Int) < (k : Int) + 1) = false := decide_eq_false (by omega)
  have H1 := Lib.hid h1
  have HT := Lib.hid ht
  clear h1 h ht
  go_enter Try.func40, Try.ntmps40
  go_wp2_with fail
  go_quiet (fail)
  go_wp2_with fail
  refine st_tail 8 (by kernel_rfl) (by kernel_rfl) ?_
  simp only [List.take_succ_cons, List.take_zero, List.drop_succ_cons, List.drop_zero]
  repeat still_step
  refine wpStill_nil ?_
  go_wp2_with fail
  have h2d := H1.out.frm0 ((Frm.refl (fun _ => False) _).drewN (nq + 1))
  have hB2 := Bk.drewN (Bk.new w (.cells #[.int .i64 z0, .int .i64 ((k : Int) + 1), .int .i64 z2, .string z3, .int .i64 z4, .int .i64 z5] 86)) (nq + 1)
  have hF2 := hF0.drewN (nq + 1)
  generalize (w.alloc (.cells #[.int .i64 z0, .int .i64 ((k : Int) + 1), .int .i64 z2, .string z3, .int .i64 z4, .int .i64 z5] 86)).drewN (nq + 1) = w2 at *
  have hg2 := (h2d.r2.lt g2 rfl).1
  have hg2b : g2 < w.heap.size := hun g2 (.inr (.inr (.inl rfl)))
  have hg32 : g3 ≠ g2 := fun e => h2d.s23 g2 rfl (by rw [← e]; rfl)
  have hfs : Frm (fun i => i = g2) w2 (w2.setCell ⟨g2, k, none⟩ (.bool true)) := (Frm.refl (fun i => i = g2) w2).setCell ⟨g2, k, none⟩ (fun _ => rfl) _
  have hb3 := hfs.blk h2d.blk (by omega)
  have hr1 := owns_frm h2d.r1 hfs (fun q hq e => h2d.s12 q hq (by rw [e]; rfl))
  have hr2 := (h2d.r2.stored k (.bool true)).1
  have hr3 := owns_frm h2d.r3 hfs (fun q hq e => h2d.s23 g2 rfl (by rw [← e]; exact hq))
  have hB3 := hfs.blk hB2 (by omega)
  have hF3 : Frm (fp rb (.slice A1 vs.length p1) (.slice (some ⟨g2, 0, none⟩) vs.length p2) (.slice (some ⟨g3, 0, none⟩) vs.length p3)) w (w2.setCell ⟨g2, k, none⟩ (.bool true)) := hF2.of0.then_ hfs (fun i _ e => .inr (.inr (.inl (by rw [e]; rfl))))
  generalize w2.setCell ⟨g2, k, none⟩ (.bool true) = w3 at *
  obtain ⟨q0, q1, q2, q3⟩ := Bk.c4 hb3
  obtain ⟨a0, a1, a2, a3, a4, a5⟩ := Bk.c6 hB3
  clear b0 b1 b2 b3 x2 f2
  refine st_tail 9 (by kernel_rfl) (by kernel_rfl) ?_
  simp only [List.take_succ_cons, List.take_zero, List.drop_succ_cons, List.drop_zero]
  repeat still_step
  refine wpStill_nil ?_
  go_wp2_with (refine wpList_store_row rfl 86 (.tmp 54) (.tmp 53) rfl (f := f3) (l := vs) ((vs[k]).1, some ⟨z0, (k : Int) + 1, z2, z3, z4, z5⟩) hr3.drew f3_len rfl hk rfl rfl iAn rfl rfl ?_; intro w5 h5 hf5)
  go_ret
  have hg3 := (hr3.lt g3 rfl).1
  refine ⟨rfl, ⟨hf5.blk hb3 (by omega), ?_, ?_, ?_, ?_, ?_, ?_⟩, hF3.drew.then_ hf5 (fun i hi e => .inr (.inr (.inr (by rw [e]; rfl))))⟩
  · have := owns_frm hr1.drew hf5 (fun q hq e => by subst e; exact HH.out.s13 _ hq rfl)
    rw [List.length_set]
    have e : c1 (vs.set k ((vs[k]).1, some ⟨z0, (k : Int) + 1, z2, z3, z4, z5⟩)) = c1 vs := by
      unfold c1
      rw [← List.flatMap_map (f := Prod.fst) (g := Rq.cells), ← List.flatMap_map (f := Prod.fst) (g := Rq.cells), List.map_set]
      congr 1
      have e4 : (vs.map Prod.fst)[k]'(by rw [List.length_map]; exact hk) = (vs[k]).1 := by simp
      show (vs.map Prod.fst).set k (vs[k]).1 = _
      rw [← e4]
      exact List.set_getElem_self _
    rw [e]
    exact this
  · have := owns_frm hr2.drew hf5 (fun q hq e => by subst e; cases hq; exact hg32 rfl)
    rw [List.length_set]
    have e : c2 (vs.set k ((vs[k]).1, some ⟨z0, (k : Int) + 1, z2, z3, z4, z5⟩)) = (c2 vs).set k (.bool true) := by
      unfold c2
      rw [List.map_set]
      rfl
    rw [e]
    exact this
  · rw [List.length_set]
    exact h5
  · exact HH.out.s12
  · exact HH.out.s13
  · exact HH.out.s23
theorem hear_any (y : An) (h : At w rb id v1 v2 v3 vs) (hl : vs.length ≤ 900) :
    Calls Try.prog 40 #[.pointer (some ⟨rb, 0, none⟩), anV y] w fun e w' => e = .returned (.bool (vHear id vs y)) ∧ At w' rb id v1 v2 v3 (vHeard id vs y) ∧ Frm (fp rb v1 v2 v3) w w' := by
  cases hh : vHear id vs y with
  | true => exact hear_yes y h hl hh
  | false =>
    rw [heard_no hh]
    refine (hear_not y h hl hh).mono ?_
    rintro e w' ⟨he, hf⟩
    exact ⟨he, h.frm0 hf, hf.of0⟩
end
end Rf
end Go.Proofs.Yteokiiolchpndaa
