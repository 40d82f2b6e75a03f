/- The reference's client: contract of Ask. -/
import Derived.Test.YteokiiolchpndaaCrfa
namespace Go.Proofs.Yteokiiolchpndaa
open Go.RowKit
set_option linter.unusedVariables false
set_option linter.unusedSimpArgs false
namespace Rf
section
variable {w w1 : World} {rb : Nat} {id : Int} {v1 v2 v3 : Value} {vs : List Vw} {S : Nat → Prop}
def ask (id : Int) (vs : List Vw) (r : Rq) : Rq := ⟨id, (vs.length : Int) + 1, r.tenant, r.key, r.method, r.path, r.body⟩
/-- Behind an append onto a row: its block is the old one, or a new one. -/
theorem new_own {w w' : World} {v v' : Value} {n : Nat} (h : v'.ownBlock = v.ownBlock ∨ v'.ownBlock = some n) {k : Nat} (hk : v'.ownBlock = some k) : v.ownBlock = some k ∨ k = n := by
  rcases h with e | e
  · exact .inl (e ▸ hk)
  · rw [e] at hk
    exact .inr (Option.some.inj hk).symm
/-- The three rows, each of its own length. -/
structure Rw (w : World) (rb : Nat) (id : Int) (v1 v2 v3 : Value) (n1 n2 n3 : Nat) (l1 l2 l3 : List Value) : Prop where
  blk : w.heap[rb]? = some (.cells #[.int .i64 id, v1, v2, v3] 82 (0, 0))
  r1 : w.ownsRow (rb + 1) 84 7 v1 n1 l1
  r2 : w.ownsRow (rb + 1) 4 1 v2 n2 l2
  r3 : w.ownsRow (rb + 1) 86 6 v3 n3 l3
  s12 : ∀ k, v1.ownBlock = some k → v2.ownBlock ≠ some k
  s13 : ∀ k, v1.ownBlock = some k → v3.ownBlock ≠ some k
  s23 : ∀ k, v2.ownBlock = some k → v3.ownBlock ≠ some k
theorem Rw.app1 {w2 W w81 : World} {u : Value} {n1 n2 n3 : Nat} {l1 l2 l3 us : List Value} (h : Rw w2 rb id v1 v2 v3 n1 n2 n3 l1 l2 l3) (hW : Frm0 w2 W) (hn : w81.ownsRow (rb + 1) 84 7 u (n1 + 1) (l1 ++ us)) (hg : Frm (fun k => v1.ownBlock = some k) W w81) (ha : u.ownBlock = v1.ownBlock ∨ u.ownBlock = some W.heap.size) :
    Rw (w81.setCell ⟨rb, 1, none⟩ u) rb id u v2 v3 (n1 + 1) n2 n3 (l1 ++ us) l2 l3 ∧ Grew w2 (fp rb v1 v2 v3) (fp rb u v2 v3) ∧ Frm (fp rb v1 v2 v3) w2 (w81.setCell ⟨rb, 1, none⟩ u) := by
  have hz := hW.size
  have hf : Frm (fun k => v1.ownBlock = some k) w2 w81 := (hW.of0 (S := fun k => v1.ownBlock = some k)).trans hg
  have hb := hf.blk h.blk (fun e => by have := (h.r1.lt _ e).1; omega)
  refine ⟨⟨Bk.set hb 1 u, owns_frm hn ((Frm.refl (fun i => i = rb) w81).setCell ⟨rb, 1, none⟩ (fun _ => rfl) u) (fun k hk e => by have := (hn.lt k hk).1; omega), owns_frm (owns_frm h.r2 hf (fun q hq e => h.s12 q e hq)) ((Frm.refl (fun i => i = rb) w81).setCell ⟨rb, 1, none⟩ (fun _ => rfl) u) (fun k hk e => by have := (h.r2.lt k hk).1; omega), owns_frm (owns_frm h.r3 hf (fun q hq e => h.s13 q e hq)) ((Frm.refl (fun i => i = rb) w81).setCell ⟨rb, 1, none⟩ (fun _ => rfl) u) (fun k hk e => by have := (h.r3.lt k hk).1; omega), (fun k hk => by
    rcases new_own (w := w2) (w' := w2) ha hk with e | e
    · exact h.s12 k e
    · intro e2
      have := (h.r2.lt k e2).2
      omega), (fun k hk => by
    rcases new_own (w := w2) (w' := w2) ha hk with e | e
    · exact h.s13 k e
    · intro e2
      have := (h.r3.lt k e2).2
      omega), h.s23⟩, fun k hk => ?_, ?_⟩
  · rcases hk with rfl | hk | hk | hk
    · exact .inl (.inl rfl)
    · rcases new_own (w := w2) (w' := w2) ha hk with e | e
      · exact .inl (.inr (.inl e))
      · exact .inr (by omega)
    · exact .inl (.inr (.inr (.inl hk)))
    · exact .inl (.inr (.inr (.inr hk)))
  · exact (hf.mono (fun i _ e => .inr (.inl e))).setCell ⟨rb, 1, none⟩ (fun _ => .inl rfl) u
theorem Rw.app2 {w2 W w81 : World} {u : Value} {n1 n2 n3 : Nat} {l1 l2 l3 us : List Value} (h : Rw w2 rb id v1 v2 v3 n1 n2 n3 l1 l2 l3) (hW : Frm0 w2 W) (hn : w81.ownsRow (rb + 1) 4 1 u (n2 + 1) (l2 ++ us)) (hg : Frm (fun k => v2.ownBlock = some k) W w81) (ha : u.ownBlock = v2.ownBlock ∨ u.ownBlock = some W.heap.size) :
    Rw (w81.setCell ⟨rb, 2, none⟩ u) rb id v1 u v3 n1 (n2 + 1) n3 l1 (l2 ++ us) l3 ∧ Grew w2 (fp rb v1 v2 v3) (fp rb v1 u v3) ∧ Frm (fp rb v1 v2 v3) w2 (w81.setCell ⟨rb, 2, none⟩ u) := by
  have hz := hW.size
  have hf : Frm (fun k => v2.ownBlock = some k) w2 w81 := (hW.of0 (S := fun k => v2.ownBlock = some k)).trans hg
  have hb := hf.blk h.blk (fun e => by have := (h.r2.lt _ e).1; omega)
  refine ⟨⟨Bk.set hb 2 u, owns_frm (owns_frm h.r1 hf (fun q hq e => h.s12 q hq e)) ((Frm.refl (fun i => i = rb) w81).setCell ⟨rb, 2, none⟩ (fun _ => rfl) u) (fun k hk e => by have := (h.r1.lt k hk).1; omega), owns_frm hn ((Frm.refl (fun i => i = rb) w81).setCell ⟨rb, 2, none⟩ (fun _ => rfl) u) (fun k hk e => by have := (hn.lt k hk).1; omega), owns_frm (owns_frm h.r3 hf (fun q hq e => h.s23 q e hq)) ((Frm.refl (fun i => i = rb) w81).setCell ⟨rb, 2, none⟩ (fun _ => rfl) u) (fun k hk e => by have := (h.r3.lt k hk).1; omega), (fun k hk => by
    intro e2
    rcases new_own (w := w2) (w' := w2) ha e2 with e | e
    · exact h.s12 k hk e
    · have := (h.r1.lt k hk).2
      omega), h.s13, (fun k hk => by
    rcases new_own (w := w2) (w' := w2) ha hk with e | e
    · exact h.s23 k e
    · intro e2
      have := (h.r3.lt k e2).2
      omega)⟩, fun k hk => ?_, ?_⟩
  · rcases hk with rfl | hk | hk | hk
    · exact .inl (.inl rfl)
    · exact .inl (.inr (.inl hk))
    · rcases new_own (w := w2) (w' := w2) ha hk with e | e
      · exact .inl (.inr (.inr (.inl e)))
      · exact .inr (by omega)
    · exact .inl (.inr (.inr (.inr hk)))
  · exact (hf.mono (fun i _ e => .inr (.inr (.inl e)))).setCell ⟨rb, 2, none⟩ (fun _ => .inl rfl) u
theorem Rw.app3 {w2 W w81 : World} {u : Value} {n1 n2 n3 : Nat} {l1 l2 l3 us : List Value} (h : Rw w2 rb id v1 v2 v3 n1 n2 n3 l1 l2 l3) (hW : Frm0 w2 W) (hn : w81.ownsRow (rb + 1) 86 6 u (n3 + 1) (l3 ++ us)) (hg : Frm (fun k => v3.ownBlock = some k) W w81) (ha : u.ownBlock = v3.ownBlock ∨ u.ownBlock = some W.heap.size) :
    Rw (w81.setCell ⟨rb, 3, none⟩ u) rb id v1 v2 u n1 n2 (n3 + 1) l1 l2 (l3 ++ us) ∧ Grew w2 (fp rb v1 v2 v3) (fp rb v1 v2 u) ∧ Frm (fp rb v1 v2 v3) w2 (w81.setCell ⟨rb, 3, none⟩ u) := by
  have hz := hW.size
  have hf : Frm (fun k => v3.ownBlock = some k) w2 w81 := (hW.of0 (S := fun k => v3.ownBlock = some k)).trans hg
  have hb := hf.blk h.blk (fun e => by have := (h.r3.lt _ e).1; omega)
  refine ⟨⟨Bk.set hb 3 u, owns_frm (owns_frm h.r1 hf (fun q hq e => h.s13 q hq e)) ((Frm.refl (fun i => i = rb) w81).setCell ⟨rb, 3, none⟩ (fun _ => rfl) u) (fun k hk e => by have := (h.r1.lt k hk).1; omega), owns_frm (owns_frm h.r2 hf (fun q hq e => h.s23 q hq e)) ((Frm.refl (fun i => i = rb) w81).setCell ⟨rb, 3, none⟩ (fun _ => rfl) u) (fun k hk e => by have := (h.r2.lt k hk).1; omega), owns_frm hn ((Frm.refl (fun i => i = rb) w81).setCell ⟨rb, 3, none⟩ (fun _ => rfl) u) (fun k hk e => by have := (hn.lt k hk).1; omega), h.s12, (fun k hk => by
    intro e2
    rcases new_own (w := w2) (w' := w2) ha e2 with e | e
    · exact h.s13 k hk e
    · have := (h.r1.lt k hk).2
      omega), (fun k hk => by
    intro e2
    rcases new_own (w := w2) (w' := w2) ha e2 with e | e
    · exact h.s23 k hk e
    · have := (h.r2.lt k hk).2
      omega)⟩, fun k hk => ?_, ?_⟩
  · rcases hk with rfl | hk | hk | hk
    · exact .inl (.inl rfl)
    · exact .inl (.inr (.inl hk))
    · exact .inl (.inr (.inr (.inl hk)))
    · rcases new_own (w := w2) (w' := w2) ha hk with e | e
      · exact .inl (.inr (.inr (.inr e)))
      · exact .inr (by omega)
  · exact (hf.mono (fun i _ e => .inr (.inr (.inr e)))).setCell ⟨rb, 3, none⟩ (fun _ => .inl rfl) u
set_option maxHeartbeats 4000000 in
set_option maxRecDepth 100000 in
theorem ask_any (r : Rq) (h : At w rb id v1 v2 v3 vs) (hl : vs.length ≤ 900) :
    Calls Try.prog 38 #[.pointer (some ⟨rb, 0, none⟩), rqV r] w fun e w' => ∃ u1 u2 u3, e = .returned (rqV (ask id vs r)) ∧ At w' rb id u1 u2 u3 (vs ++ [(ask id vs r, none)]) ∧ Grew w (fp rb v1 v2 v3) (fp rb u1 u2 u3) ∧ Frm (fp rb v1 v2 v3) w w' := by
  obtain ⟨b0, b1, b2, b3⟩ := Bk.c4 h.blk
  have hlt := h.lt
  have HH := Lib.hid h
  have hun := h.under
  have hov := h.over
  obtain ⟨A1, p1, rfl⟩ := form_of h.r1
  obtain ⟨A2, p2, rfl⟩ := form_of h.r2
  obtain ⟨A3, p3, rfl⟩ := form_of h.r3
  obtain ⟨y0, y1, y2, y3, y4, y5, y6⟩ := r
  unfold rqV ask
  simp only
  clear h
  go_enter Try.func38, Try.ntmps38
  go_wp2_with fail
  have hbP := Bk.alloc (Bk.new w (.cells #[.int .i64 id, .int .i64 ((vs.length : Int) + 1), .int .i64 y2, .string y3, .string y4, .string y5, .string y6] 84)) (.cells #[.int .i64 0, .int .i64 0, .int .i64 0, .string ⟨#[]⟩, .string ⟨#[]⟩, .string ⟨#[]⟩, .string ⟨#[]⟩] 84)
  have hbR := new_second w (.cells #[.int .i64 id, .int .i64 ((vs.length : Int) + 1), .int .i64 y2, .string y3, .string y4, .string y5, .string y6] 84) (.cells #[.int .i64 0, .int .i64 0, .int .i64 0, .string ⟨#[]⟩, .string ⟨#[]⟩, .string ⟨#[]⟩, .string ⟨#[]⟩] 84)
  have hF2 := ((Frm.refl (fun _ => False) w).alloc (.cells #[.int .i64 id, .int .i64 ((vs.length : Int) + 1), .int .i64 y2, .string y3, .string y4, .string y5, .string y6] 84)).alloc (.cells #[.int .i64 0, .int .i64 0, .int .i64 0, .string ⟨#[]⟩, .string ⟨#[]⟩, .string ⟨#[]⟩, .string ⟨#[]⟩] 84)
  generalize (w.alloc (.cells #[.int .i64 id, .int .i64 ((vs.length : Int) + 1), .int .i64 y2, .string y3, .string y4, .string y5, .string y6] 84)).alloc (.cells #[.int .i64 0, .int .i64 0, .int .i64 0, .string ⟨#[]⟩, .string ⟨#[]⟩, .string ⟨#[]⟩, .string ⟨#[]⟩] 84) = w2 at *
  have h2 := HH.out.frm0 hF2
  have hr1 := h2.r1
  have hRw : Rw w2 rb id (.slice A1 vs.length p1) (.slice A2 vs.length p2) (.slice A3 vs.length p3) vs.length vs.length vs.length (c1 vs) (c2 vs) (c3 vs) := ⟨h2.blk, h2.r1, h2.r2, h2.r3, h2.s12, h2.s13, h2.s23⟩
  have hM : vs.length + 1 ≤ maxLen := by unfold maxLen; omega
  have hnf : ∀ k, w.heap.size ≤ k → ¬ fp rb (.slice A1 vs.length p1) (.slice A2 vs.length p2) (.slice A3 vs.length p3) k := fun k hk h => by have := hun k h; omega
  have hlt2 := Bk.lt hbR
  have b1a : (w2.alloc (.cells #[.int .i64 id, .int .i64 ((vs.length : Int) + 1), .int .i64 y2, .string y3, .string y4, .string y5, .string y6] 84)).cell? ⟨rb, 1, none⟩ = some (.slice A1 vs.length p1) := Bk.cell (Bk.alloc h2.blk _) 1
  obtain ⟨q0, q1, q2, q3⟩ := Bk.c4 h2.blk
  obtain ⟨p0', p1', p2', p3', p4', p5', p6'⟩ := Bk.c7 hbP
  clear b0 b1 b2 b3
  go_region_law (refine step_append_cells rfl (.tmp 21) (.tmp 23) rfl Erq (rb + 1) (.slice A1 vs.length p1) vs.length (c1 vs) _ [.int .i64 id, .int .i64 ((vs.length : Int) + 1), .int .i64 y2, .string y3, .string y4, .string y5, .string y6] (by simp [Act.eval, Act.put]) (by simp [Act.eval, Act.put]) ((hr1.alloc _).drew) (Bk.drew (Bk.new _ _)) rfl (by simp [Value.oneCell']) (by omega) (by omega) (by first | (simp; omega) | simp) ?_; intro u1 w81 hn1 hg1 ha1; have hbk1 := Bk.grown (Bk.drew (Bk.alloc h2.blk _)) hg1 (fun e => by have := (hr1.lt _ e).1; omega); have fr1 := Bk.frozen hbk1 1; have c21 : w81.cell? ⟨rb, 1, none⟩ = some (.slice A1 vs.length p1) := Bk.cell hbk1 1; obtain ⟨g9, cap9, rfl⟩ := owns_form hn1)
  all_goals
    obtain ⟨hR3, hw3, hf3⟩ := hRw.app1 ((Frm.refl _ w2).alloc _).drew hn1 ((Frm.refl _ _).grown hg1 (fun k hk _ => hk)) ha1
    have hP3 := hf3.blk hbP (hnf _ (by omega))
    have hZ3 := hf3.blk hbR (hnf _ (by omega))
    have hF3 := hF2.of0.trans hf3
    clear hn1 hg1 ha1 hbk1 fr1 c21 q0 q1 q2 q3 p0' p1' p2' p3' p4' p5' p6'
    generalize w81.setCell ⟨rb, 1, none⟩ (.slice (some ⟨g9, 0, none⟩) (vs.length + 1) cap9) = w3 at *
    have hz3 := hF3.size
    have hz23 := hf3.size
    obtain ⟨q0, q1, q2, q3⟩ := Bk.c4 hR3.blk
    have q2a : (w3.alloc (.cells #[.bool false] 4)).cell? ⟨rb, 2, none⟩ = some (.slice A2 vs.length p2) := cell_al q2
    have hlt3 := Bk.lt hZ3
    go_upto_region 5 with (first
      | (at_builtin; refine wpList_append_sl rfl (.tmp 31) (.tmp 32) rfl Ebo (rb + 1) _ (.slice (some ⟨w3.heap.size, 0, none⟩) 1 1) vs.length 1 (c2 vs) [.bool false] rfl rfl (hR3.r2.alloc _) (Sl.new _ _ _ 1 (by decide) (by omega)) rfl (by simp [Value.oneCell']) (by omega) (by omega) (by first | (simp; omega) | simp) ?_; intro u2 w4 hn2 hg2 ha2; obtain ⟨g8, cap8, rfl⟩ := owns_form hn2; have hb4 := hg2.blk (Bk.alloc hR3.blk _) (fun e => by have := (hR3.r2.lt _ e).1; omega); have fr4 := Bk.frozen hb4 2; have c24 : w4.cell? ⟨rb, 2, none⟩ = some (.slice A2 vs.length p2) := Bk.cell hb4 2))
    obtain ⟨hR5, hw5, hf5⟩ := hR3.app2 ((Frm.refl _ w3).alloc (.cells #[.bool false] 4)) hn2 hg2 ha2
    have hnf5 : ∀ k, w.heap.size ≤ k → k < w2.heap.size → ¬ fp rb (.slice (some ⟨g9, 0, none⟩) (vs.length + 1) cap9) (.slice A2 vs.length p2) (.slice A3 vs.length p3) k := fun k hk hk2 h => by
      rcases hw3 k h with e | e
      · exact hnf k hk e
      · omega
    have hP5 := hf5.blk hP3 (hnf5 _ (by omega) (by omega))
    have hZ5 := hf5.blk hZ3 (hnf5 _ (by omega) (by omega))
    have hz5 := hf5.size
    clear hn2 hg2 ha2 hb4 fr4 c24 q0 q1 q2 q3 q2a
    generalize w4.setCell ⟨rb, 2, none⟩ (.slice (some ⟨g8, 0, none⟩) (vs.length + 1) cap8) = w5 at *
    obtain ⟨q0, q1, q2, q3⟩ := Bk.c4 hR5.blk
    have q3a : (w5.alloc (.cells #[.int .i64 0, .int .i64 0, .int .i64 0, .string ⟨#[]⟩, .int .i64 0, .int .i64 0] 86)).cell? ⟨rb, 3, none⟩ = some (.slice A3 vs.length p3) := cell_al q3
    go_upto_region 6 with (first
      | (at_builtin; refine wpList_append_sl rfl (.tmp 40) (.tmp 42) rfl Ean (rb + 1) _ (.slice (some ⟨w5.heap.size, 0, none⟩) 1 1) vs.length 1 (c3 vs) [.int .i64 0, .int .i64 0, .int .i64 0, .string ⟨#[]⟩, .int .i64 0, .int .i64 0] rfl rfl (hR5.r3.alloc _) (Sl.new _ _ _ 1 (by decide) (by omega)) rfl (by simp [Value.oneCell']) (by omega) (by omega) (by first | (simp; omega) | simp) ?_; intro u3 w6 hn3 hg3 ha3; obtain ⟨g7, cap7, rfl⟩ := owns_form hn3; have hb6 := hg3.blk (Bk.alloc hR5.blk _) (fun e => by have := (hR5.r3.lt _ e).1; omega); have fr6 := Bk.frozen hb6 3; have c36 : w6.cell? ⟨rb, 3, none⟩ = some (.slice A3 vs.length p3) := Bk.cell hb6 3))
    obtain ⟨hR7, hw7, hf7⟩ := hR5.app3 ((Frm.refl _ w5).alloc (.cells #[.int .i64 0, .int .i64 0, .int .i64 0, .string ⟨#[]⟩, .int .i64 0, .int .i64 0] 86)) hn3 hg3 ha3
    have hnf7 : ∀ k, w.heap.size ≤ k → k < w2.heap.size → ¬ fp rb (.slice (some ⟨g9, 0, none⟩) (vs.length + 1) cap9) (.slice (some ⟨g8, 0, none⟩) (vs.length + 1) cap8) (.slice A3 vs.length p3) k := fun k hk hk2 h => by
      rcases hw5 k h with e | e
      · exact hnf5 k hk hk2 e
      · omega
    have hP7 := hf7.blk hP5 (hnf7 _ (by omega) (by omega))
    have hZ7 := hf7.blk hZ5 (hnf7 _ (by omega) (by omega))
    have hz7 := hf7.size
    clear hn3 hg3 ha3 hb6 fr6 c36 q0 q1 q2 q3 q3a
    generalize w6.setCell ⟨rb, 3, none⟩ (.slice (some ⟨g7, 0, none⟩) (vs.length + 1) cap7) = w7 at *
    obtain ⟨p0', p1', p2', p3', p4', p5', p6'⟩ := Bk.c7 hP7
    go_wp2_with (refine wpList_store_blk rfl 84 (.tmp 4) (.tmp 46) rfl hZ7 rfl rfl iRq rfl rfl rfl ?_; intro w10 hb10 hf10)
    (try simp only [Exit.inBlock, Exit.then])
    refine ret_cell rfl Try.underlying84 rfl iRq hb10 rfl rfl rfl ?_
    have hnf9 : ∀ k, w.heap.size ≤ k → k < w2.heap.size → ¬ fp rb (.slice (some ⟨g9, 0, none⟩) (vs.length + 1) cap9) (.slice (some ⟨g8, 0, none⟩) (vs.length + 1) cap8) (.slice (some ⟨g7, 0, none⟩) (vs.length + 1) cap7) k := fun k hk hk2 h => by
      rcases hw7 k h with e | e
      · exact hnf7 k hk hk2 e
      · omega
    have hG : Grew w (fp rb (.slice A1 vs.length p1) (.slice A2 vs.length p2) (.slice A3 vs.length p3)) (fp rb (.slice (some ⟨g9, 0, none⟩) (vs.length + 1) cap9) (.slice (some ⟨g8, 0, none⟩) (vs.length + 1) cap8) (.slice (some ⟨g7, 0, none⟩) (vs.length + 1) cap7)) := fun k hk => by
      rcases hw7 k hk with e | e
      · rcases hw5 k e with e | e
        · rcases hw3 k e with e | e
          · exact .inl e
          · exact .inr (by omega)
        · exact .inr (by omega)
      · exact .inr (by omega)
    have hold : ∀ k, k < w.heap.size → fp rb (.slice (some ⟨g9, 0, none⟩) (vs.length + 1) cap9) (.slice A2 vs.length p2) (.slice A3 vs.length p3) k → fp rb (.slice A1 vs.length p1) (.slice A2 vs.length p2) (.slice A3 vs.length p3) k := fun k hk h => by
      rcases hw3 k h with e | e
      · exact e
      · omega
    have hold2 : ∀ k, k < w.heap.size → fp rb (.slice (some ⟨g9, 0, none⟩) (vs.length + 1) cap9) (.slice (some ⟨g8, 0, none⟩) (vs.length + 1) cap8) (.slice A3 vs.length p3) k → fp rb (.slice A1 vs.length p1) (.slice A2 vs.length p2) (.slice A3 vs.length p3) k := fun k hk h => by
      rcases hw5 k h with e | e
      · exact hold k hk e
      · omega
    refine ⟨_, _, _, rfl, ?_, hG, ((hF3.then_ hf5 (fun i hi e => hold i hi e)).then_ hf7 (fun i hi e => hold2 i hi e)).then_ hf10 (fun i hi e => by omega)⟩
    have hA : At w7 rb id (.slice (some ⟨g9, 0, none⟩) (vs.length + 1) cap9) (.slice (some ⟨g8, 0, none⟩) (vs.length + 1) cap8) (.slice (some ⟨g7, 0, none⟩) (vs.length + 1) cap7) (vs ++ [(⟨id, (vs.length : Int) + 1, y2, y3, y4, y5, y6⟩, none)]) := by
      refine ⟨hR7.blk, ?_, ?_, ?_, hR7.s12, hR7.s13, hR7.s23⟩
      · rw [List.length_append]
        have := hR7.r1
        simpa [c1, Rq.cells] using this
      · rw [List.length_append]
        have := hR7.r2
        simpa [c2] using this
      · rw [List.length_append]
        have := hR7.r3
        simpa [c3, an0, An.cells] using this
    exact hA.frm hf10 (fun k hk e => by subst e; exact hnf9 _ (by omega) (by omega) hk)
end
end Rf
end Go.Proofs.Yteokiiolchpndaa
