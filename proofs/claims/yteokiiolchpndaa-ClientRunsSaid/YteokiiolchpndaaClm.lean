/- The walk of ClientRuns. -/
import Derived.Test.YteokiiolchpndaaCll
import Derived.Test.YteokiiolchpndaaCrfd
import Derived.Deep.RegionHeld3
namespace Go.Proofs.Yteokiiolchpndaa
open Go.RowKit Go.ChangeShapes
set_option linter.unusedVariables false
set_option linter.unusedSimpArgs false
theorem quiet_same {P : Program} {f : FuncId} {args : Array Value} {w : World} {n : Nat} {v : Value}
    (h : Calls P f args (w.drewN n) fun e w' => e = .returned v ∧ w.drewN n = w') : Calls P f args (w.drewN n) fun e w'' => e = .returned v ∧ ∃ m, w'' = w.drewN m :=
  h.mono fun _ _ ⟨he, hm⟩ => ⟨he, n, hm.symm⟩
theorem vHeard_to {id : Int} {ls ls' : List Ln} {y : An} (h : vw ls' = vHeard id (vw ls) y) : vHeard id (vw ls) y = vw ls' := h.symm
/-- The rows' cells. -/
theorem Rf.At.cells1 {w : World} {rb : Nat} {id : Int} {g1 p1 n : Nat} {v2 v3 : Value} {vs : List Vw} (h : Rf.At w rb id (.slice (some ⟨g1, 0, none⟩) n p1) v2 v3 vs) (hn : vs.length = n) (k : Nat) (hk : k < vs.length) {r : Rq} (hr : (vs[k]).1 = r) :
    w.cell? ⟨g1, k * 7, none⟩ = some (.int .i64 r.client) ∧ w.cell? ⟨g1, k * 7 + 1, none⟩ = some (.int .i64 r.serial) ∧ w.cell? ⟨g1, k * 7 + 2, none⟩ = some (.int .i64 r.tenant) ∧ w.cell? ⟨g1, k * 7 + 3, none⟩ = some (.string r.key) ∧ w.cell? ⟨g1, k * 7 + 4, none⟩ = some (.string r.method) ∧ w.cell? ⟨g1, k * 7 + 5, none⟩ = some (.string r.path) ∧ w.cell? ⟨g1, k * 7 + 6, none⟩ = some (.string r.body) := by
  subst hr hn
  have hr := owns_range (f := fun p : Vw => p.1.cells) (l := vs) h.r1 (fun _ => rfl) rfl k hk
  exact ⟨hr 0 _ rfl, hr 1 _ rfl, hr 2 _ rfl, hr 3 _ rfl, hr 4 _ rfl, hr 5 _ rfl, hr 6 _ rfl⟩
theorem Rf.At.cells3 {w : World} {rb : Nat} {id : Int} {g3 p3 n : Nat} {v1 v2 : Value} {vs : List Vw} (h : Rf.At w rb id v1 v2 (.slice (some ⟨g3, 0, none⟩) n p3) vs) (hn : vs.length = n) (k : Nat) (hk : k < vs.length) {y : An} (hy : (vs[k]).2.getD an0 = y) :
    w.cell? ⟨g3, k * 6, none⟩ = some (.int .i64 y.client) ∧ w.cell? ⟨g3, k * 6 + 1, none⟩ = some (.int .i64 y.serial) ∧ w.cell? ⟨g3, k * 6 + 2, none⟩ = some (.int .i64 y.status) ∧ w.cell? ⟨g3, k * 6 + 3, none⟩ = some (.string y.text) ∧ w.cell? ⟨g3, k * 6 + 4, none⟩ = some (.int .i64 y.after) ∧ w.cell? ⟨g3, k * 6 + 5, none⟩ = some (.int .i64 y.epoch) := by
  subst hy hn
  have hr := owns_range (f := Rf.f3) (l := vs) h.r3 Rf.f3_len rfl k hk
  exact ⟨hr 0 _ rfl, hr 1 _ rfl, hr 2 _ rfl, hr 3 _ rfl, hr 4 _ rfl, hr 5 _ rfl⟩
theorem Rf.At.cells2 {w : World} {rb : Nat} {id : Int} {g2 p2 n : Nat} {v1 v3 : Value} {vs : List Vw} (h : Rf.At w rb id v1 (.slice (some ⟨g2, 0, none⟩) n p2) v3 vs) (hn : vs.length = n) (k : Nat) (hk : k < vs.length) {t : Bool} (ht : (vs[k]).2.isSome = t) :
    w.cell? ⟨g2, k, none⟩ = some (.bool t) := by
  subst ht hn
  rw [h.r2.cellAt k (by omega), Rf.c2_at vs k hk]
theorem own_cfp {cb : Nat} {v v' : Value} {ls ls' : List Ln} {w : World} (h : ∀ k, v'.ownBlock = some k → v.ownBlock = some k ∨ w.heap.size ≤ k) (ho : ∀ k, Ln.own ls' k → Ln.own ls k ∨ w.heap.size ≤ k) : Grew w (cfp cb v ls) (cfp cb v' ls') := by
  rintro k (hk | hk | hk)
  · exact .inl (.inl hk)
  · exact (h k hk).imp (fun e => .inr (.inl e)) (fun e => e)
  · exact (ho k hk).imp (fun e => .inr (.inr e)) (fun e => e)
/-- The state of both. -/
structure Both (w0 w : World) (cb rb : Nat) (id : Int) (ls : List Ln) (v u1 u2 u3 : Value) : Prop where
  c : Cl w cb id v ls
  r : Rf.At w rb id u1 u2 u3 (vw ls)
  s : Sep (cfp cb v ls) (Rf.fp rb u1 u2 u3)
  f : Frm0 w0 w
theorem Both.frm0 {w0 w w1 : World} {cb rb : Nat} {id : Int} {ls : List Ln} {v u1 u2 u3 : Value} (h : Both w0 w cb rb id ls v u1 u2 u3) (hf : Frm0 w w1) : Both w0 w1 cb rb id ls v u1 u2 u3 := ⟨h.c.frm0 hf, h.r.frm0 hf, h.s, h.f.trans hf⟩

set_option maxHeartbeats 16000000 in
set_option maxRecDepth 100000 in
theorem runs_walk (id : Int) (v : Value) (l : List CDeed) (n : Int × Int × Int) (w : World) (hs : Sl w v l.length (l.flatMap CDeed.cells)) (hg : ∀ a ∈ l, CDeed.Good a) (hn1 : -9223372036854775808 ≤ n.1 ∧ n.1 ≤ 9223372036854775807) :
    Calls Try.prog 9 #[.int .i64 id, v, .agg #[.int .i64 n.1, .int .i64 n.2.1, .int .i64 n.2.2]] w (OnceP w) := by
  have hlen := hs.len
  obtain ⟨n0, n1, n2⟩ := n
  simp only at hn1 ⊢
  have hF0 := (Frm.refl (fun _ => False) w).alloc (.cells #[.int .i64 n0, .int .i64 n1, .int .i64 n2] 73)
  have hbN := Bk.new w (.cells #[.int .i64 n0, .int .i64 n1, .int .i64 n2] 73)
  have HSM := Lib.hid (fun w1 (hf : Frm0 w w1) => small_any v l w1 (hs.frm0 hf) hg)
  obtain ⟨A, c, rfl⟩ := hs.form
  have HC := Lib.hid (fun k hk => cdeeds_at hs k hk)
  clear hs hg
  go_enter Try.func9, Try.ntmps9
  go_wp2_with fail
  have hz0 : w.heap.size + 1 = (w.alloc (.cells #[.int .i64 n0, .int .i64 n1, .int .i64 n2] 73)).heap.size := by simp
  generalize w.alloc (.cells #[.int .i64 n0, .int .i64 n1, .int .i64 n2] 73) = w0 at *
  refine (clawake _).mono ?_
  rintro e w1 ⟨rfl, hf1⟩
  go_wp2_with fail
  refine (HSM.out _ (hF0.trans hf1)).mono ?_
  rintro e w2 ⟨sm, rfl, hsm, hf2⟩
  have hF2 := hf1.trans hf2
  clear hf1 hf2 HSM
  cases sm with
  | false =>
    go_wp2
    go_ret
    exact ⟨rfl, (hF0.trans hF2).below (fun _ _ h => h)⟩
  | true =>
  have hl60 := hsm rfl
  clear hsm
  go_wp2_with fail
  refine (cnew_any id _).mono ?_
  rintro e w3 ⟨rfl, hC, hf3⟩
  have hF3 := hF2.trans hf3
  have hcb : w0.heap.size ≤ w2.heap.size := hF2.size
  generalize w2.heap.size = cb at *
  clear hF2 hf3
  have hrb : w0.heap.size ≤ w3.heap.size := hF3.size
  have hB : Both w0 (w3.alloc (.cells #[.int .i64 id, .slice none 0 0, .slice none 0 0, .slice none 0 0] 82)) cb w3.heap.size id [] (.slice none 0 0) (.slice none 0 0) (.slice none 0 0) (.slice none 0 0) := by
    refine ⟨hC.frm0 ((Frm.refl _ w3).alloc _), ⟨Bk.new _ _, World.ownsRow_nil _ _ _ _, World.ownsRow_nil _ _ _ _, World.ownsRow_nil _ _ _ _, by simp [Value.ownBlock], by simp [Value.ownBlock], by simp [Value.ownBlock]⟩, ?_, hF3.alloc _⟩
    have := hC.lt
    rintro q (h | h | ⟨x, hx, _⟩) (h2 | h2 | h2 | h2)
    all_goals first
      | (simp [Value.ownBlock] at h2; done)
      | (simp [Value.ownBlock] at h; done)
      | cases hx
      | omega
  clear hC hF3
  go_wp2_with fail
  generalize w3.heap.size = rb at *
  go_loopw [38] (fun i wr => ∃ (k : Nat) (ls : List Ln) (v u1 u2 u3 : Value), k ≤ l.length ∧ i = .int .i64 k ∧ Both w0 wr cb rb id ls v u1 u2 u3 ∧ ls.length ≤ k) (fun i _ => l.length - (intOf i).toNat)
  case atStart => exact ⟨0, [], _, _, _, _, by omega, rfl, hB, by simp⟩
  case round =>
    clear hB
    obtain ⟨k, ls, v, u1, u2, u3, hk, rfl, hB, hlk⟩ := hrel
    by_cases hlt : k < l.length
    · obtain ⟨b, o, rfl, c0, c1, c2, c3, c4, c5, c6, c7, c8, c9, c10, c11, c12, c13, c14⟩ := HC.out k hlt
      generalize l[k] = d at *
      obtain ⟨k0, k1, ⟨x0, x1, x2, x3, x4, x5, x6⟩, ⟨z0, z1, z2, z3, z4, z5⟩⟩ := d
      simp only at c0 c1 c2 c3 c4 c5 c6 c7 c8 c9 c10 c11 c12 c13 c14
      have c0 := (hF0.trans hB.f).cell c0 (fun h => h)
      have c1 := (hF0.trans hB.f).cell c1 (fun h => h)
      have c2 := (hF0.trans hB.f).cell c2 (fun h => h)
      have c3 := (hF0.trans hB.f).cell c3 (fun h => h)
      have c4 := (hF0.trans hB.f).cell c4 (fun h => h)
      have c5 := (hF0.trans hB.f).cell c5 (fun h => h)
      have c6 := (hF0.trans hB.f).cell c6 (fun h => h)
      have c7 := (hF0.trans hB.f).cell c7 (fun h => h)
      have c8 := (hF0.trans hB.f).cell c8 (fun h => h)
      have c9 := (hF0.trans hB.f).cell c9 (fun h => h)
      have c10 := (hF0.trans hB.f).cell c10 (fun h => h)
      have c11 := (hF0.trans hB.f).cell c11 (fun h => h)
      have c12 := (hF0.trans hB.f).cell c12 (fun h => h)
      have c13 := (hF0.trans hB.f).cell c13 (fun h => h)
      have c14 := (hF0.trans hB.f).cell c14 (fun h => h)
      have hki : (k : Int) < (l.length : Int) := by omega
      cases k0 with
      | true => as_aux_lemma =>
        have hBD := hB.frm0 ((Frm.refl _ wr).alloc (.cells #[.bool true, .bool k1, .int .i64 x0, .int .i64 x1, .int .i64 x2, .string x3, .string x4, .string x5, .string x6, .int .i64 z0, .int .i64 z1, .int .i64 z2, .string z3, .int .i64 z4, .int .i64 z5] 88))
        have hbD := Bk.new wr (.cells #[.bool true, .bool k1, .int .i64 x0, .int .i64 x1, .int .i64 x2, .string x3, .string x4, .string x5, .string x6, .int .i64 z0, .int .i64 z1, .int .i64 z2, .string z3, .int .i64 z4, .int .i64 z5] 88)
        have HA := Lib.hid (ask_any ⟨x0, x1, x2, x3, x4, x5, x6⟩ hBD.c (by omega))
        unfold rqV asks at HA
        simp only at HA
        have hunR := hBD.r.under
        have hunC := hBD.c.under
        have hovR := hBD.r.over
        go_wp2_with fail
        refine HA.out.mono ?_
        rintro e w4 ⟨v4, rfl, h4, hm4, hf4⟩
        have hsz4 := hf4.size
        simp at hsz4
        have hr4 := hBD.r.frm hf4 (fun q hq e => by
          rcases e with e | e
          · exact hBD.s q (.inl e) hq
          · exact hBD.s q (.inr (.inl e)) hq)
        have hf4o := hBD.f.out hf4 (fun q e => by
          rcases e with e | e
          · omega
          · have := (hBD.c.own _ e).1; omega)
        have hbD4 := hf4.blk hbD (fun e => by
          rcases e with e | e
          · have := hBD.c.lt; have := hB.c.lt; omega
          · have := (hB.c.own _ e).2; omega)
        have hG4 : Grew (wr.alloc (.cells #[.bool true, .bool k1, .int .i64 x0, .int .i64 x1, .int .i64 x2, .string x3, .string x4, .string x5, .string x6, .int .i64 z0, .int .i64 z1, .int .i64 z2, .string z3, .int .i64 z4, .int .i64 z5] 88)) (cfp cb v ls) (cfp cb v4 (ls ++ [⟨⟨id, (ls.length : Int) + 1, x2, x3, x4, x5, x6⟩, none⟩])) := own_cfp hm4 (fun q ⟨x, hx, b, hb⟩ => by
          rcases List.mem_append.1 hx with hx | hx
          · exact .inl ⟨x, hx, b, hb⟩
          · rw [List.mem_singleton.1 hx] at hb; cases hb)
        have hs4 := hG4.sep hBD.s hunR
        have hB5 : Rf.At (w4.alloc (.cells #[.int .i64 id, .int .i64 ((ls.length : Int) + 1), .int .i64 x2, .string x3, .string x4, .string x5, .string x6] 84)) rb id u1 u2 u3 (vw ls) := hr4.frm0 ((Frm.refl _ w4).alloc _)
        have hC5 := h4.frm0 ((Frm.refl _ w4).alloc (.cells #[.int .i64 id, .int .i64 ((ls.length : Int) + 1), .int .i64 x2, .string x3, .string x4, .string x5, .string x6] 84))
        have hF5 := hf4o.alloc (.cells #[.int .i64 id, .int .i64 ((ls.length : Int) + 1), .int .i64 x2, .string x3, .string x4, .string x5, .string x6] 84)
        have hbD5 := Bk.alloc hbD4 (.cells #[.int .i64 id, .int .i64 ((ls.length : Int) + 1), .int .i64 x2, .string x3, .string x4, .string x5, .string x6] 84)
        have hbR5 := Bk.new w4 (.cells #[.int .i64 id, .int .i64 ((ls.length : Int) + 1), .int .i64 x2, .string x3, .string x4, .string x5, .string x6] 84)
        have hnR : ∀ q, wr.heap.size ≤ q → ¬ Rf.fp rb u1 u2 u3 q := fun q hq h => by have := hB.r.under q h; omega
        have HR := Lib.hid (fun w' (h : Rf.At w' rb id u1 u2 u3 (vw ls)) => Rf.ask_any ⟨x0, x1, x2, x3, x4, x5, x6⟩ h (by rw [vw_len]; omega))
        unfold rqV Rf.ask at HR
        rw [vw_len] at HR
        simp only at HR
        have E1 := Lib.hid (fun w => ne_rq ⟨id, (ls.length : Int) + 1, x2, x3, x4, x5, x6⟩ w)
        unfold rqV at E1
        simp only at E1
        have E2 := E1.out
        clear E1 c0 c1 c2 c3 c4 c5 c6 c7 c8 c9 c10 c11 c12 c13 c14
        go_wp2_with fail
        generalize hW5 : w4.alloc (.cells #[.int .i64 id, .int .i64 ((ls.length : Int) + 1), .int .i64 x2, .string x3, .string x4, .string x5, .string x6] 84) = w5 at *
        refine wp_region_held_drew (S := (fun w' => w'.heap[w4.heap.size]? = some (.cells #[.int .i64 id, .int .i64 ((ls.length : Int) + 1), .int .i64 x2, .string x3, .string x4, .string x5, .string x6] 84 (0, 0)) ∧ w'.heap[wr.heap.size]? = some (.cells #[.bool true, .bool k1, .int .i64 x0, .int .i64 x1, .int .i64 x2, .string x3, .string x4, .string x5, .string x6, .int .i64 z0, .int .i64 z1, .int .i64 z2, .string z3, .int .i64 z4, .int .i64 z5] 88 (0, 0)))) (by kernel_rfl) (⟨Bk.drew hbR5, Bk.drew hbD5⟩) (fun hHeld => ?_)
        skip
        refine wpAnyH_take (i := 0) (v := ?_) rfl (by kernel_rfl) (by kernel_rfl) (by kernel_rfl) (fun _ _ _ h => h) (Or.inl ⟨by rfl, ?_⟩) (by assumption) ?_
        rotate_left 1
        focus (intro w hSw; (try dsimp only at hSw); go_simp; (try with_reducible rfl))
        (try simp only [Act.put, List.getElem_toArray, List.getElem_cons_succ, List.getElem_cons_zero, List.setIfInBounds_toArray, List.set_cons_zero, List.set_cons_succ])
        refine wpAnyH_take (i := 1) (v := ?_) rfl (by kernel_rfl) (by kernel_rfl) (by kernel_rfl) (fun _ _ _ h => h) (Or.inl ⟨by rfl, ?_⟩) (by assumption) ?_
        rotate_left 1
        focus (intro w hSw; (try dsimp only at hSw); go_simp; (try with_reducible rfl))
        (try simp only [Act.put, List.getElem_toArray, List.getElem_cons_succ, List.getElem_cons_zero, List.setIfInBounds_toArray, List.set_cons_zero, List.set_cons_succ])
        refine wpAnyH_take (i := 2) (v := ?_) rfl (by kernel_rfl) (by kernel_rfl) (by kernel_rfl) (fun _ _ _ h => h) (Or.inl ⟨by rfl, ?_⟩) (by assumption) ?_
        rotate_left 1
        focus (intro w hSw; (try dsimp only at hSw); go_simp; (try with_reducible rfl))
        (try simp only [Act.put, List.getElem_toArray, List.getElem_cons_succ, List.getElem_cons_zero, List.setIfInBounds_toArray, List.set_cons_zero, List.set_cons_succ])
        refine wpAnyH_take (i := 3) (v := ?_) rfl (by kernel_rfl) (by kernel_rfl) (by kernel_rfl) (fun _ _ _ h => h) (Or.inl ⟨by rfl, ?_⟩) (by assumption) ?_
        rotate_left 1
        focus (intro w hSw; (try dsimp only at hSw); obtain ⟨e0, e1, e2, e3, e4, e5, e6⟩ := Bk.c7 hSw.1; go_simp; (try with_reducible rfl))
        (try simp only [Act.put, List.getElem_toArray, List.getElem_cons_succ, List.getElem_cons_zero, List.setIfInBounds_toArray, List.set_cons_zero, List.set_cons_succ])
        refine wpAnyH_take (i := 4) (v := ?_) rfl (by kernel_rfl) (by kernel_rfl) (by kernel_rfl) (fun _ _ _ h => h) (Or.inl ⟨by rfl, ?_⟩) (by assumption) ?_
        rotate_left 1
        focus (intro w hSw; (try dsimp only at hSw); go_simp; (try with_reducible rfl))
        (try simp only [Act.put, List.getElem_toArray, List.getElem_cons_succ, List.getElem_cons_zero, List.setIfInBounds_toArray, List.set_cons_zero, List.set_cons_succ])
        refine wpAnyH_take (i := 5) (v := ?_) rfl (by kernel_rfl) (by kernel_rfl) (by kernel_rfl) (fun _ _ _ h => h) (Or.inl ⟨by rfl, ?_⟩) (by assumption) ?_
        rotate_left 1
        focus (intro w hSw; (try dsimp only at hSw); go_simp; (try with_reducible rfl))
        (try simp only [Act.put, List.getElem_toArray, List.getElem_cons_succ, List.getElem_cons_zero, List.setIfInBounds_toArray, List.set_cons_zero, List.set_cons_succ])
        refine wpAnyH_take (i := 6) (v := ?_) rfl (by kernel_rfl) (by kernel_rfl) (by kernel_rfl) (fun _ _ _ h => h) (Or.inl ⟨by rfl, ?_⟩) (by assumption) ?_
        rotate_left 1
        focus (intro w hSw; (try dsimp only at hSw); obtain ⟨e0, e1, e2, e3, e4, e5, e6, e7, e8, e9, e10, e11, e12, e13, e14⟩ := Bk.c15 hSw.2; go_simp; (try with_reducible rfl))
        (try simp only [Act.put, List.getElem_toArray, List.getElem_cons_succ, List.getElem_cons_zero, List.setIfInBounds_toArray, List.set_cons_zero, List.set_cons_succ])
        refine wpAnyH_ready (rs := [7]) (by kernel_rfl) (by simp) ?_
        refine AllReadyH.cons rfl (fun K hK => ?_) AllReadyH.nil
        go_simp
        refine (HR.out _ (hB5.frm0 (Frm.refl _ w5).drew)).mono ?_
        rintro e w9 ⟨n1, n2, n3, rfl, hR9, hG9, hf9⟩
        (try go_wp2_with fail)
        refine hK.out _ _ ?_ (fun hHeld => ?_)
        focus (exact ⟨hf9.blk (by assumption : _ ∧ _).1 (hnR _ (by omega)), hf9.blk (by assumption : _ ∧ _).2 (hnR _ (Nat.le_refl _))⟩)
        clear hK K
        (try simp only [Act.put, List.getElem_toArray, List.getElem_cons_succ, List.getElem_cons_zero, List.setIfInBounds_toArray, List.set_cons_zero, List.set_cons_succ])
        refine wpAnyH_take (i := 8) (v := ?_) rfl (by kernel_rfl) (by kernel_rfl) (by kernel_rfl) (fun _ _ _ h => h) (Or.inl ⟨by rfl, ?_⟩) (by assumption) ?_
        rotate_left 1
        focus (intro w hSw; (try dsimp only at hSw); go_simp; (try with_reducible rfl))
        (try simp only [Act.put, List.getElem_toArray, List.getElem_cons_succ, List.getElem_cons_zero, List.setIfInBounds_toArray, List.set_cons_zero, List.set_cons_succ])
        refine wpAnyH_take (i := 9) (v := ?_) rfl (by kernel_rfl) (by kernel_rfl) (by kernel_rfl) (fun _ _ _ h => h) (Or.inl ⟨by rfl, ?_⟩) (by assumption) ?_
        rotate_left 1
        focus (intro w hSw; (try dsimp only at hSw); go_simp; (try with_reducible rfl))
        (try simp only [Act.put, List.getElem_toArray, List.getElem_cons_succ, List.getElem_cons_zero, List.setIfInBounds_toArray, List.set_cons_zero, List.set_cons_succ])
        refine wpAnyH_done (by kernel_rfl) ?_ _
        have hC9 := (hC5.frm0 (Frm.refl _ w5).drew).frm hf9 (fun q hq e => hs4 q hq e)
        have hs9 := (hG9.sep hs4.symm ((hC5.frm0 (Frm.refl _ w5).drew).under)).symm
        have hF9 := (hF5.drew).out hf9 (fun q e => by have := hovR q e; omega)
        have hB9 : Both w0 w9 cb rb id (ls ++ [⟨⟨id, (ls.length : Int) + 1, x2, x3, x4, x5, x6⟩, none⟩]) v4 n1 n2 n3 := ⟨hC9, by rw [show vw (ls ++ [⟨⟨id, (ls.length : Int) + 1, x2, x3, x4, x5, x6⟩, none⟩]) = vw ls ++ [(⟨id, (ls.length : Int) + 1, x2, x3, x4, x5, x6⟩, none)] by simp [vw, Ln.vw]]; exact hR9, hs9, hF9⟩
        have hll : (ls ++ [(⟨⟨id, (ls.length : Int) + 1, x2, x3, x4, x5, x6⟩, none⟩ : Ln)]).length ≤ k + 1 := by simp; omega
        generalize ls ++ [(⟨⟨id, (ls.length : Int) + 1, x2, x3, x4, x5, x6⟩, none⟩ : Ln)] = ls9 at *
        clear hC9 hs9 hF9 hR9 hG9 hf9 hs4 hG4 hf4 hf4o h4 hr4 hB5 hC5 hF5 hbD5 hbR5 hbD4 hbD hBD hB HR HA E2 hunR hunC hovR hnR
        have hn := vw_len ls9
        have HO1 := Lib.hid (open_any hB9.c (by omega))
        go_wp2_with fail
        refine HO1.out.mono ?_
        rintro e w10 ⟨t1, rfl, ht1, hf10⟩
        have hB10 := hB9.frm0 hf10
        have HO2 := Lib.hid (Rf.open_any hB10.r (by omega))
        go_wp2_with fail
        refine HO2.out.mono ?_
        rintro e w11 ⟨t2, rfl, ht2, hf11⟩
        have hB11 := hB10.frm0 hf11
        have ht1' := owns_frm0 ht1 hf11
        rw [hn] at ht2
        have hol := opensTo_len (vw ls9) ls9.length
        generalize opensTo (vw ls9) ls9.length = OS at *
        obtain ⟨A1, p1, rfl⟩ := Rf.form_of ht1'
        obtain ⟨A2, p2, rfl⟩ := Rf.form_of ht2
        have HB := Lib.hid hB11
        have HT1 := Lib.hid ht1'
        have HT2 := Lib.hid ht2
        obtain ⟨m0, m1, m2, m3⟩ := Bk.c4 hB11.r.blk
        obtain ⟨A3, p3, hform⟩ := Rf.form_of hB11.r.r1
        rw [hn] at hform
        subst hform
        have HLL := Lib.hid (fun w' v' (h : Cl w' cb id v' ls9) => last_any h)
        clear ht1 ht1' ht2 hB9 hB10 hB11 HO1 HO2 hf10 hf11
        go_wp2_with fail
        go_quiet ((go_at_call 43; exact quiet_same (HLL.out _ _ (HB.out.c.frm0 ((Frm.refl (fun _ => False) _).drewN _)))))
        have hB12 := HB.out.frm0 ((Frm.refl (fun _ => False) _).drewN nq)
        have hT1 := owns_frm0 HT1.out ((Frm.refl (fun _ => False) _).drewN nq)
        have hT2 := owns_frm0 HT2.out ((Frm.refl (fun _ => False) _).drewN nq)
        clear m0 m1 m2 m3 HLL
        go_wp2_with fail
        generalize w11.drewN nq = w12 at *
        go_loopw [95] (fun i wq => ∃ (j : Nat), j ≤ OS.length ∧ i = .int .i64 j ∧ Frm0 w12 wq) (fun i _ => OS.length - (intOf i).toNat)
        case atStart => exact ⟨0, by omega, rfl, Frm.refl _ _⟩
        case round =>
          obtain ⟨j, hj, rfl, hFq⟩ := hrel
          by_cases hjl : j < OS.length
          · obtain ⟨g1, q1, he1⟩ := Rf.pos_of hT1 (by omega)
            obtain ⟨g2, q2, he2⟩ := Rf.pos_of hT2 (by omega)
            cases he1
            cases he2
            have o1 := (owns_frm0 hT1 hFq).cellAt j (by omega)
            have o2 := (owns_frm0 hT2 hFq).cellAt j (by omega)
            rw [wints_at OS j hjl] at o1 o2
            generalize OS[j] = oj at o1 o2
            have hji : (j : Int) < (OS.length : Int) := by omega
            have hji0 : (0 : Int) ≤ (j : Int) := by omega
            go_wp2_with fail
            go_quiet (fail)
            go_wp2_with fail
            go_roundw
            case rel => exact ⟨j + 1, by omega, by go_num, hFq.drewN _⟩
            case measure => simp [intOf]; omega
          · obtain rfl : j = OS.length := by omega
            have hB13 := hB12.frm0 hFq
            clear HB HT1 HT2 hT1 hT2 hB12
            go_wp2_with fail
            go_roundw
            case rel => exact ⟨k + 1, ls9, _, _, _, _, by omega, by go_num, hB13, by omega⟩
            case measure => simp [intOf]; omega
      | false =>
        cases k1 with
        | true => as_aux_lemma =>
          have hB5 := (hB.frm0 ((Frm.refl _ wr).alloc (.cells #[.bool false, .bool true, .int .i64 x0, .int .i64 x1, .int .i64 x2, .string x3, .string x4, .string x5, .string x6, .int .i64 z0, .int .i64 z1, .int .i64 z2, .string z3, .int .i64 z4, .int .i64 z5] 88))).frm0 ((Frm.refl _ _).alloc (.cells #[.int .i64 id, .int .i64 z1, .int .i64 z2, .string z3, .int .i64 z4, .int .i64 z5] 86))
          have hbA := new_second wr (.cells #[.bool false, .bool true, .int .i64 x0, .int .i64 x1, .int .i64 x2, .string x3, .string x4, .string x5, .string x6, .int .i64 z0, .int .i64 z1, .int .i64 z2, .string z3, .int .i64 z4, .int .i64 z5] 88) (.cells #[.int .i64 id, .int .i64 z1, .int .i64 z2, .string z3, .int .i64 z4, .int .i64 z5] 86)
          have hnC : ∀ q, wr.heap.size ≤ q → v.ownBlock ≠ some q := fun q hq e => by have := (hB.c.own _ e).2; omega
          have hnR : ∀ q, wr.heap.size ≤ q → ¬ Rf.fp rb u1 u2 u3 q := fun q hq h => by have := hB.r.under q h; omega
          have HH := Lib.hid (fun w' (h : Cl w' cb id v ls) => hear_any (⟨id, z1, z2, z3, z4, z5⟩ : An) h (by omega))
          have HR := Lib.hid (fun w' (h : Rf.At w' rb id u1 u2 u3 (vw ls)) => Rf.hear_any (⟨id, z1, z2, z3, z4, z5⟩ : An) h (by rw [vw_len]; omega))
          unfold anV at HH HR
          simp only at HH HR
          generalize hq : vHear id (vw ls) (⟨id, z1, z2, z3, z4, z5⟩ : An) = q at *
          go_wp2_with fail
          generalize (wr.alloc (.cells #[.bool false, .bool true, .int .i64 x0, .int .i64 x1, .int .i64 x2, .string x3, .string x4, .string x5, .string x6, .int .i64 z0, .int .i64 z1, .int .i64 z2, .string z3, .int .i64 z4, .int .i64 z5] 88)).alloc (.cells #[.int .i64 id, .int .i64 z1, .int .i64 z2, .string z3, .int .i64 z4, .int .i64 z5] 86) = w5 at *
          refine wp_region_held_drew (S := (fun w' => w'.heap[(wr.heap.size + 1)]? = some (.cells #[.int .i64 id, .int .i64 z1, .int .i64 z2, .string z3, .int .i64 z4, .int .i64 z5] 86 (0, 0)))) (by kernel_rfl) (Bk.drew hbA) (fun hHeld => ?_)
          skip
          refine wpAnyH_take (i := 0) (v := ?_) rfl (by kernel_rfl) (by kernel_rfl) (by kernel_rfl) (fun _ _ _ h => h) (Or.inl ⟨by rfl, ?_⟩) (by assumption) ?_
          rotate_left 1
          focus (intro w hSw; (try dsimp only at hSw); go_simp; (try with_reducible rfl))
          (try simp only [Act.put, List.getElem_toArray, List.getElem_cons_succ, List.getElem_cons_zero, List.setIfInBounds_toArray, List.set_cons_zero, List.set_cons_succ])
          refine wpAnyH_take (i := 1) (v := ?_) rfl (by kernel_rfl) (by kernel_rfl) (by kernel_rfl) (fun _ _ _ h => h) (Or.inl ⟨by rfl, ?_⟩) (by assumption) ?_
          rotate_left 1
          focus (intro w hSw; (try dsimp only at hSw); obtain ⟨e0, e1, e2, e3, e4, e5⟩ := Bk.c6 hSw; go_simp; (try with_reducible rfl))
          (try simp only [Act.put, List.getElem_toArray, List.getElem_cons_succ, List.getElem_cons_zero, List.setIfInBounds_toArray, List.set_cons_zero, List.set_cons_succ])
          refine wpAnyH_take (i := 3) (v := ?_) rfl (by kernel_rfl) (by kernel_rfl) (by kernel_rfl) (fun _ _ _ h => h) (Or.inl ⟨by rfl, ?_⟩) (by assumption) ?_
          rotate_left 1
          focus (intro w hSw; (try dsimp only at hSw); go_simp; (try with_reducible rfl))
          (try simp only [Act.put, List.getElem_toArray, List.getElem_cons_succ, List.getElem_cons_zero, List.setIfInBounds_toArray, List.set_cons_zero, List.set_cons_succ])
          refine wpAnyH_take (i := 4) (v := ?_) rfl (by kernel_rfl) (by kernel_rfl) (by kernel_rfl) (fun _ _ _ h => h) (Or.inl ⟨by rfl, ?_⟩) (by assumption) ?_
          rotate_left 1
          focus (intro w hSw; (try dsimp only at hSw); obtain ⟨e0, e1, e2, e3, e4, e5⟩ := Bk.c6 hSw; go_simp; (try with_reducible rfl))
          (try simp only [Act.put, List.getElem_toArray, List.getElem_cons_succ, List.getElem_cons_zero, List.setIfInBounds_toArray, List.set_cons_zero, List.set_cons_succ])
          refine wpAnyH_ready (rs := [2]) (by kernel_rfl) (by simp) ?_
          refine AllReadyH.cons rfl (fun K hK => ?_) AllReadyH.nil
          go_simp
          refine (HH.out _ (hB5.c.frm0 (Frm.refl _ w5).drew)).mono ?_
          rintro e w8 ⟨ls9, rfl, hC8, hv8, hl8, ho8, hf8⟩
          have hr8 := (hB5.r.frm0 (Frm.refl _ w5).drew).frm hf8 (fun q hq e => hB5.s q (.inr (.inl e)) hq)
          (try go_wp2_with fail)
          refine hK.out _ _ ?_ (fun hHeld => ?_)
          focus (exact hf8.blk (by assumption) (hnC _ (by omega)))
          clear hK K
          (try simp only [Act.put, List.getElem_toArray, List.getElem_cons_succ, List.getElem_cons_zero, List.setIfInBounds_toArray, List.set_cons_zero, List.set_cons_succ])
          refine wpAnyH_ready (rs := [5]) (by kernel_rfl) (by simp) ?_
          refine AllReadyH.cons rfl (fun K hK => ?_) AllReadyH.nil
          go_simp
          refine (HR.out _ hr8).mono ?_
          rintro e w9 ⟨rfl, hR9, hf9⟩
          (try go_wp2_with fail)
          refine hK.out _ _ ?_ (fun hHeld => ?_)
          focus (exact hf9.blk (by assumption) (hnR _ (by omega)))
          clear hK K
          (try simp only [Act.put, List.getElem_toArray, List.getElem_cons_succ, List.getElem_cons_zero, List.setIfInBounds_toArray, List.set_cons_zero, List.set_cons_succ])
          refine wpAnyH_take (i := 6) (v := ?_) rfl (by kernel_rfl) (by kernel_rfl) (by kernel_rfl) (fun _ _ _ h => h) (Or.inl ⟨by rfl, ?_⟩) (by assumption) ?_
          rotate_left 1
          focus (intro w hSw; (try dsimp only at hSw); go_simp; (try with_reducible rfl))
          (try simp only [Act.put, List.getElem_toArray, List.getElem_cons_succ, List.getElem_cons_zero, List.setIfInBounds_toArray, List.set_cons_zero, List.set_cons_succ])
          refine wpAnyH_done (by kernel_rfl) ?_ _
          have hG8 : Grew w5.drew (cfp cb v ls) (cfp cb v ls9) := own_cfp (fun q hq => .inl hq) ho8
          have hs9 := hG8.sep hB5.s ((hB5.r.frm0 (Frm.refl _ w5).drew).under)
          have hC9 := hC8.frm hf9 (fun q hq e => hs9 q hq e)
          have hF9 := ((hB5.f.drew).out hf8 (fun q e => by have := (hB5.c.own _ e).1; omega)).out hf9 (fun q e => by have := hB5.r.over q e; omega)
          rw [← hv8] at hR9
          have hB9 : Both w0 w9 cb rb id ls9 v u1 u2 u3 := ⟨hC9, hR9, hs9, hF9⟩
          have hll : ls9.length ≤ k + 1 := by omega
          clear hC9 hF9 hs9 hG8 hC8 hv8 hl8 ho8 hf8 hr8 hR9 hf9 HH HR hB5 hbA hB hnC hnR hq
          have hn := vw_len ls9
          have HO1 := Lib.hid (open_any hB9.c (by omega))
          go_wp2_with fail
          refine HO1.out.mono ?_
          rintro e w10 ⟨t1, rfl, ht1, hf10⟩
          have hB10 := hB9.frm0 hf10
          have HO2 := Lib.hid (Rf.open_any hB10.r (by omega))
          go_wp2_with fail
          refine HO2.out.mono ?_
          rintro e w11 ⟨t2, rfl, ht2, hf11⟩
          have hB11 := hB10.frm0 hf11
          have ht1' := owns_frm0 ht1 hf11
          rw [hn] at ht2
          have hol := opensTo_len (vw ls9) ls9.length
          generalize opensTo (vw ls9) ls9.length = OS at *
          obtain ⟨A1, p1, rfl⟩ := Rf.form_of ht1'
          obtain ⟨A2, p2, rfl⟩ := Rf.form_of ht2
          have HB := Lib.hid hB11
          have HT1 := Lib.hid ht1'
          have HT2 := Lib.hid ht2
          obtain ⟨m0, m1, m2, m3⟩ := Bk.c4 hB11.r.blk
          obtain ⟨A3, p3, hform⟩ := Rf.form_of hB11.r.r1
          rw [hn] at hform
          subst hform
          have HLL := Lib.hid (fun w' v' (h : Cl w' cb id v' ls9) => last_any h)
          clear ht1 ht1' ht2 hB9 hB10 hB11 HO1 HO2 hf10 hf11
          go_wp2_with fail
          go_quiet ((go_at_call 43; exact quiet_same (HLL.out _ _ (HB.out.c.frm0 ((Frm.refl (fun _ => False) _).drewN _)))))
          have hB12 := HB.out.frm0 ((Frm.refl (fun _ => False) _).drewN nq)
          have hT1 := owns_frm0 HT1.out ((Frm.refl (fun _ => False) _).drewN nq)
          have hT2 := owns_frm0 HT2.out ((Frm.refl (fun _ => False) _).drewN nq)
          clear m0 m1 m2 m3 HLL
          go_wp2_with fail
          generalize w11.drewN nq = w12 at *
          go_loopw [95] (fun i wq => ∃ (j : Nat), j ≤ OS.length ∧ i = .int .i64 j ∧ Frm0 w12 wq) (fun i _ => OS.length - (intOf i).toNat)
          case atStart => exact ⟨0, by omega, rfl, Frm.refl _ _⟩
          case round =>
            obtain ⟨j, hj, rfl, hFq⟩ := hrel
            by_cases hjl : j < OS.length
            · obtain ⟨g1, q1, he1⟩ := Rf.pos_of hT1 (by omega)
              obtain ⟨g2, q2, he2⟩ := Rf.pos_of hT2 (by omega)
              cases he1
              cases he2
              have o1 := (owns_frm0 hT1 hFq).cellAt j (by omega)
              have o2 := (owns_frm0 hT2 hFq).cellAt j (by omega)
              rw [wints_at OS j hjl] at o1 o2
              generalize OS[j] = oj at o1 o2
              have hji : (j : Int) < (OS.length : Int) := by omega
              have hji0 : (0 : Int) ≤ (j : Int) := by omega
              go_wp2_with fail
              go_quiet (fail)
              go_wp2_with fail
              go_roundw
              case rel => exact ⟨j + 1, by omega, by go_num, hFq.drewN _⟩
              case measure => simp [intOf]; omega
            · obtain rfl : j = OS.length := by omega
              have hB13 := hB12.frm0 hFq
              clear HB HT1 HT2 hT1 hT2 hB12
              go_wp2_with fail
              go_roundw
              case rel => exact ⟨k + 1, ls9, _, _, _, _, by omega, by go_num, hB13, by omega⟩
              case measure => simp [intOf]; omega
        | false => as_aux_lemma =>
          have hB5 := (hB.frm0 ((Frm.refl _ wr).alloc (.cells #[.bool false, .bool false, .int .i64 x0, .int .i64 x1, .int .i64 x2, .string x3, .string x4, .string x5, .string x6, .int .i64 z0, .int .i64 z1, .int .i64 z2, .string z3, .int .i64 z4, .int .i64 z5] 88))).frm0 ((Frm.refl _ _).alloc (.cells #[.int .i64 z0, .int .i64 z1, .int .i64 z2, .string z3, .int .i64 z4, .int .i64 z5] 86))
          have hbA := new_second wr (.cells #[.bool false, .bool false, .int .i64 x0, .int .i64 x1, .int .i64 x2, .string x3, .string x4, .string x5, .string x6, .int .i64 z0, .int .i64 z1, .int .i64 z2, .string z3, .int .i64 z4, .int .i64 z5] 88) (.cells #[.int .i64 z0, .int .i64 z1, .int .i64 z2, .string z3, .int .i64 z4, .int .i64 z5] 86)
          have hnC : ∀ q, wr.heap.size ≤ q → v.ownBlock ≠ some q := fun q hq e => by have := (hB.c.own _ e).2; omega
          have hnR : ∀ q, wr.heap.size ≤ q → ¬ Rf.fp rb u1 u2 u3 q := fun q hq h => by have := hB.r.under q h; omega
          have HH := Lib.hid (fun w' (h : Cl w' cb id v ls) => hear_any (⟨z0, z1, z2, z3, z4, z5⟩ : An) h (by omega))
          have HR := Lib.hid (fun w' (h : Rf.At w' rb id u1 u2 u3 (vw ls)) => Rf.hear_any (⟨z0, z1, z2, z3, z4, z5⟩ : An) h (by rw [vw_len]; omega))
          unfold anV at HH HR
          simp only at HH HR
          generalize hq : vHear id (vw ls) (⟨z0, z1, z2, z3, z4, z5⟩ : An) = q at *
          go_wp2_with fail
          generalize (wr.alloc (.cells #[.bool false, .bool false, .int .i64 x0, .int .i64 x1, .int .i64 x2, .string x3, .string x4, .string x5, .string x6, .int .i64 z0, .int .i64 z1, .int .i64 z2, .string z3, .int .i64 z4, .int .i64 z5] 88)).alloc (.cells #[.int .i64 z0, .int .i64 z1, .int .i64 z2, .string z3, .int .i64 z4, .int .i64 z5] 86) = w5 at *
          refine wp_region_held_drew (S := (fun w' => w'.heap[(wr.heap.size + 1)]? = some (.cells #[.int .i64 z0, .int .i64 z1, .int .i64 z2, .string z3, .int .i64 z4, .int .i64 z5] 86 (0, 0)))) (by kernel_rfl) (Bk.drew hbA) (fun hHeld => ?_)
          skip
          refine wpAnyH_take (i := 0) (v := ?_) rfl (by kernel_rfl) (by kernel_rfl) (by kernel_rfl) (fun _ _ _ h => h) (Or.inl ⟨by rfl, ?_⟩) (by assumption) ?_
          rotate_left 1
          focus (intro w hSw; (try dsimp only at hSw); go_simp; (try with_reducible rfl))
          (try simp only [Act.put, List.getElem_toArray, List.getElem_cons_succ, List.getElem_cons_zero, List.setIfInBounds_toArray, List.set_cons_zero, List.set_cons_succ])
          refine wpAnyH_take (i := 1) (v := ?_) rfl (by kernel_rfl) (by kernel_rfl) (by kernel_rfl) (fun _ _ _ h => h) (Or.inl ⟨by rfl, ?_⟩) (by assumption) ?_
          rotate_left 1
          focus (intro w hSw; (try dsimp only at hSw); obtain ⟨e0, e1, e2, e3, e4, e5⟩ := Bk.c6 hSw; go_simp; (try with_reducible rfl))
          (try simp only [Act.put, List.getElem_toArray, List.getElem_cons_succ, List.getElem_cons_zero, List.setIfInBounds_toArray, List.set_cons_zero, List.set_cons_succ])
          refine wpAnyH_take (i := 3) (v := ?_) rfl (by kernel_rfl) (by kernel_rfl) (by kernel_rfl) (fun _ _ _ h => h) (Or.inl ⟨by rfl, ?_⟩) (by assumption) ?_
          rotate_left 1
          focus (intro w hSw; (try dsimp only at hSw); go_simp; (try with_reducible rfl))
          (try simp only [Act.put, List.getElem_toArray, List.getElem_cons_succ, List.getElem_cons_zero, List.setIfInBounds_toArray, List.set_cons_zero, List.set_cons_succ])
          refine wpAnyH_take (i := 4) (v := ?_) rfl (by kernel_rfl) (by kernel_rfl) (by kernel_rfl) (fun _ _ _ h => h) (Or.inl ⟨by rfl, ?_⟩) (by assumption) ?_
          rotate_left 1
          focus (intro w hSw; (try dsimp only at hSw); obtain ⟨e0, e1, e2, e3, e4, e5⟩ := Bk.c6 hSw; go_simp; (try with_reducible rfl))
          (try simp only [Act.put, List.getElem_toArray, List.getElem_cons_succ, List.getElem_cons_zero, List.setIfInBounds_toArray, List.set_cons_zero, List.set_cons_succ])
          refine wpAnyH_ready (rs := [2]) (by kernel_rfl) (by simp) ?_
          refine AllReadyH.cons rfl (fun K hK => ?_) AllReadyH.nil
          go_simp
          refine (HH.out _ (hB5.c.frm0 (Frm.refl _ w5).drew)).mono ?_
          rintro e w8 ⟨ls9, rfl, hC8, hv8, hl8, ho8, hf8⟩
          have hr8 := (hB5.r.frm0 (Frm.refl _ w5).drew).frm hf8 (fun q hq e => hB5.s q (.inr (.inl e)) hq)
          (try go_wp2_with fail)
          refine hK.out _ _ ?_ (fun hHeld => ?_)
          focus (exact hf8.blk (by assumption) (hnC _ (by omega)))
          clear hK K
          (try simp only [Act.put, List.getElem_toArray, List.getElem_cons_succ, List.getElem_cons_zero, List.setIfInBounds_toArray, List.set_cons_zero, List.set_cons_succ])
          refine wpAnyH_ready (rs := [5]) (by kernel_rfl) (by simp) ?_
          refine AllReadyH.cons rfl (fun K hK => ?_) AllReadyH.nil
          go_simp
          refine (HR.out _ hr8).mono ?_
          rintro e w9 ⟨rfl, hR9, hf9⟩
          (try go_wp2_with fail)
          refine hK.out _ _ ?_ (fun hHeld => ?_)
          focus (exact hf9.blk (by assumption) (hnR _ (by omega)))
          clear hK K
          (try simp only [Act.put, List.getElem_toArray, List.getElem_cons_succ, List.getElem_cons_zero, List.setIfInBounds_toArray, List.set_cons_zero, List.set_cons_succ])
          refine wpAnyH_take (i := 6) (v := ?_) rfl (by kernel_rfl) (by kernel_rfl) (by kernel_rfl) (fun _ _ _ h => h) (Or.inl ⟨by rfl, ?_⟩) (by assumption) ?_
          rotate_left 1
          focus (intro w hSw; (try dsimp only at hSw); go_simp; (try with_reducible rfl))
          (try simp only [Act.put, List.getElem_toArray, List.getElem_cons_succ, List.getElem_cons_zero, List.setIfInBounds_toArray, List.set_cons_zero, List.set_cons_succ])
          refine wpAnyH_done (by kernel_rfl) ?_ _
          have hG8 : Grew w5.drew (cfp cb v ls) (cfp cb v ls9) := own_cfp (fun q hq => .inl hq) ho8
          have hs9 := hG8.sep hB5.s ((hB5.r.frm0 (Frm.refl _ w5).drew).under)
          have hC9 := hC8.frm hf9 (fun q hq e => hs9 q hq e)
          have hF9 := ((hB5.f.drew).out hf8 (fun q e => by have := (hB5.c.own _ e).1; omega)).out hf9 (fun q e => by have := hB5.r.over q e; omega)
          rw [← hv8] at hR9
          have hB9 : Both w0 w9 cb rb id ls9 v u1 u2 u3 := ⟨hC9, hR9, hs9, hF9⟩
          have hll : ls9.length ≤ k + 1 := by omega
          clear hC9 hF9 hs9 hG8 hC8 hv8 hl8 ho8 hf8 hr8 hR9 hf9 HH HR hB5 hbA hB hnC hnR hq
          have hn := vw_len ls9
          have HO1 := Lib.hid (open_any hB9.c (by omega))
          go_wp2_with fail
          refine HO1.out.mono ?_
          rintro e w10 ⟨t1, rfl, ht1, hf10⟩
          have hB10 := hB9.frm0 hf10
          have HO2 := Lib.hid (Rf.open_any hB10.r (by omega))
          go_wp2_with fail
          refine HO2.out.mono ?_
          rintro e w11 ⟨t2, rfl, ht2, hf11⟩
          have hB11 := hB10.frm0 hf11
          have ht1' := owns_frm0 ht1 hf11
          rw [hn] at ht2
          have hol := opensTo_len (vw ls9) ls9.length
          generalize opensTo (vw ls9) ls9.length = OS at *
          obtain ⟨A1, p1, rfl⟩ := Rf.form_of ht1'
          obtain ⟨A2, p2, rfl⟩ := Rf.form_of ht2
          have HB := Lib.hid hB11
          have HT1 := Lib.hid ht1'
          have HT2 := Lib.hid ht2
          obtain ⟨m0, m1, m2, m3⟩ := Bk.c4 hB11.r.blk
          obtain ⟨A3, p3, hform⟩ := Rf.form_of hB11.r.r1
          rw [hn] at hform
          subst hform
          have HLL := Lib.hid (fun w' v' (h : Cl w' cb id v' ls9) => last_any h)
          clear ht1 ht1' ht2 hB9 hB10 hB11 HO1 HO2 hf10 hf11
          go_wp2_with fail
          go_quiet ((go_at_call 43; exact quiet_same (HLL.out _ _ (HB.out.c.frm0 ((Frm.refl (fun _ => False) _).drewN _)))))
          have hB12 := HB.out.frm0 ((Frm.refl (fun _ => False) _).drewN nq)
          have hT1 := owns_frm0 HT1.out ((Frm.refl (fun _ => False) _).drewN nq)
          have hT2 := owns_frm0 HT2.out ((Frm.refl (fun _ => False) _).drewN nq)
          clear m0 m1 m2 m3 HLL
          go_wp2_with fail
          generalize w11.drewN nq = w12 at *
          go_loopw [95] (fun i wq => ∃ (j : Nat), j ≤ OS.length ∧ i = .int .i64 j ∧ Frm0 w12 wq) (fun i _ => OS.length - (intOf i).toNat)
          case atStart => exact ⟨0, by omega, rfl, Frm.refl _ _⟩
          case round =>
            obtain ⟨j, hj, rfl, hFq⟩ := hrel
            by_cases hjl : j < OS.length
            · obtain ⟨g1, q1, he1⟩ := Rf.pos_of hT1 (by omega)
              obtain ⟨g2, q2, he2⟩ := Rf.pos_of hT2 (by omega)
              cases he1
              cases he2
              have o1 := (owns_frm0 hT1 hFq).cellAt j (by omega)
              have o2 := (owns_frm0 hT2 hFq).cellAt j (by omega)
              rw [wints_at OS j hjl] at o1 o2
              generalize OS[j] = oj at o1 o2
              have hji : (j : Int) < (OS.length : Int) := by omega
              have hji0 : (0 : Int) ≤ (j : Int) := by omega
              go_wp2_with fail
              go_quiet (fail)
              go_wp2_with fail
              go_roundw
              case rel => exact ⟨j + 1, by omega, by go_num, hFq.drewN _⟩
              case measure => simp [intOf]; omega
            · obtain rfl : j = OS.length := by omega
              have hB13 := hB12.frm0 hFq
              clear HB HT1 HT2 hT1 hT2 hB12
              go_wp2_with fail
              go_roundw
              case rel => exact ⟨k + 1, ls9, _, _, _, _, by omega, by go_num, hB13, by omega⟩
              case measure => simp [intOf]; omega
    · obtain rfl : k = l.length := by omega
      have hbN' := hB.f.blk hbN (fun h => h)
      have hn := vw_len ls
      have HAK := Lib.hid (fun w' (h : Cl w' cb id v ls) => asked_any h (by omega) n0)
      have HTD := Lib.hid (fun w' (h : Cl w' cb id v ls) => told_any h (by omega) n0)
      have HAG := Lib.hid (fun w' (h : Cl w' cb id v ls) => again_any h (by omega) n0 n1 n2)
      have HRG := Lib.hid (fun w' (h : Rf.At w' rb id u1 u2 u3 (vw ls)) => Rf.again_any h (by rw [hn]; omega) n0 n1 n2)
      have hcase : (vAsked (vw ls) n0 = none ∧ vTold (vw ls) n0 = none ∧ vAgain (vw ls) n0 n1 n2 = none ∧ (decide (n0 < 1) = true ∨ (decide (n0 < 1) = false ∧ decide ((ls.length : Int) < n0) = true))) ∨ ∃ j : Nat, n0 = (j : Int) + 1 ∧ ∃ hj : j < (vw ls).length, vAsked (vw ls) n0 = some ((vw ls)[j]).1 ∧ vTold (vw ls) n0 = ((vw ls)[j]).2 := by
        by_cases hs : 1 ≤ n0 ∧ n0 ≤ (vw ls).length
        · obtain ⟨j, rfl, hj⟩ := ser_nat hs
          exact .inr ⟨j, rfl, hj, by unfold vAsked; rw [vAt_nat hj]; rfl, Rf.told_is _ _ hj⟩
        · have h1 : vAsked (vw ls) n0 = none := by unfold vAsked; rw [vAt_no hs]; rfl
          have h2 : vTold (vw ls) n0 = none := by unfold vTold; rw [vAt_no hs]; rfl
          refine .inl ⟨h1, h2, by unfold vAgain; rw [h2], ?_⟩
          rw [hn] at hs
          by_cases h : n0 < 1
          · exact .inl (decide_eq_true h)
          · exact .inr ⟨decide_eq_false h, decide_eq_true (by omega)⟩
      rcases hcase with ⟨h1, h2, h3, hdd⟩ | ⟨j, rfl, hj, h1, h2⟩
      · as_aux_lemma =>
          rw [h1] at HAK
          rw [h2] at HTD
          rw [h3] at HAG HRG
          simp only [Option.getD_none, Option.isSome_none] at HAK HTD HAG HRG
          unfold rqV rq0 at HAK HAG HRG
          unfold anV an0 at HTD
          simp only at HAK HTD HAG HRG
          clear h1 h2 h3
          have hN0 := hbN'
          obtain ⟨i0, i1, i2⟩ := Bk.c3 hN0
          go_wp2_with fail
          refine (HAK.out _ hB.c).mono ?_
          rintro e v1 ⟨rfl, g1⟩
          have hB1 := hB.frm0 (g1.alloc (.cells #[.int .i64 0, .int .i64 0, .int .i64 0, .string ⟨#[]⟩, .string ⟨#[]⟩, .string ⟨#[]⟩, .string ⟨#[]⟩] 84))
          have hb1 := Bk.new v1 (.cells #[.int .i64 0, .int .i64 0, .int .i64 0, .string ⟨#[]⟩, .string ⟨#[]⟩, .string ⟨#[]⟩, .string ⟨#[]⟩] 84)
          have hN1 := Bk.alloc (g1.blk hN0 (fun h => h)) (.cells #[.int .i64 0, .int .i64 0, .int .i64 0, .string ⟨#[]⟩, .string ⟨#[]⟩, .string ⟨#[]⟩, .string ⟨#[]⟩] 84)
          go_wp2_with fail
          refine (HTD.out _ hB1.c).mono ?_
          rintro e v2 ⟨rfl, g2⟩
          have hB2 := hB1.frm0 (g2.alloc (.cells #[.int .i64 0, .int .i64 0, .int .i64 0, .string ⟨#[]⟩, .int .i64 0, .int .i64 0] 86))
          have hb2 := Bk.alloc (g2.blk hb1 (fun h => h)) (.cells #[.int .i64 0, .int .i64 0, .int .i64 0, .string ⟨#[]⟩, .int .i64 0, .int .i64 0] 86)
          have hb2a := Bk.new v2 (.cells #[.int .i64 0, .int .i64 0, .int .i64 0, .string ⟨#[]⟩, .int .i64 0, .int .i64 0] 86)
          have hN2 := Bk.alloc (g2.blk hN1 (fun h => h)) (.cells #[.int .i64 0, .int .i64 0, .int .i64 0, .string ⟨#[]⟩, .int .i64 0, .int .i64 0] 86)
          clear i0 i1 i2
          obtain ⟨i0, i1, i2⟩ := Bk.c3 hN2
          go_wp2_with fail
          refine (HAG.out _ hB2.c).mono ?_
          rintro e v3 ⟨rfl, g3⟩
          have hB3 := hB2.frm0 (g3.alloc (.cells #[.int .i64 0, .int .i64 0, .int .i64 0, .string ⟨#[]⟩, .string ⟨#[]⟩, .string ⟨#[]⟩, .string ⟨#[]⟩] 84))
          have hb3 := Bk.alloc (g3.blk hb2 (fun h => h)) (.cells #[.int .i64 0, .int .i64 0, .int .i64 0, .string ⟨#[]⟩, .string ⟨#[]⟩, .string ⟨#[]⟩, .string ⟨#[]⟩] 84)
          have hb3a := Bk.alloc (g3.blk hb2a (fun h => h)) (.cells #[.int .i64 0, .int .i64 0, .int .i64 0, .string ⟨#[]⟩, .string ⟨#[]⟩, .string ⟨#[]⟩, .string ⟨#[]⟩] 84)
          have hb3x := Bk.new v3 (.cells #[.int .i64 0, .int .i64 0, .int .i64 0, .string ⟨#[]⟩, .string ⟨#[]⟩, .string ⟨#[]⟩, .string ⟨#[]⟩] 84)
          have hN3 := Bk.alloc (g3.blk hN2 (fun h => h)) (.cells #[.int .i64 0, .int .i64 0, .int .i64 0, .string ⟨#[]⟩, .string ⟨#[]⟩, .string ⟨#[]⟩, .string ⟨#[]⟩] 84)
          clear i0 i1 i2
          obtain ⟨i0, i1, i2⟩ := Bk.c3 hN3
          go_wp2_with fail
          refine (HRG.out _ hB3.r).mono ?_
          rintro e v4 ⟨rfl, g4⟩
          have hB4 := hB3.frm0 (g4.alloc (.cells #[.int .i64 0, .int .i64 0, .int .i64 0, .string ⟨#[]⟩, .string ⟨#[]⟩, .string ⟨#[]⟩, .string ⟨#[]⟩] 84))
          have hb4 := Bk.alloc (g4.blk hb3 (fun h => h)) (.cells #[.int .i64 0, .int .i64 0, .int .i64 0, .string ⟨#[]⟩, .string ⟨#[]⟩, .string ⟨#[]⟩, .string ⟨#[]⟩] 84)
          have hb4a := Bk.alloc (g4.blk hb3a (fun h => h)) (.cells #[.int .i64 0, .int .i64 0, .int .i64 0, .string ⟨#[]⟩, .string ⟨#[]⟩, .string ⟨#[]⟩, .string ⟨#[]⟩] 84)
          have hb4x := Bk.alloc (g4.blk hb3x (fun h => h)) (.cells #[.int .i64 0, .int .i64 0, .int .i64 0, .string ⟨#[]⟩, .string ⟨#[]⟩, .string ⟨#[]⟩, .string ⟨#[]⟩] 84)
          have hb4y := Bk.new v4 (.cells #[.int .i64 0, .int .i64 0, .int .i64 0, .string ⟨#[]⟩, .string ⟨#[]⟩, .string ⟨#[]⟩, .string ⟨#[]⟩] 84)
          clear hB1 hB2 hB3 hb1 hb2 hb2a hb3 hb3a hb3x hN0 hN1 hN2 hN3 i0 i1 i2 g1 g2 g3 g4
          
          obtain ⟨m0, m1, m2, m3⟩ := Bk.c4 hB4.r.blk
          obtain ⟨A3, p3, hform⟩ := Rf.form_of hB4.r.r1
          rw [hn] at hform
          subst hform
          obtain ⟨e0, e1, e2, e3, e4, e5, e6⟩ := Bk.c7 hb4
          obtain ⟨f0, f1, f2, f3, f4, f5⟩ := Bk.c6 hb4a
          obtain ⟨l0, l1, l2, l3, l4, l5, l6⟩ := Bk.c7 hb4x
          rcases hdd with d1 | ⟨d1, d2⟩
          all_goals
            go_wp2
            go_ret
            exact ⟨rfl, (hF0.trans hB4.f).below (fun _ _ h => h)⟩
      · as_aux_lemma =>
          have hB0r := hB.r
          obtain ⟨⟨y0, y1, y2, y3, y4, y5, y6⟩, hy⟩ : ∃ r, ((vw ls)[j]).1 = r := ⟨_, rfl⟩
          obtain ⟨⟨z0, z1, z2, z3, z4, z5⟩, hz⟩ : ∃ r, ((vw ls)[j]).2.getD an0 = r := ⟨_, rfl⟩
          obtain ⟨tb, ht⟩ : ∃ r, ((vw ls)[j]).2.isSome = r := ⟨_, rfl⟩
          obtain ⟨⟨x0, x1, x2, x3, x4, x5, x6⟩, hx⟩ : ∃ r, (vAgain (vw ls) ((j : Int) + 1) n1 n2).getD rq0 = r := ⟨_, rfl⟩
          obtain ⟨ab, hab⟩ : ∃ r, (vAgain (vw ls) ((j : Int) + 1) n1 n2).isSome = r := ⟨_, rfl⟩
          rw [h1] at HAK
          rw [h2, hz, ht] at HTD
          rw [hx, hab] at HAG HRG
          simp only [Option.getD_some, Option.isSome_some] at HAK
          rw [hy] at HAK
          unfold rqV at HAK HAG HRG
          unfold anV at HTD
          simp only at HAK HTD HAG HRG
          have HFC := Lib.hid (fun w => final_any ⟨z0, z1, z2, z3, z4, z5⟩ w)
          have HFR := Lib.hid (fun w => Rf.final_any ⟨z0, z1, z2, z3, z4, z5⟩ w)
          unfold anV at HFC HFR
          simp only at HFC HFR
          generalize fin ⟨z0, z1, z2, z3, z4, z5⟩ = qf at *
          have E1 := Lib.hid (fun w => eq_rq ⟨y0, y1, y2, y3, y4, y5, y6⟩ w)
          have E2 := Lib.hid (fun w => eq_rq ⟨x0, x1, x2, x3, x4, x5, x6⟩ w)
          have E3 := Lib.hid (fun w => eq_an ⟨z0, z1, z2, z3, z4, z5⟩ w)
          unfold rqV at E1 E2
          unfold anV at E3
          simp only at E1 E2 E3
          have hjl : j < ls.length := by rw [← hn]; exact hj
          have HX1 := Lib.hid (fun w' g p (h : Rf.At w' rb id (.slice (some ⟨g, 0, none⟩) ls.length p) u2 u3 (vw ls)) => h.cells1 hn j hj hy)
          have HX2 := Lib.hid (fun w' g p (h : Rf.At w' rb id u1 (.slice (some ⟨g, 0, none⟩) ls.length p) u3 (vw ls)) => h.cells2 hn j hj ht)
          have HX3 := Lib.hid (fun w' g p (h : Rf.At w' rb id u1 u2 (.slice (some ⟨g, 0, none⟩) ls.length p) (vw ls)) => h.cells3 hn j hj hz)
          have d1 : decide ((j : Int) + 1 < 1) = false := decide_eq_false (by omega)
          have d2 : decide ((ls.length : Int) < (j : Int) + 1) = false := decide_eq_false (by omega)
          have w1 : IntKind.i64.wrap (j : Int) = (j : Int) := IntWalk.i64_in _ (by omega)
          have hji : (j : Int) < (ls.length : Int) := by omega
          have hji0 : (0 : Int) ≤ (j : Int) := by omega
          clear h1 h2 hy hz ht hx hab hB0r
          have hN0 := hbN'
          obtain ⟨i0, i1, i2⟩ := Bk.c3 hN0
          go_wp2_with fail
          refine (HAK.out _ hB.c).mono ?_
          rintro e v1 ⟨rfl, g1⟩
          have hB1 := hB.frm0 (g1.alloc (.cells #[.int .i64 y0, .int .i64 y1, .int .i64 y2, .string y3, .string y4, .string y5, .string y6] 84))
          have hb1 := Bk.new v1 (.cells #[.int .i64 y0, .int .i64 y1, .int .i64 y2, .string y3, .string y4, .string y5, .string y6] 84)
          have hN1 := Bk.alloc (g1.blk hN0 (fun h => h)) (.cells #[.int .i64 y0, .int .i64 y1, .int .i64 y2, .string y3, .string y4, .string y5, .string y6] 84)
          go_wp2_with fail
          refine (HTD.out _ hB1.c).mono ?_
          rintro e v2 ⟨rfl, g2⟩
          have hB2 := hB1.frm0 (g2.alloc (.cells #[.int .i64 z0, .int .i64 z1, .int .i64 z2, .string z3, .int .i64 z4, .int .i64 z5] 86))
          have hb2 := Bk.alloc (g2.blk hb1 (fun h => h)) (.cells #[.int .i64 z0, .int .i64 z1, .int .i64 z2, .string z3, .int .i64 z4, .int .i64 z5] 86)
          have hb2a := Bk.new v2 (.cells #[.int .i64 z0, .int .i64 z1, .int .i64 z2, .string z3, .int .i64 z4, .int .i64 z5] 86)
          have hN2 := Bk.alloc (g2.blk hN1 (fun h => h)) (.cells #[.int .i64 z0, .int .i64 z1, .int .i64 z2, .string z3, .int .i64 z4, .int .i64 z5] 86)
          clear i0 i1 i2
          obtain ⟨i0, i1, i2⟩ := Bk.c3 hN2
          go_wp2_with fail
          refine (HAG.out _ hB2.c).mono ?_
          rintro e v3 ⟨rfl, g3⟩
          have hB3 := hB2.frm0 (g3.alloc (.cells #[.int .i64 x0, .int .i64 x1, .int .i64 x2, .string x3, .string x4, .string x5, .string x6] 84))
          have hb3 := Bk.alloc (g3.blk hb2 (fun h => h)) (.cells #[.int .i64 x0, .int .i64 x1, .int .i64 x2, .string x3, .string x4, .string x5, .string x6] 84)
          have hb3a := Bk.alloc (g3.blk hb2a (fun h => h)) (.cells #[.int .i64 x0, .int .i64 x1, .int .i64 x2, .string x3, .string x4, .string x5, .string x6] 84)
          have hb3x := Bk.new v3 (.cells #[.int .i64 x0, .int .i64 x1, .int .i64 x2, .string x3, .string x4, .string x5, .string x6] 84)
          have hN3 := Bk.alloc (g3.blk hN2 (fun h => h)) (.cells #[.int .i64 x0, .int .i64 x1, .int .i64 x2, .string x3, .string x4, .string x5, .string x6] 84)
          clear i0 i1 i2
          obtain ⟨i0, i1, i2⟩ := Bk.c3 hN3
          go_wp2_with fail
          refine (HRG.out _ hB3.r).mono ?_
          rintro e v4 ⟨rfl, g4⟩
          have hB4 := hB3.frm0 (g4.alloc (.cells #[.int .i64 x0, .int .i64 x1, .int .i64 x2, .string x3, .string x4, .string x5, .string x6] 84))
          have hb4 := Bk.alloc (g4.blk hb3 (fun h => h)) (.cells #[.int .i64 x0, .int .i64 x1, .int .i64 x2, .string x3, .string x4, .string x5, .string x6] 84)
          have hb4a := Bk.alloc (g4.blk hb3a (fun h => h)) (.cells #[.int .i64 x0, .int .i64 x1, .int .i64 x2, .string x3, .string x4, .string x5, .string x6] 84)
          have hb4x := Bk.alloc (g4.blk hb3x (fun h => h)) (.cells #[.int .i64 x0, .int .i64 x1, .int .i64 x2, .string x3, .string x4, .string x5, .string x6] 84)
          have hb4y := Bk.new v4 (.cells #[.int .i64 x0, .int .i64 x1, .int .i64 x2, .string x3, .string x4, .string x5, .string x6] 84)
          clear hB1 hB2 hB3 hb1 hb2 hb2a hb3 hb3a hb3x hN0 hN1 hN2 hN3 i0 i1 i2 g1 g2 g3 g4
          
          obtain ⟨g1, p1, hf1⟩ := Rf.pos_of hB4.r.r1 (by rw [hn]; omega)
          obtain ⟨g2, p2, hf2⟩ := Rf.pos_of hB4.r.r2 (by rw [hn]; omega)
          obtain ⟨g3, p3', hf3⟩ := Rf.pos_of hB4.r.r3 (by rw [hn]; omega)
          rw [hn] at hf1 hf2 hf3
          subst hf1 hf2 hf3
          obtain ⟨m0, m1, m2, m3⟩ := Bk.c4 hB4.r.blk
          have hR4 := hB4.r
          have hE1 := E1.out
          have hE2 := E2.out
          have hE3 := E3.out
          clear E1 E2 E3
          go_wp2_with fail
          generalize hW : v4.alloc _ = w5 at *
          refine wp_region_held_drew (S := (fun w' => w'.heap[v1.heap.size]? = some (.cells #[.int .i64 y0, .int .i64 y1, .int .i64 y2, .string y3, .string y4, .string y5, .string y6] 84 (0, 0)) ∧ w'.heap[v2.heap.size]? = some (.cells #[.int .i64 z0, .int .i64 z1, .int .i64 z2, .string z3, .int .i64 z4, .int .i64 z5] 86 (0, 0)) ∧ w'.heap[v3.heap.size]? = some (.cells #[.int .i64 x0, .int .i64 x1, .int .i64 x2, .string x3, .string x4, .string x5, .string x6] 84 (0, 0)) ∧ w'.heap[v4.heap.size]? = some (.cells #[.int .i64 x0, .int .i64 x1, .int .i64 x2, .string x3, .string x4, .string x5, .string x6] 84 (0, 0)) ∧ Rf.At w' rb id (.slice (some ⟨g1, 0, none⟩) ls.length p1) (.slice (some ⟨g2, 0, none⟩) ls.length p2) (.slice (some ⟨g3, 0, none⟩) ls.length p3') (vw ls) ∧ Frm0 w5 w')) (by kernel_rfl) (⟨Bk.drew hb4, Bk.drew hb4a, Bk.drew hb4x, Bk.drew hb4y, hR4.frm0 (Frm.refl _ w5).drew, (Frm.refl _ w5).drew⟩) (fun hHeld => ?_)
          skip
          refine wpAnyH_take (i := 0) (v := ?_) rfl (by kernel_rfl) (by kernel_rfl) (by kernel_rfl) (fun _ _ _ h => h) (Or.inl ⟨by rfl, ?_⟩) (by assumption) ?_
          rotate_left 1
          focus (intro w hSw; (try dsimp only at hSw); go_simp; (try with_reducible rfl))
          (try simp only [Act.put, List.getElem_toArray, List.getElem_cons_succ, List.getElem_cons_zero, List.setIfInBounds_toArray, List.set_cons_zero, List.set_cons_succ])
          refine wpAnyH_take (i := 1) (v := ?_) rfl (by kernel_rfl) (by kernel_rfl) (by kernel_rfl) (fun _ _ _ h => h) (Or.inl ⟨by rfl, ?_⟩) (by assumption) ?_
          rotate_left 1
          focus (intro w hSw; (try dsimp only at hSw); go_simp; (try with_reducible rfl))
          (try simp only [Act.put, List.getElem_toArray, List.getElem_cons_succ, List.getElem_cons_zero, List.setIfInBounds_toArray, List.set_cons_zero, List.set_cons_succ])
          refine wpAnyH_take (i := 2) (v := ?_) rfl (by kernel_rfl) (by kernel_rfl) (by kernel_rfl) (fun _ _ _ h => h) (Or.inl ⟨by rfl, ?_⟩) (by assumption) ?_
          rotate_left 1
          focus (intro w hSw; (try dsimp only at hSw); obtain ⟨e0, e1, e2, e3, e4, e5, e6⟩ := Bk.c7 hSw.1; go_simp; (try with_reducible rfl))
          (try simp only [Act.put, List.getElem_toArray, List.getElem_cons_succ, List.getElem_cons_zero, List.setIfInBounds_toArray, List.set_cons_zero, List.set_cons_succ])
          refine wpAnyH_take (i := 3) (v := ?_) rfl (by kernel_rfl) (by kernel_rfl) (by kernel_rfl) (fun _ _ _ h => h) (Or.inl ⟨by rfl, ?_⟩) (by assumption) ?_
          rotate_left 1
          focus (intro w hSw; (try dsimp only at hSw); go_simp; (try with_reducible rfl))
          (try simp only [Act.put, List.getElem_toArray, List.getElem_cons_succ, List.getElem_cons_zero, List.setIfInBounds_toArray, List.set_cons_zero, List.set_cons_succ])
          refine wpAnyH_take (i := 4) (v := ?_) rfl (by kernel_rfl) (by kernel_rfl) (by kernel_rfl) (fun _ _ _ h => h) (Or.inl ⟨by rfl, ?_⟩) (by assumption) ?_
          rotate_left 1
          focus (intro w hSw; (try dsimp only at hSw); go_simp; (try with_reducible rfl))
          (try simp only [Act.put, List.getElem_toArray, List.getElem_cons_succ, List.getElem_cons_zero, List.setIfInBounds_toArray, List.set_cons_zero, List.set_cons_succ])
          refine wpAnyH_take (i := 5) (v := ?_) rfl (by kernel_rfl) (by kernel_rfl) (by kernel_rfl) (fun _ _ _ h => h) (Or.inl ⟨by rfl, ?_⟩) (by assumption) ?_
          rotate_left 1
          focus (intro w hSw; (try dsimp only at hSw); go_simp; (try with_reducible rfl))
          (try simp only [Act.put, List.getElem_toArray, List.getElem_cons_succ, List.getElem_cons_zero, List.setIfInBounds_toArray, List.set_cons_zero, List.set_cons_succ])
          refine wpAnyH_take (i := 6) (v := ?_) rfl (by kernel_rfl) (by kernel_rfl) (by kernel_rfl) (fun _ _ _ h => h) (Or.inl ⟨by rfl, ?_⟩) (by assumption) ?_
          rotate_left 1
          focus (intro w hSw; (try dsimp only at hSw); obtain ⟨k0, k1, k2, k3⟩ := Bk.c4 hSw.2.2.2.2.1.blk; go_simp; (try with_reducible rfl))
          (try simp only [Act.put, List.getElem_toArray, List.getElem_cons_succ, List.getElem_cons_zero, List.setIfInBounds_toArray, List.set_cons_zero, List.set_cons_succ])
          refine wpAnyH_take (i := 7) (v := ?_) rfl (by kernel_rfl) (by kernel_rfl) (by kernel_rfl) (fun _ _ _ h => h) (Or.inl ⟨by rfl, ?_⟩) (by assumption) ?_
          rotate_left 1
          focus (intro w hSw; (try dsimp only at hSw); go_simp; (try with_reducible rfl))
          (try simp only [Act.put, List.getElem_toArray, List.getElem_cons_succ, List.getElem_cons_zero, List.setIfInBounds_toArray, List.set_cons_zero, List.set_cons_succ])
          refine wpAnyH_take (i := 8) (v := ?_) rfl (by kernel_rfl) (by kernel_rfl) (by kernel_rfl) (fun _ _ _ h => h) (Or.inl ⟨by rfl, ?_⟩) (by assumption) ?_
          rotate_left 1
          focus (intro w hSw; (try dsimp only at hSw); go_simp; (try with_reducible rfl))
          (try simp only [Act.put, List.getElem_toArray, List.getElem_cons_succ, List.getElem_cons_zero, List.setIfInBounds_toArray, List.set_cons_zero, List.set_cons_succ])
          refine wpAnyH_take (i := 9) (v := ?_) rfl (by kernel_rfl) (by kernel_rfl) (by kernel_rfl) (fun _ _ _ h => h) (Or.inl ⟨by rfl, ?_⟩) (by assumption) ?_
          rotate_left 1
          focus (intro w hSw; (try dsimp only at hSw); go_simp; (try with_reducible rfl))
          (try simp only [Act.put, List.getElem_toArray, List.getElem_cons_succ, List.getElem_cons_zero, List.setIfInBounds_toArray, List.set_cons_zero, List.set_cons_succ])
          refine wpAnyH_take (i := 10) (v := ?_) rfl (by kernel_rfl) (by kernel_rfl) (by kernel_rfl) (fun _ _ _ h => h) (Or.inl ⟨by rfl, ?_⟩) (by assumption) ?_
          rotate_left 1
          focus (intro w hSw; (try dsimp only at hSw); obtain ⟨e0, e1, e2, e3, e4, e5, e6⟩ := HX1.out _ _ _ hSw.2.2.2.2.1; go_simp; (try with_reducible rfl))
          (try simp only [Act.put, List.getElem_toArray, List.getElem_cons_succ, List.getElem_cons_zero, List.setIfInBounds_toArray, List.set_cons_zero, List.set_cons_succ])
          refine wpAnyH_take (i := 11) (v := ?_) rfl (by kernel_rfl) (by kernel_rfl) (by kernel_rfl) (fun _ _ _ h => h) (Or.inl ⟨by rfl, ?_⟩) (by assumption) ?_
          rotate_left 1
          focus (intro w hSw; (try dsimp only at hSw); go_simp; (try with_reducible rfl))
          (try simp only [Act.put, List.getElem_toArray, List.getElem_cons_succ, List.getElem_cons_zero, List.setIfInBounds_toArray, List.set_cons_zero, List.set_cons_succ])
          refine wpAnyH_take (i := 12) (v := ?_) rfl (by kernel_rfl) (by kernel_rfl) (by kernel_rfl) (fun _ _ _ h => h) (Or.inl ⟨by rfl, ?_⟩) (by assumption) ?_
          rotate_left 1
          focus (intro w hSw; (try dsimp only at hSw); go_simp; (try with_reducible rfl))
          (try simp only [Act.put, List.getElem_toArray, List.getElem_cons_succ, List.getElem_cons_zero, List.setIfInBounds_toArray, List.set_cons_zero, List.set_cons_succ])
          refine wpAnyH_take (i := 13) (v := ?_) rfl (by kernel_rfl) (by kernel_rfl) (by kernel_rfl) (fun _ _ _ h => h) (Or.inl ⟨by rfl, ?_⟩) (by assumption) ?_
          rotate_left 1
          focus (intro w hSw; (try dsimp only at hSw); go_simp; (try with_reducible rfl))
          (try simp only [Act.put, List.getElem_toArray, List.getElem_cons_succ, List.getElem_cons_zero, List.setIfInBounds_toArray, List.set_cons_zero, List.set_cons_succ])
          refine wpAnyH_take (i := 14) (v := ?_) rfl (by kernel_rfl) (by kernel_rfl) (by kernel_rfl) (fun _ _ _ h => h) (Or.inl ⟨by rfl, ?_⟩) (by assumption) ?_
          rotate_left 1
          focus (intro w hSw; (try dsimp only at hSw); go_simp; (try with_reducible rfl))
          (try simp only [Act.put, List.getElem_toArray, List.getElem_cons_succ, List.getElem_cons_zero, List.setIfInBounds_toArray, List.set_cons_zero, List.set_cons_succ])
          refine wpAnyH_take (i := 15) (v := ?_) rfl (by kernel_rfl) (by kernel_rfl) (by kernel_rfl) (fun _ _ _ h => h) (Or.inl ⟨by rfl, ?_⟩) (by assumption) ?_
          rotate_left 1
          focus (intro w hSw; (try dsimp only at hSw); go_simp; (try with_reducible rfl))
          (try simp only [Act.put, List.getElem_toArray, List.getElem_cons_succ, List.getElem_cons_zero, List.setIfInBounds_toArray, List.set_cons_zero, List.set_cons_succ])
          refine wpAnyH_take (i := 16) (v := ?_) rfl (by kernel_rfl) (by kernel_rfl) (by kernel_rfl) (fun _ _ _ h => h) (Or.inl ⟨by rfl, ?_⟩) (by assumption) ?_
          rotate_left 1
          focus (intro w hSw; (try dsimp only at hSw); go_simp; (try with_reducible rfl))
          (try simp only [Act.put, List.getElem_toArray, List.getElem_cons_succ, List.getElem_cons_zero, List.setIfInBounds_toArray, List.set_cons_zero, List.set_cons_succ])
          refine wpAnyH_take (i := 17) (v := ?_) rfl (by kernel_rfl) (by kernel_rfl) (by kernel_rfl) (fun _ _ _ h => h) (Or.inl ⟨by rfl, ?_⟩) (by assumption) ?_
          rotate_left 1
          focus (intro w hSw; (try dsimp only at hSw); go_simp; (try with_reducible rfl))
          (try simp only [Act.put, List.getElem_toArray, List.getElem_cons_succ, List.getElem_cons_zero, List.setIfInBounds_toArray, List.set_cons_zero, List.set_cons_succ])
          refine wpAnyH_take (i := 18) (v := ?_) rfl (by kernel_rfl) (by kernel_rfl) (by kernel_rfl) (fun _ _ _ h => h) (Or.inl ⟨by rfl, ?_⟩) (by assumption) ?_
          rotate_left 1
          focus (intro w hSw; (try dsimp only at hSw); obtain ⟨k0, k1, k2, k3⟩ := Bk.c4 hSw.2.2.2.2.1.blk; go_simp; (try with_reducible rfl))
          (try simp only [Act.put, List.getElem_toArray, List.getElem_cons_succ, List.getElem_cons_zero, List.setIfInBounds_toArray, List.set_cons_zero, List.set_cons_succ])
          refine wpAnyH_take (i := 19) (v := ?_) rfl (by kernel_rfl) (by kernel_rfl) (by kernel_rfl) (fun _ _ _ h => h) (Or.inl ⟨by rfl, ?_⟩) (by assumption) ?_
          rotate_left 1
          focus (intro w hSw; (try dsimp only at hSw); go_simp; (try with_reducible rfl))
          (try simp only [Act.put, List.getElem_toArray, List.getElem_cons_succ, List.getElem_cons_zero, List.setIfInBounds_toArray, List.set_cons_zero, List.set_cons_succ])
          refine wpAnyH_take (i := 20) (v := ?_) rfl (by kernel_rfl) (by kernel_rfl) (by kernel_rfl) (fun _ _ _ h => h) (Or.inl ⟨by rfl, ?_⟩) (by assumption) ?_
          rotate_left 1
          focus (intro w hSw; (try dsimp only at hSw); go_simp; (try with_reducible rfl))
          (try simp only [Act.put, List.getElem_toArray, List.getElem_cons_succ, List.getElem_cons_zero, List.setIfInBounds_toArray, List.set_cons_zero, List.set_cons_succ])
          refine wpAnyH_take (i := 21) (v := ?_) rfl (by kernel_rfl) (by kernel_rfl) (by kernel_rfl) (fun _ _ _ h => h) (Or.inl ⟨by rfl, ?_⟩) (by assumption) ?_
          rotate_left 1
          focus (intro w hSw; (try dsimp only at hSw); go_simp; (try with_reducible rfl))
          (try simp only [Act.put, List.getElem_toArray, List.getElem_cons_succ, List.getElem_cons_zero, List.setIfInBounds_toArray, List.set_cons_zero, List.set_cons_succ])
          refine wpAnyH_take (i := 22) (v := ?_) rfl (by kernel_rfl) (by kernel_rfl) (by kernel_rfl) (fun _ _ _ h => h) (Or.inl ⟨by rfl, ?_⟩) (by assumption) ?_
          rotate_left 1
          focus (intro w hSw; (try dsimp only at hSw); have e0 := HX2.out _ _ _ hSw.2.2.2.2.1; go_simp; (try with_reducible rfl))
          (try simp only [Act.put, List.getElem_toArray, List.getElem_cons_succ, List.getElem_cons_zero, List.setIfInBounds_toArray, List.set_cons_zero, List.set_cons_succ])
          refine wpAnyH_take (i := 23) (v := ?_) rfl (by kernel_rfl) (by kernel_rfl) (by kernel_rfl) (fun _ _ _ h => h) (Or.inl ⟨by rfl, ?_⟩) (by assumption) ?_
          rotate_left 1
          focus (intro w hSw; (try dsimp only at hSw); go_simp; (try with_reducible rfl))
          (try simp only [Act.put, List.getElem_toArray, List.getElem_cons_succ, List.getElem_cons_zero, List.setIfInBounds_toArray, List.set_cons_zero, List.set_cons_succ])
          refine wpAnyH_take (i := 24) (v := ?_) rfl (by kernel_rfl) (by kernel_rfl) (by kernel_rfl) (fun _ _ _ h => h) (Or.inl ⟨by rfl, ?_⟩) (by assumption) ?_
          rotate_left 1
          focus (intro w hSw; (try dsimp only at hSw); go_simp; (try with_reducible rfl))
          (try simp only [Act.put, List.getElem_toArray, List.getElem_cons_succ, List.getElem_cons_zero, List.setIfInBounds_toArray, List.set_cons_zero, List.set_cons_succ])
          refine wpAnyH_take (i := 25) (v := ?_) rfl (by kernel_rfl) (by kernel_rfl) (by kernel_rfl) (fun _ _ _ h => h) (Or.inl ⟨by rfl, ?_⟩) (by assumption) ?_
          rotate_left 1
          focus (intro w hSw; (try dsimp only at hSw); go_simp; (try with_reducible rfl))
          (try simp only [Act.put, List.getElem_toArray, List.getElem_cons_succ, List.getElem_cons_zero, List.setIfInBounds_toArray, List.set_cons_zero, List.set_cons_succ])
          refine wpAnyH_take (i := 26) (v := ?_) rfl (by kernel_rfl) (by kernel_rfl) (by kernel_rfl) (fun _ _ _ h => h) (Or.inl ⟨by rfl, ?_⟩) (by assumption) ?_
          rotate_left 1
          focus (intro w hSw; (try dsimp only at hSw); obtain ⟨e0, e1, e2, e3, e4, e5⟩ := Bk.c6 hSw.2.1; go_simp; (try with_reducible rfl))
          (try simp only [Act.put, List.getElem_toArray, List.getElem_cons_succ, List.getElem_cons_zero, List.setIfInBounds_toArray, List.set_cons_zero, List.set_cons_succ])
          refine wpAnyH_take (i := 27) (v := ?_) rfl (by kernel_rfl) (by kernel_rfl) (by kernel_rfl) (fun _ _ _ h => h) (Or.inl ⟨by rfl, ?_⟩) (by assumption) ?_
          rotate_left 1
          focus (intro w hSw; (try dsimp only at hSw); go_simp; (try with_reducible rfl))
          (try simp only [Act.put, List.getElem_toArray, List.getElem_cons_succ, List.getElem_cons_zero, List.setIfInBounds_toArray, List.set_cons_zero, List.set_cons_succ])
          refine wpAnyH_take (i := 28) (v := ?_) rfl (by kernel_rfl) (by kernel_rfl) (by kernel_rfl) (fun _ _ _ h => h) (Or.inl ⟨by rfl, ?_⟩) (by assumption) ?_
          rotate_left 1
          focus (intro w hSw; (try dsimp only at hSw); go_simp; (try with_reducible rfl))
          (try simp only [Act.put, List.getElem_toArray, List.getElem_cons_succ, List.getElem_cons_zero, List.setIfInBounds_toArray, List.set_cons_zero, List.set_cons_succ])
          refine wpAnyH_take (i := 29) (v := ?_) rfl (by kernel_rfl) (by kernel_rfl) (by kernel_rfl) (fun _ _ _ h => h) (Or.inl ⟨by rfl, ?_⟩) (by assumption) ?_
          rotate_left 1
          focus (intro w hSw; (try dsimp only at hSw); go_simp; (try with_reducible rfl))
          (try simp only [Act.put, List.getElem_toArray, List.getElem_cons_succ, List.getElem_cons_zero, List.setIfInBounds_toArray, List.set_cons_zero, List.set_cons_succ])
          refine wpAnyH_take (i := 30) (v := ?_) rfl (by kernel_rfl) (by kernel_rfl) (by kernel_rfl) (fun _ _ _ h => h) (Or.inl ⟨by rfl, ?_⟩) (by assumption) ?_
          rotate_left 1
          focus (intro w hSw; (try dsimp only at hSw); obtain ⟨k0, k1, k2, k3⟩ := Bk.c4 hSw.2.2.2.2.1.blk; go_simp; (try with_reducible rfl))
          (try simp only [Act.put, List.getElem_toArray, List.getElem_cons_succ, List.getElem_cons_zero, List.setIfInBounds_toArray, List.set_cons_zero, List.set_cons_succ])
          refine wpAnyH_take (i := 31) (v := ?_) rfl (by kernel_rfl) (by kernel_rfl) (by kernel_rfl) (fun _ _ _ h => h) (Or.inl ⟨by rfl, ?_⟩) (by assumption) ?_
          rotate_left 1
          focus (intro w hSw; (try dsimp only at hSw); go_simp; (try with_reducible rfl))
          (try simp only [Act.put, List.getElem_toArray, List.getElem_cons_succ, List.getElem_cons_zero, List.setIfInBounds_toArray, List.set_cons_zero, List.set_cons_succ])
          refine wpAnyH_take (i := 32) (v := ?_) rfl (by kernel_rfl) (by kernel_rfl) (by kernel_rfl) (fun _ _ _ h => h) (Or.inl ⟨by rfl, ?_⟩) (by assumption) ?_
          rotate_left 1
          focus (intro w hSw; (try dsimp only at hSw); go_simp; (try with_reducible rfl))
          (try simp only [Act.put, List.getElem_toArray, List.getElem_cons_succ, List.getElem_cons_zero, List.setIfInBounds_toArray, List.set_cons_zero, List.set_cons_succ])
          refine wpAnyH_take (i := 33) (v := ?_) rfl (by kernel_rfl) (by kernel_rfl) (by kernel_rfl) (fun _ _ _ h => h) (Or.inl ⟨by rfl, ?_⟩) (by assumption) ?_
          rotate_left 1
          focus (intro w hSw; (try dsimp only at hSw); go_simp; (try with_reducible rfl))
          (try simp only [Act.put, List.getElem_toArray, List.getElem_cons_succ, List.getElem_cons_zero, List.setIfInBounds_toArray, List.set_cons_zero, List.set_cons_succ])
          refine wpAnyH_take (i := 34) (v := ?_) rfl (by kernel_rfl) (by kernel_rfl) (by kernel_rfl) (fun _ _ _ h => h) (Or.inl ⟨by rfl, ?_⟩) (by assumption) ?_
          rotate_left 1
          focus (intro w hSw; (try dsimp only at hSw); obtain ⟨e0, e1, e2, e3, e4, e5⟩ := HX3.out _ _ _ hSw.2.2.2.2.1; go_simp; (try with_reducible rfl))
          (try simp only [Act.put, List.getElem_toArray, List.getElem_cons_succ, List.getElem_cons_zero, List.setIfInBounds_toArray, List.set_cons_zero, List.set_cons_succ])
          refine wpAnyH_take (i := 35) (v := ?_) rfl (by kernel_rfl) (by kernel_rfl) (by kernel_rfl) (fun _ _ _ h => h) (Or.inl ⟨by rfl, ?_⟩) (by assumption) ?_
          rotate_left 1
          focus (intro w hSw; (try dsimp only at hSw); go_simp; (try with_reducible rfl))
          (try simp only [Act.put, List.getElem_toArray, List.getElem_cons_succ, List.getElem_cons_zero, List.setIfInBounds_toArray, List.set_cons_zero, List.set_cons_succ])
          refine wpAnyH_take (i := 36) (v := ?_) rfl (by kernel_rfl) (by kernel_rfl) (by kernel_rfl) (fun _ _ _ h => h) (Or.inl ⟨by rfl, ?_⟩) (by assumption) ?_
          rotate_left 1
          focus (intro w hSw; (try dsimp only at hSw); go_simp; (try with_reducible rfl))
          (try simp only [Act.put, List.getElem_toArray, List.getElem_cons_succ, List.getElem_cons_zero, List.setIfInBounds_toArray, List.set_cons_zero, List.set_cons_succ])
          refine wpAnyH_take (i := 37) (v := ?_) rfl (by kernel_rfl) (by kernel_rfl) (by kernel_rfl) (fun _ _ _ h => h) (Or.inl ⟨by rfl, ?_⟩) (by assumption) ?_
          rotate_left 1
          focus (intro w hSw; (try dsimp only at hSw); go_simp; (try with_reducible rfl))
          (try simp only [Act.put, List.getElem_toArray, List.getElem_cons_succ, List.getElem_cons_zero, List.setIfInBounds_toArray, List.set_cons_zero, List.set_cons_succ])
          refine wpAnyH_take (i := 38) (v := ?_) rfl (by kernel_rfl) (by kernel_rfl) (by kernel_rfl) (fun _ _ _ h => h) (Or.inl ⟨by rfl, ?_⟩) (by assumption) ?_
          rotate_left 1
          focus (intro w hSw; (try dsimp only at hSw); obtain ⟨e0, e1, e2, e3, e4, e5, e6⟩ := Bk.c7 hSw.2.2.1; go_simp; (try with_reducible rfl))
          (try simp only [Act.put, List.getElem_toArray, List.getElem_cons_succ, List.getElem_cons_zero, List.setIfInBounds_toArray, List.set_cons_zero, List.set_cons_succ])
          refine wpAnyH_take (i := 39) (v := ?_) rfl (by kernel_rfl) (by kernel_rfl) (by kernel_rfl) (fun _ _ _ h => h) (Or.inl ⟨by rfl, ?_⟩) (by assumption) ?_
          rotate_left 1
          focus (intro w hSw; (try dsimp only at hSw); obtain ⟨e0, e1, e2, e3, e4, e5, e6⟩ := Bk.c7 hSw.2.2.2.1; go_simp; (try with_reducible rfl))
          (try simp only [Act.put, List.getElem_toArray, List.getElem_cons_succ, List.getElem_cons_zero, List.setIfInBounds_toArray, List.set_cons_zero, List.set_cons_succ])
          refine wpAnyH_take (i := 40) (v := ?_) rfl (by kernel_rfl) (by kernel_rfl) (by kernel_rfl) (fun _ _ _ h => h) (Or.inl ⟨by rfl, ?_⟩) (by assumption) ?_
          rotate_left 1
          focus (intro w hSw; (try dsimp only at hSw); go_simp; (try with_reducible rfl))
          (try simp only [Act.put, List.getElem_toArray, List.getElem_cons_succ, List.getElem_cons_zero, List.setIfInBounds_toArray, List.set_cons_zero, List.set_cons_succ])
          refine wpAnyH_take (i := 41) (v := ?_) rfl (by kernel_rfl) (by kernel_rfl) (by kernel_rfl) (fun _ _ _ h => h) (Or.inl ⟨by rfl, ?_⟩) (by assumption) ?_
          rotate_left 1
          focus (intro w hSw; (try dsimp only at hSw); go_simp; (try with_reducible rfl))
          (try simp only [Act.put, List.getElem_toArray, List.getElem_cons_succ, List.getElem_cons_zero, List.setIfInBounds_toArray, List.set_cons_zero, List.set_cons_succ])
          refine wpAnyH_take (i := 42) (v := ?_) rfl (by kernel_rfl) (by kernel_rfl) (by kernel_rfl) (fun _ _ _ h => h) (Or.inl ⟨by rfl, ?_⟩) (by assumption) ?_
          rotate_left 1
          focus (intro w hSw; (try dsimp only at hSw); go_simp; (try with_reducible rfl))
          (try simp only [Act.put, List.getElem_toArray, List.getElem_cons_succ, List.getElem_cons_zero, List.setIfInBounds_toArray, List.set_cons_zero, List.set_cons_succ])
          refine wpAnyH_take (i := 43) (v := ?_) rfl (by kernel_rfl) (by kernel_rfl) (by kernel_rfl) (fun _ _ _ h => h) (Or.inl ⟨by rfl, ?_⟩) (by assumption) ?_
          rotate_left 1
          focus (intro w hSw; (try dsimp only at hSw); go_simp; (try with_reducible rfl))
          (try simp only [Act.put, List.getElem_toArray, List.getElem_cons_succ, List.getElem_cons_zero, List.setIfInBounds_toArray, List.set_cons_zero, List.set_cons_succ])
          refine wpAnyH_take (i := 44) (v := ?_) rfl (by kernel_rfl) (by kernel_rfl) (by kernel_rfl) (fun _ _ _ h => h) (Or.inl ⟨by rfl, ?_⟩) (by assumption) ?_
          rotate_left 1
          focus (intro w hSw; (try dsimp only at hSw); go_simp; (try with_reducible rfl))
          (try simp only [Act.put, List.getElem_toArray, List.getElem_cons_succ, List.getElem_cons_zero, List.setIfInBounds_toArray, List.set_cons_zero, List.set_cons_succ])
          refine wpAnyH_take (i := 45) (v := ?_) rfl (by kernel_rfl) (by kernel_rfl) (by kernel_rfl) (fun _ _ _ h => h) (Or.inl ⟨by rfl, ?_⟩) (by assumption) ?_
          rotate_left 1
          focus (intro w hSw; (try dsimp only at hSw); go_simp; (try with_reducible rfl))
          (try simp only [Act.put, List.getElem_toArray, List.getElem_cons_succ, List.getElem_cons_zero, List.setIfInBounds_toArray, List.set_cons_zero, List.set_cons_succ])
          refine wpAnyH_take (i := 46) (v := ?_) rfl (by kernel_rfl) (by kernel_rfl) (by kernel_rfl) (fun _ _ _ h => h) (Or.inl ⟨by rfl, ?_⟩) (by assumption) ?_
          rotate_left 1
          focus (intro w hSw; (try dsimp only at hSw); go_simp; (try with_reducible rfl))
          (try simp only [Act.put, List.getElem_toArray, List.getElem_cons_succ, List.getElem_cons_zero, List.setIfInBounds_toArray, List.set_cons_zero, List.set_cons_succ])
          refine wpAnyH_take (i := 47) (v := ?_) rfl (by kernel_rfl) (by kernel_rfl) (by kernel_rfl) (fun _ _ _ h => h) (Or.inl ⟨by rfl, ?_⟩) (by assumption) ?_
          rotate_left 1
          focus (intro w hSw; (try dsimp only at hSw); go_simp; (try with_reducible rfl))
          (try simp only [Act.put, List.getElem_toArray, List.getElem_cons_succ, List.getElem_cons_zero, List.setIfInBounds_toArray, List.set_cons_zero, List.set_cons_succ])
          refine wpAnyH_take (i := 48) (v := ?_) rfl (by kernel_rfl) (by kernel_rfl) (by kernel_rfl) (fun _ _ _ h => h) (Or.inl ⟨by rfl, ?_⟩) (by assumption) ?_
          rotate_left 1
          focus (intro w hSw; (try dsimp only at hSw); obtain ⟨e0, e1, e2, e3, e4, e5⟩ := Bk.c6 hSw.2.1; go_simp; (try with_reducible rfl))
          (try simp only [Act.put, List.getElem_toArray, List.getElem_cons_succ, List.getElem_cons_zero, List.setIfInBounds_toArray, List.set_cons_zero, List.set_cons_succ])
          refine wpAnyH_take (i := 50) (v := ?_) rfl (by kernel_rfl) (by kernel_rfl) (by kernel_rfl) (fun _ _ _ h => h) (Or.inl ⟨by rfl, ?_⟩) (by assumption) ?_
          rotate_left 1
          focus (intro w hSw; (try dsimp only at hSw); obtain ⟨e0, e1, e2, e3, e4, e5⟩ := Bk.c6 hSw.2.1; go_simp; (try with_reducible rfl))
          (try simp only [Act.put, List.getElem_toArray, List.getElem_cons_succ, List.getElem_cons_zero, List.setIfInBounds_toArray, List.set_cons_zero, List.set_cons_succ])
          refine wpAnyH_ready (rs := [49]) (by kernel_rfl) (by simp) ?_
          refine AllReadyH.cons rfl (fun K hK => ?_) AllReadyH.nil
          go_simp
          refine (HFC.out _).mono ?_
          rintro e w9 ⟨rfl, hf9⟩
          (try go_wp2_with fail)
          refine hK.out _ _ ?_ (fun hHeld => ?_)
          focus (exact ⟨hf9.blk hHeld.1 (fun h => h), hf9.blk hHeld.2.1 (fun h => h), hf9.blk hHeld.2.2.1 (fun h => h), hf9.blk hHeld.2.2.2.1 (fun h => h), (show Rf.At _ rb id _ _ _ (vw ls) from hHeld.2.2.2.2.1).frm0 hf9, (show Frm0 w5 _ from hHeld.2.2.2.2.2).trans hf9⟩)
          clear hK K
          (try simp only [Act.put, List.getElem_toArray, List.getElem_cons_succ, List.getElem_cons_zero, List.setIfInBounds_toArray, List.set_cons_zero, List.set_cons_succ])
          refine wpAnyH_ready (rs := [51]) (by kernel_rfl) (by simp) ?_
          refine AllReadyH.cons rfl (fun K hK => ?_) AllReadyH.nil
          go_simp
          refine (HFR.out _).mono ?_
          rintro e w9 ⟨rfl, hf9⟩
          (try go_wp2_with fail)
          refine hK.out _ _ ?_ (fun hHeld => ?_)
          focus (exact ⟨hf9.blk hHeld.1 (fun h => h), hf9.blk hHeld.2.1 (fun h => h), hf9.blk hHeld.2.2.1 (fun h => h), hf9.blk hHeld.2.2.2.1 (fun h => h), (show Rf.At _ rb id _ _ _ (vw ls) from hHeld.2.2.2.2.1).frm0 hf9, (show Frm0 w5 _ from hHeld.2.2.2.2.2).trans hf9⟩)
          clear hK K
          (try simp only [Act.put, List.getElem_toArray, List.getElem_cons_succ, List.getElem_cons_zero, List.setIfInBounds_toArray, List.set_cons_zero, List.set_cons_succ])
          refine wpAnyH_take (i := 52) (v := ?_) rfl (by kernel_rfl) (by kernel_rfl) (by kernel_rfl) (fun _ _ _ h => h) (Or.inl ⟨by rfl, ?_⟩) (by assumption) ?_
          rotate_left 1
          focus (intro w hSw; (try dsimp only at hSw); go_simp; (try with_reducible rfl))
          (try simp only [Act.put, List.getElem_toArray, List.getElem_cons_succ, List.getElem_cons_zero, List.setIfInBounds_toArray, List.set_cons_zero, List.set_cons_succ])
          refine wpAnyH_take (i := 53) (v := ?_) rfl (by kernel_rfl) (by kernel_rfl) (by kernel_rfl) (fun _ _ _ h => h) (Or.inl ⟨by rfl, ?_⟩) (by assumption) ?_
          rotate_left 1
          focus (intro w hSw; (try dsimp only at hSw); go_simp; (try with_reducible rfl))
          (try simp only [Act.put, List.getElem_toArray, List.getElem_cons_succ, List.getElem_cons_zero, List.setIfInBounds_toArray, List.set_cons_zero, List.set_cons_succ])
          refine wpAnyH_take (i := 54) (v := ?_) rfl (by kernel_rfl) (by kernel_rfl) (by kernel_rfl) (fun _ _ _ h => h) (Or.inl ⟨by rfl, ?_⟩) (by assumption) ?_
          rotate_left 1
          focus (intro w hSw; (try dsimp only at hSw); go_simp; (try with_reducible rfl))
          (try simp only [Act.put, List.getElem_toArray, List.getElem_cons_succ, List.getElem_cons_zero, List.setIfInBounds_toArray, List.set_cons_zero, List.set_cons_succ])
          refine wpAnyH_done (by kernel_rfl) ?_ _
          have hFF := (show Frm0 w5 _ from hHeld.2.2.2.2.2)
          go_wp2
          go_ret
          exact ⟨rfl, (hF0.trans (hB4.f.trans hFF)).below (fun _ _ h => h)⟩
end Go.Proofs.Yteokiiolchpndaa
