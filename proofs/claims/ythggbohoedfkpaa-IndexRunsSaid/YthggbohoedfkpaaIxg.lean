/- The index's methods: Len, Put, Drop. -/
import Derived.Test.YthggbohoedfkpaaIxf
namespace Go.Proofs.Ythggbohoedfkpaa
open Go.RowKit
set_option linter.unusedVariables false
set_option linter.unusedSimpArgs false
set_option maxRecDepth 100000
namespace Ix
section
variable {w w1 : World}
theorem owns_drew' {w : World} {base : Nat} {e : TypeId} {size : Nat} {v : Value} {n : Nat} {xs : List Value} (h : w.ownsRow base e size v n xs) : w.drew.ownsRow base e size v n xs := owns_frm0 h ((Frm.refl _ w).drew)
theorem en_one (e : En) : ∀ u ∈ e.cells, u.oneCell' = true := by
  intro u hu
  simp only [En.cells, List.mem_cons, List.not_mem_nil, or_false] at hu
  rcases hu with rfl | rfl | rfl | rfl | rfl | rfl | rfl | rfl | rfl | rfl | rfl | rfl | rfl | rfl <;> rfl
theorem ecs_one (l : List En) : ∀ u ∈ ecs l, u.oneCell' = true := by
  intro u hu
  obtain ⟨e, _, h⟩ := List.mem_flatMap.1 hu
  exact en_one e u h
theorem ecs_len (l : List En) : (ecs l).length = l.length * 14 := flatMap_len En.cells 14 En.cells_len l
theorem ecs_app (a b : List En) : ecs (a ++ b) = ecs a ++ ecs b := List.flatMap_append
theorem ecs_take (l : List En) (k : Nat) (h : k ≤ l.length) : ecs (l.take k) = (ecs l).take (k * 14) := by
  have e1 : ecs l = ecs (l.take k) ++ ecs (l.drop k) := by rw [← ecs_app, List.take_append_drop]
  rw [e1, List.take_left' (by rw [ecs_len, List.length_take, Nat.min_eq_left h])]
theorem ecs_drop (l : List En) (k : Nat) (h : k ≤ l.length) : ecs (l.drop k) = (ecs l).drop (k * 14) := by
  have e1 : ecs l = ecs (l.take k) ++ ecs (l.drop k) := by rw [← ecs_app, List.take_append_drop]
  rw [e1, List.drop_left' (by rw [ecs_len, List.length_take, Nat.min_eq_left h])]
theorem ecs_ins (l : List En) (e : En) (k : Nat) (h : k ≤ l.length) : ecs (l.take k ++ e :: l.drop k) = (ecs l).take (k * 14) ++ e.cells ++ (ecs l).drop (k * 14) := by
  have e1 : ecs (e :: l.drop k) = e.cells ++ ecs (l.drop k) := rfl
  rw [ecs_app, e1, ecs_take l k h, ecs_drop l k h, List.append_assoc]
theorem len_any (xb : Nat) (v : Value) (l : List En) (w : World) (h : At w xb v l) : Calls Try.prog 38 #[.pointer (some ⟨xb, 0, none⟩)] w fun e w' => e = .returned (.int .i64 l.length) ∧ w = w' := by
  have c0 : w.cell? ⟨xb, 0, none⟩ = some v := by rw [Bk.cell h.blk]; rfl
  obtain ⟨A, c, rfl⟩ := owns_nil_form' h.row
  clear h
  go_enter Try.func38, Try.ntmps38
  go_wp2
  go_ret
  exact ⟨rfl, rfl⟩
theorem len_nil (w : World) : Calls Try.prog 38 #[.pointer none] w fun e w' => e = .returned (.int .i64 0) ∧ w = w' := by
  go_enter Try.func38, Try.ntmps38
  go_wp2
  go_ret
  exact ⟨rfl, rfl⟩
theorem new_any (w : World) : Calls Try.prog 24 #[] w fun e w' => e = .returned (.pointer (some ⟨w.heap.size, 0, none⟩)) ∧ At w' w.heap.size (.slice none 0 0) [] ∧ Frm0 w w' := by
  go_enter Try.func24, Try.ntmps24
  go_wp2
  go_ret
  exact ⟨rfl, ⟨Bk.new _ _, World.ownsRow_nil _ _ _ _, List.Pairwise.nil, by simp⟩, (Frm.refl _ _).alloc _⟩
set_option maxHeartbeats 4000000 in
theorem put_any (xb : Nat) (v : Value) (l : List En) (e : En) (w : World) (h : At w xb v l) (hl : l.length ≤ 90) :
    Calls Try.prog 25 #[.pointer (some ⟨xb, 0, none⟩), .agg e.cells.toArray] w fun e_ w' => ∃ v', e_ = .returned (.bool (!found En.nm l e.nm)) ∧ At w' xb v' (put En.nm l e) ∧ Frm (fun k => k = xb ∨ v.ownBlock = some k) w w' ∧ (∀ k, v'.ownBlock = some k → v.ownBlock = some k ∨ w.heap.size ≤ k) := by
  have hb := Bk.new w (.cells e.cells.toArray 52)
  have hF := (Frm.refl (fun _ => False) w).alloc (.cells e.cells.toArray 52)
  have hA := h.frm0 hF
  have hown := h.own
  have hxl := h.lt
  clear h
  go_enter Try.func25, Try.ntmps25
  go_upto_region 3 with (fail)
  generalize w.alloc (.cells e.cells.toArray 52) = W at *
  generalize heb : w.heap.size = eb at *
  go_wp2_with (refine wpList_load_blk rfl 52 (.tmp 3) rfl (l := e.cells) hb rfl Try.underlying52 rfl iE rfl ?_)
  refine (of_any e _).mono ?_
  rintro e1 w1 ⟨rfl, hf1⟩
  have hA1 := hA.frm0 hf1
  have hb1 := hf1.blk hb (fun h => h)
  have hF1 := hF.trans hf1
  go_wp2_with fail
  refine (find_any xb v l e.tenant e.key _ hA1).mono ?_
  rintro e2 w2 ⟨rfl, hf2⟩
  have hA2 := hA1.frm0 hf2
  have hb2 := hf2.blk hb1 (fun h => h)
  have hF2 := hF1.trans hf2
  clear hA hb hA1 hb1 hF hF1 hf1 hf2
  have hpl := place_le En.nm l e.nm
  have hbl : w2.heap[eb]? = some (.cells #[.int .i64 e.tenant, .string e.key, .int .i64 e.state, .int .i64 e.epoch, .int .i64 e.token, .int .i64 e.point, .string e.print, .int .i64 e.lease, .int .i64 e.expiry, .int .i64 e.status, .string e.text, .string e.method, .string e.path, .string e.body] 52 (0, 0)) := hb2
  obtain ⟨y0, y1, y2, y3, y4, y5, y6, y7, y8, y9, y10, y11, y12, y13⟩ := Bk.c14 hbl
  have c0 : w2.cell? ⟨xb, 0, none⟩ = some v := by rw [Bk.cell hA2.blk]; rfl
  have f0 := Bk.frozen hA2.blk 0
  have hebl := Bk.lt hb2
  have hsz2 := hF2.size
  obtain ⟨A, c, rfl⟩ := owns_nil_form' hA2.row
  have HA := Lib.hid hA2
  rw [show (e.tenant, e.key.toList) = e.nm from rfl]
  obtain ⟨pl, hplE⟩ : ∃ pl, place En.nm l e.nm = pl := ⟨_, rfl⟩
  rw [hplE] at hpl ⊢
  cases hfd : found En.nm l e.nm
  · have HFD := Lib.hid hfd
    have HPL := Lib.hid hplE
    clear hfd hplE hA2
    have hFW := (Frm.refl (fun _ => False) w2).alloc (.cells #[.int .i64 e.tenant, .string e.key, .int .i64 e.state, .int .i64 e.epoch, .int .i64 e.token, .int .i64 e.point, .string e.print, .int .i64 e.lease, .int .i64 e.expiry, .int .i64 e.status, .string e.text, .string e.method, .string e.path, .string e.body] 52)
    have HFW := Lib.hid hFW
    have HS3 := Lib.hid (hFW.blk hb2 (fun h => h))
    have HX3 := Lib.hid (hFW.blk HA.out.blk (fun h => h))
    have HW := Lib.hid (And.intro (owns_frm0 HA.out.row hFW) (And.intro (Bk.new w2 (.cells #[.int .i64 e.tenant, .string e.key, .int .i64 e.state, .int .i64 e.epoch, .int .i64 e.token, .int .i64 e.point, .string e.print, .int .i64 e.lease, .int .i64 e.expiry, .int .i64 e.status, .string e.text, .string e.method, .string e.path, .string e.body] 52)) (And.intro (en_one e) (And.intro (ecs_one l) (And.intro (show xb + 1 ≤ (w2.alloc (.cells #[.int .i64 e.tenant, .string e.key, .int .i64 e.state, .int .i64 e.epoch, .int .i64 e.token, .int .i64 e.point, .string e.print, .int .i64 e.lease, .int .i64 e.expiry, .int .i64 e.status, .string e.text, .string e.method, .string e.path, .string e.body] 52)).heap.size by simp; omega) (show (Value.slice A l.length c).ownBlock ≠ some w2.heap.size from fun h => by have := HA.out.own w2.heap.size h; omega))))))
    have HI := Lib.hid (ins_any (.slice A l.length c) l.length pl w2.heap.size (xb + 1) (ecs l) e.cells (w2.alloc (.cells #[.int .i64 e.tenant, .string e.key, .int .i64 e.state, .int .i64 e.epoch, .int .i64 e.token, .int .i64 e.point, .string e.print, .int .i64 e.lease, .int .i64 e.expiry, .int .i64 e.status, .string e.text, .string e.method, .string e.path, .string e.body] 52)).drew HW.out.1 HW.out.2.1 rfl HW.out.2.2.1 HW.out.2.2.2.1 hpl (by omega) HW.out.2.2.2.2.1 HW.out.2.2.2.2.2)
    clear hFW hbl y0 y1 y2 y3 y4 y5 y6 y7 y8 y9 y10 y11 y12 y13
    go_upto_region 7 with (fail)
    refine wp_region_held_drew (S := fun w9 => w9.heap[eb]? = some (.cells e.cells.toArray 52 (0, 0))) (by kernel_rfl) (Bk.drew hb2) (fun hHeld => ?_)
    refine wpAnyH_take (i := 0) (v := ?_) rfl (by kernel_rfl) (by kernel_rfl) (by kernel_rfl) (fun _ _ _ h => h) (Or.inl ⟨by rfl, ?_⟩) (by assumption) ?_
    rotate_left 1
    focus (intro w hSw; (try dsimp only at hSw); go_simp; (try with_reducible rfl))
    (try simp only [Act.put, List.getElem_toArray, List.getElem_cons_succ, List.getElem_cons_zero, List.setIfInBounds_toArray, List.set_cons_zero, List.set_cons_succ])
    refine wpAnyH_take (i := 1) (v := ?_) rfl (by kernel_rfl) (by kernel_rfl) (by kernel_rfl) (fun _ _ _ h => h) (Or.inl ⟨by rfl, ?_⟩) (by assumption) ?_
    rotate_left 1
    focus (intro w hSw; (try dsimp only at hSw); go_simp; (try with_reducible rfl))
    (try simp only [Act.put, List.getElem_toArray, List.getElem_cons_succ, List.getElem_cons_zero, List.setIfInBounds_toArray, List.set_cons_zero, List.set_cons_succ])
    refine wpAnyH_take (i := 2) (v := ?_) rfl (by kernel_rfl) (by kernel_rfl) (by kernel_rfl) (fun _ _ _ h => h) (Or.inl ⟨by rfl, ?_⟩) (by assumption) ?_
    rotate_left 1
    focus (intro w hSw; (try dsimp only at hSw); go_simp; (try with_reducible rfl))
    (try simp only [Act.put, List.getElem_toArray, List.getElem_cons_succ, List.getElem_cons_zero, List.setIfInBounds_toArray, List.set_cons_zero, List.set_cons_succ])
    refine wpAnyH_take (i := 3) (v := ?_) rfl (by kernel_rfl) (by kernel_rfl) (by kernel_rfl) (fun _ _ _ h => h) (Or.inl ⟨by rfl, ?_⟩) (by assumption) ?_
    rotate_left 1
    focus (intro w hSw; (try dsimp only at hSw); go_simp; (try with_reducible rfl))
    (try simp only [Act.put, List.getElem_toArray, List.getElem_cons_succ, List.getElem_cons_zero, List.setIfInBounds_toArray, List.set_cons_zero, List.set_cons_succ])
    refine wpAnyH_take (i := 5) (v := ?_) rfl (by kernel_rfl) (by kernel_rfl) (by kernel_rfl) (fun _ _ _ h => h) (Or.inl ⟨by rfl, ?_⟩) (by assumption) ?_
    rotate_left 1
    focus (intro w hSw; (try dsimp only at hSw); go_simp; (try with_reducible rfl))
    (try simp only [Act.put, List.getElem_toArray, List.getElem_cons_succ, List.getElem_cons_zero, List.setIfInBounds_toArray, List.set_cons_zero, List.set_cons_succ])
    refine wpAnyH_take (i := 6) (v := .agg #[.int .i64 e.tenant, .string e.key, .int .i64 e.state, .int .i64 e.epoch, .int .i64 e.token, .int .i64 e.point, .string e.print, .int .i64 e.lease, .int .i64 e.expiry, .int .i64 e.status, .string e.text, .string e.method, .string e.path, .string e.body]) rfl (by kernel_rfl) (by kernel_rfl) (by kernel_rfl) (fun _ _ _ h => h) (yieldsIf_load_mid (by rfl) 52 (.tmp 3) rfl eb 0 rfl [.int .i64 e.tenant, .string e.key, .int .i64 e.state, .int .i64 e.epoch, .int .i64 e.token, .int .i64 e.point, .string e.print, .int .i64 e.lease, .int .i64 e.expiry, .int .i64 e.status, .string e.text, .string e.method, .string e.path, .string e.body] _ (fun w9 hSw => Bk.range hSw [.int .i64 e.tenant, .string e.key, .int .i64 e.state, .int .i64 e.epoch, .int .i64 e.token, .int .i64 e.point, .string e.print, .int .i64 e.lease, .int .i64 e.expiry, .int .i64 e.status, .string e.text, .string e.method, .string e.path, .string e.body] rfl) Try.underlying52 rfl (by rw [iE]; rfl)) (by assumption) ?_
    (try simp only [Act.put, List.getElem_toArray, List.getElem_cons_succ, List.getElem_cons_zero, List.setIfInBounds_toArray, List.set_cons_zero, List.set_cons_succ])
    refine wpAnyH_ready (rs := [4, 7]) (by kernel_rfl) (by simp) ?_
    refine AllReadyH.cons rfl (fun K hK => ?_) (AllReadyH.cons rfl (fun K hK => ?_) AllReadyH.nil)
    · rw [if_pos (by rfl)]
      go_simp
      refine hK.out _ _ (by assumption) (fun hHeld => ?_)
      clear hK K
      (try simp only [Act.put, List.getElem_toArray, List.getElem_cons_succ, List.getElem_cons_zero, List.setIfInBounds_toArray, List.set_cons_zero, List.set_cons_succ])
      refine wpAnyH_ready (rs := [7]) (by kernel_rfl) (by simp) ?_
      refine AllReadyH.cons rfl (fun K hK => ?_) AllReadyH.nil
      rw [if_pos (by rfl)]
      go_simp
      refine hK.out _ _ (Bk.alloc (by assumption) _) (fun hHeld => ?_)
      clear hK K
      (try simp only [Act.put, List.getElem_toArray, List.getElem_cons_succ, List.getElem_cons_zero, List.setIfInBounds_toArray, List.set_cons_zero, List.set_cons_succ])
      refine wpAnyH_ready (rs := [8]) (by kernel_rfl) (by simp) ?_
      refine AllReadyH.cons rfl (fun K hK => ?_) AllReadyH.nil
      go_simp
      
      with_reducible refine HI.out.mono ?_
      rintro e5 w4 ⟨v', rfl, ho4, hf4, hb4⟩
      obtain ⟨g4, c4, rfl⟩ := owns_form ho4
      (try go_wp2_with fail)
      have hS4 := hf4.blk HS3.out (fun h => by have := hown eb h; omega)
      have hx4 := hf4.blk HX3.out (fun h => by have := hown xb h; omega)
      have c4' : w4.cell? ⟨xb, 0, none⟩ = some (.slice A l.length c) := by rw [Bk.cell hx4]; rfl
      have f4' := Bk.frozen hx4 0
      refine hK.out _ _ hS4 (fun hHeld => ?_)
      clear hK K
      (try simp only [Act.put, List.getElem_toArray, List.getElem_cons_succ, List.getElem_cons_zero, List.setIfInBounds_toArray, List.set_cons_zero, List.set_cons_succ])
      refine wpAnyH_take (i := 9) (v := ?_) rfl (by kernel_rfl) (by kernel_rfl) (by kernel_rfl) (fun _ _ _ h => h) (Or.inl ⟨by rfl, ?_⟩) (by assumption) ?_
      rotate_left 1
      focus (intro w hSw; (try dsimp only at hSw); go_simp; (try with_reducible rfl))
      (try simp only [Act.put, List.getElem_toArray, List.getElem_cons_succ, List.getElem_cons_zero, List.setIfInBounds_toArray, List.set_cons_zero, List.set_cons_succ])
      refine wpAnyH_take (i := 10) (v := ?_) rfl (by kernel_rfl) (by kernel_rfl) (by kernel_rfl) (fun _ _ _ h => h) (Or.inl ⟨by rfl, ?_⟩) (by assumption) ?_
      rotate_left 1
      focus (intro w hSw; (try dsimp only at hSw); go_simp; (try with_reducible rfl))
      (try simp only [Act.put, List.getElem_toArray, List.getElem_cons_succ, List.getElem_cons_zero, List.setIfInBounds_toArray, List.set_cons_zero, List.set_cons_succ])
      refine wpAnyH_ready (rs := [11]) (by kernel_rfl) (by simp) ?_
      refine AllReadyH.cons rfl (fun K hK => ?_) AllReadyH.nil
      rw [if_pos (by rfl)]
      go_simp
      have hst : Frm (fun k => k = xb) w4 (w4.setCell ⟨xb, 0, none⟩ (.slice (some ⟨g4, 0, none⟩) (l.length + 1) c4)) := (Frm.refl _ w4).set1 0 _
      have hg4x : g4 ≠ xb := by have := ho4.lt g4 rfl; omega
      refine hK.out _ _ (hst.blk hS4 (by omega)) (fun hHeld => ?_)
      clear hK K
      (try simp only [Act.put, List.getElem_toArray, List.getElem_cons_succ, List.getElem_cons_zero, List.setIfInBounds_toArray, List.set_cons_zero, List.set_cons_succ])
      refine wpAnyH_done (by kernel_rfl) ?_ _
      go_wp2
      go_ret
      have hres := put_new En.nm HFD.out
      rw [HPL.out] at hres
      have hlen : (put En.nm l e).length = l.length + 1 := by rw [put_len, HFD.out]; rfl
      have hcs : ecs (put En.nm l e) = (ecs l).take (pl * 14) ++ e.cells ++ (ecs l).drop (pl * 14) := by
        rw [hres]; exact ecs_ins l e pl hpl
      refine ⟨_, by rw [HFD.out]; rfl, ⟨Bk.set hx4 0 _, ?_, put_sorted En.nm HA.out.sorted e, by omega⟩, ?_, ?_⟩
      · rw [hlen, hcs]
        exact owns_frm ho4 hst (fun g hg => by cases hg; exact hg4x)
      · exact (((hF2.of0 (S := fun k => k = xb ∨ (Value.slice A l.length c).ownBlock = some k)).trans HFW.out.of0).drew.then_ hf4 (fun k _ h => .inr h)).then_ hst (fun k _ h => .inl h)
      · intro k hk
        cases hk
        rcases hb4 with h | h
        · exact .inl h.symm
        · right
          have h2 : g4 = _ := Option.some.inj h
          rw [h2]
          have q := Nat.le_trans hF2.size HFW.out.size
          first | exact q | (rw [heb] at q; exact q)
    · rw [if_pos (by rfl)]
      go_simp
      refine hK.out _ _ (Bk.alloc (by assumption) _) (fun hHeld => ?_)
      clear hK K
      (try simp only [Act.put, List.getElem_toArray, List.getElem_cons_succ, List.getElem_cons_zero, List.setIfInBounds_toArray, List.set_cons_zero, List.set_cons_succ])
      refine wpAnyH_ready (rs := [4]) (by kernel_rfl) (by simp) ?_
      refine AllReadyH.cons rfl (fun K hK => ?_) AllReadyH.nil
      have cX : (w2.alloc (.cells #[.int .i64 e.tenant, .string e.key, .int .i64 e.state, .int .i64 e.epoch, .int .i64 e.token, .int .i64 e.point, .string e.print, .int .i64 e.lease, .int .i64 e.expiry, .int .i64 e.status, .string e.text, .string e.method, .string e.path, .string e.body] 52)).cell? ⟨xb, 0, none⟩ = some (.slice A l.length c) := cell_al c0
      rw [if_pos (by rfl)]
      go_simp
      refine hK.out _ _ (by assumption) (fun hHeld => ?_)
      clear hK K
      (try simp only [Act.put, List.getElem_toArray, List.getElem_cons_succ, List.getElem_cons_zero, List.setIfInBounds_toArray, List.set_cons_zero, List.set_cons_succ])
      refine wpAnyH_ready (rs := [8]) (by kernel_rfl) (by simp) ?_
      refine AllReadyH.cons rfl (fun K hK => ?_) AllReadyH.nil
      go_simp
      
      with_reducible refine HI.out.mono ?_
      rintro e5 w4 ⟨v', rfl, ho4, hf4, hb4⟩
      obtain ⟨g4, c4, rfl⟩ := owns_form ho4
      (try go_wp2_with fail)
      have hS4 := hf4.blk HS3.out (fun h => by have := hown eb h; omega)
      have hx4 := hf4.blk HX3.out (fun h => by have := hown xb h; omega)
      have c4' : w4.cell? ⟨xb, 0, none⟩ = some (.slice A l.length c) := by rw [Bk.cell hx4]; rfl
      have f4' := Bk.frozen hx4 0
      refine hK.out _ _ hS4 (fun hHeld => ?_)
      clear hK K
      (try simp only [Act.put, List.getElem_toArray, List.getElem_cons_succ, List.getElem_cons_zero, List.setIfInBounds_toArray, List.set_cons_zero, List.set_cons_succ])
      refine wpAnyH_take (i := 9) (v := ?_) rfl (by kernel_rfl) (by kernel_rfl) (by kernel_rfl) (fun _ _ _ h => h) (Or.inl ⟨by rfl, ?_⟩) (by assumption) ?_
      rotate_left 1
      focus (intro w hSw; (try dsimp only at hSw); go_simp; (try with_reducible rfl))
      (try simp only [Act.put, List.getElem_toArray, List.getElem_cons_succ, List.getElem_cons_zero, List.setIfInBounds_toArray, List.set_cons_zero, List.set_cons_succ])
      refine wpAnyH_take (i := 10) (v := ?_) rfl (by kernel_rfl) (by kernel_rfl) (by kernel_rfl) (fun _ _ _ h => h) (Or.inl ⟨by rfl, ?_⟩) (by assumption) ?_
      rotate_left 1
      focus (intro w hSw; (try dsimp only at hSw); go_simp; (try with_reducible rfl))
      (try simp only [Act.put, List.getElem_toArray, List.getElem_cons_succ, List.getElem_cons_zero, List.setIfInBounds_toArray, List.set_cons_zero, List.set_cons_succ])
      refine wpAnyH_ready (rs := [11]) (by kernel_rfl) (by simp) ?_
      refine AllReadyH.cons rfl (fun K hK => ?_) AllReadyH.nil
      rw [if_pos (by rfl)]
      go_simp
      have hst : Frm (fun k => k = xb) w4 (w4.setCell ⟨xb, 0, none⟩ (.slice (some ⟨g4, 0, none⟩) (l.length + 1) c4)) := (Frm.refl _ w4).set1 0 _
      have hg4x : g4 ≠ xb := by have := ho4.lt g4 rfl; omega
      refine hK.out _ _ (hst.blk hS4 (by omega)) (fun hHeld => ?_)
      clear hK K
      (try simp only [Act.put, List.getElem_toArray, List.getElem_cons_succ, List.getElem_cons_zero, List.setIfInBounds_toArray, List.set_cons_zero, List.set_cons_succ])
      refine wpAnyH_done (by kernel_rfl) ?_ _
      go_wp2
      go_ret
      have hres := put_new En.nm HFD.out
      rw [HPL.out] at hres
      have hlen : (put En.nm l e).length = l.length + 1 := by rw [put_len, HFD.out]; rfl
      have hcs : ecs (put En.nm l e) = (ecs l).take (pl * 14) ++ e.cells ++ (ecs l).drop (pl * 14) := by
        rw [hres]; exact ecs_ins l e pl hpl
      refine ⟨_, by rw [HFD.out]; rfl, ⟨Bk.set hx4 0 _, ?_, put_sorted En.nm HA.out.sorted e, by omega⟩, ?_, ?_⟩
      · rw [hlen, hcs]
        exact owns_frm ho4 hst (fun g hg => by cases hg; exact hg4x)
      · exact (((hF2.of0 (S := fun k => k = xb ∨ (Value.slice A l.length c).ownBlock = some k)).trans HFW.out.of0).drew.then_ hf4 (fun k _ h => .inr h)).then_ hst (fun k _ h => .inl h)
      · intro k hk
        cases hk
        rcases hb4 with h | h
        · exact .inl h.symm
        · right
          have h2 : g4 = _ := Option.some.inj h
          rw [h2]
          have q := Nat.le_trans hF2.size HFW.out.size
          first | exact q | (rw [heb] at q; exact q)
  · have HFD := Lib.hid hfd
    have HPL := Lib.hid hplE
    have hlt := found_lt En.nm hfd
    rw [hplE] at hlt
    have hlt2 : (pl : Int) < (l.length : Int) := by omega
    have hge2 : (0 : Int) ≤ (pl : Int) := by omega
    obtain ⟨g, o, rfl⟩ := sl_base HA.out.sl (by omega)
    obtain ⟨g', c', he'⟩ : ∃ g' c', (Value.slice (some ⟨g, o, none⟩) l.length c) = .slice (some ⟨g', 0, none⟩) l.length c' := by
      rcases HA.out.row.2 with ⟨h0, _⟩ | ⟨g', cap', cur', h0, _⟩
      · cases h0
      · exact ⟨_, _, h0⟩
    cases he'
    clear hfd hplE hA2
    go_upto_region 5 with (fail)
    refine st_tail 7 (by kernel_rfl) (by kernel_rfl) ?_
    simp only [List.take_succ_cons, List.take_zero, List.drop_succ_cons, List.drop_zero]
    repeat still_step
    refine wpStill_nil ?_
    have hR := owns_drew' HA.out.row
    go_wp2_with (refine wpList_store_row (f := En.cells) (l := l) rfl 52 (.tmp 23) (.tmp 22) rfl e hR En.cells_len rfl hlt rfl rfl iE rfl (by rfl) ?_; intro w3 hr3 hf3)
    go_ret
    have hres := put_found En.nm HFD.out
    rw [HPL.out] at hres
    have hgx : g ≠ xb := by have := HA.out.own g rfl; omega
    have hlen : (put En.nm l e).length = l.length := by rw [hres, List.length_set]
    refine ⟨_, by rw [HFD.out]; rfl, ⟨hf3.blk (Bk.drew HA.out.blk) (fun h => hgx h.symm), ?_, put_sorted En.nm HA.out.sorted e, by omega⟩, ?_, fun k hk => .inl hk⟩
    · rw [hlen, hres]
      exact hr3
    · exact ((hF2.of0 (S := fun k => k = xb ∨ (Value.slice (some ⟨g, 0, none⟩) l.length c).ownBlock = some k)).drew).then_ hf3 (fun k _ h => .inr (by rw [h]; rfl))

end
end Ix
end Go.Proofs.Ythggbohoedfkpaa
