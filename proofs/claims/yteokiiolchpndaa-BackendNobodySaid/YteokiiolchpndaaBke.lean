/- awake of law 25. -/
import Derived.Test.YteokiiolchpndaaBkd
namespace Go.Proofs.Yteokiiolchpndaa
open Go.RowKit Go.ChangeShapes Go.WideShapes Go.Maps
set_option linter.unusedVariables false
set_option linter.unusedSimpArgs false
set_option maxRecDepth 100000
namespace Bk25
/-- A backend and some blocks beside it. -/
structure Wk (w0 wc : World) (b cb : Nat) (v : Value) (s : St) (N : Nat) (C : Array Value) (L : List (Nat × Array Value)) : Prop where
  at_ : At wc b v s N
  base : w0.heap.size ≤ b
  cbk : wc.heap[cb]? = some (.cells C 28 (0, 0))
  sep : ¬ fp b v cb
  blks : ∀ x ∈ L, wc.heap[x.1]? = some (.cells x.2 33 (0, 0)) ∧ ¬ fp b v x.1 ∧ x.1 ≠ cb ∧ w0.heap.size ≤ x.1
  cb0 : w0.heap.size ≤ cb
  frm : Frm0 w0 wc
  nd : L.Pairwise (fun x y => x.1 ≠ y.1)
section
variable {w0 wc w1 : World} {b cb N N' : Nat} {v v' : Value} {s s' : St} {C : Array Value} {L L' : List (Nat × Array Value)}
theorem At.fplt (h : At wc b v s N) (k : Nat) (hk : fp b v k) : k < wc.heap.size := by
  have := h.lt
  rcases hk with e | e | e | e
  · omega
  · omega
  · omega
  · exact (h.own _ e).2
theorem Wk.same (h : Wk w0 wc b cb v s N C L) (hf : Frm0 wc w1) : Wk w0 w1 b cb v s N C L :=
  ⟨h.at_.frm0 hf, h.base, hf.blk h.cbk (fun h => h), h.sep, fun x hx => ⟨hf.blk (h.blks x hx).1 (fun h => h), (h.blks x hx).2⟩, h.cb0, h.frm.trans hf, h.nd⟩
theorem Wk.drew (h : Wk w0 wc b cb v s N C L) : Wk w0 wc.drew b cb v s N C L := h.same (Frm.refl _ wc).drew
theorem Wk.alloc (h : Wk w0 wc b cb v s N C L) (Z : Array Value) : Wk w0 (wc.alloc (.cells Z 33)) b cb v s N C ((wc.heap.size, Z) :: L) := by
  have h1 := h.same ((Frm.refl _ wc).alloc (.cells Z 33))
  refine ⟨h1.at_, h1.base, h1.cbk, h1.sep, fun x hx => ?_, h1.cb0, h1.frm, List.pairwise_cons.2 ⟨fun x hx e => ?_, h.nd⟩⟩
  rotate_left 1
  · have := Bk.lt (h.blks x hx).1
    simp only at e
    omega
  rcases List.mem_cons.1 hx with rfl | hx
  · exact ⟨Bk.new wc _, fun e => Nat.lt_irrefl _ (h.at_.fplt _ e), fun e => by have := Bk.lt h.cbk; simp only at e; omega, h.frm.size⟩
  · exact h1.blks x hx
theorem fp_grew {k : Nat} (ho : v'.ownBlock = v.ownBlock ∨ ∀ k, v'.ownBlock = some k → wc.heap.size ≤ k) (hk : k < wc.heap.size) (h : ¬ fp b v k) : ¬ fp b v' k := by
  rintro (e | e | e | e)
  · exact h (.inl e)
  · exact h (.inr (.inl e))
  · exact h (.inr (.inr (.inl e)))
  · rcases ho with ho | ho
    · exact h (.inr (.inr (.inr (ho ▸ e))))
    · have := ho k e; omega
theorem Wk.call (h : Wk w0 wc b cb v s N C L) (hA : At w1 b v' s' N') (hf : Frm (fp b v) wc w1) (ho : v'.ownBlock = v.ownBlock ∨ ∀ k, v'.ownBlock = some k → wc.heap.size ≤ k) : Wk w0 w1 b cb v' s' N' C L :=
  ⟨hA, h.base, hf.blk h.cbk h.sep, fp_grew ho (Bk.lt h.cbk) h.sep, fun x hx => ⟨hf.blk (h.blks x hx).1 (h.blks x hx).2.1, fp_grew ho (Bk.lt (h.blks x hx).1) (h.blks x hx).2.1, (h.blks x hx).2.2⟩, h.cb0,
    h.frm.then_ hf (fun i hi e => by
      have := h.base
      rcases e with e | e | e | e
      · omega
      · omega
      · omega
      · have := (h.at_.own _ e).1; omega), h.nd⟩
theorem Wk.put (h : Wk w0 wc b cb v s N C L) {g : Nat} {Z us : Array Value} (hg : (g, Z) ∈ L) (hz : us.size = Z.size) (hL : ∀ x ∈ L', x = (g, us) ∨ (x ∈ L ∧ x.1 ≠ g)) (hnd : L'.Pairwise (fun x y => x.1 ≠ y.1)) : Wk w0 (wc.setCells g 0 us.toList) b cb v s N C L' := by
  have hf := Frm.puts (S := fun k => k = g) g (fun _ => rfl) us.toList 0 wc (Frm.refl _ _)
  obtain ⟨g1, g2, g3, g4⟩ := h.blks _ hg
  refine ⟨h.at_.frm hf (fun k hk e => g2 (e ▸ hk)), h.base, hf.blk h.cbk (fun e => g3 e.symm), h.sep, fun x hx => ?_, h.cb0, h.frm.then_ hf (fun i hi e => by simp only at g4; omega), hnd⟩
  rcases hL x hx with rfl | ⟨hy, e⟩
  · have := Bk.puts us.toList 0 wc Z g1
    rw [sets_whole hz] at this
    exact ⟨this, g2, g3, g4⟩
  · obtain ⟨y1, y2⟩ := h.blks x hy
    exact ⟨hf.blk y1 e, y2⟩
theorem Wk.perm (h : Wk w0 wc b cb v s N C L) (hp : ∀ x ∈ L', x ∈ L) (hn : L'.Pairwise (fun x y => x.1 ≠ y.1)) : Wk w0 wc b cb v s N C L' := ⟨h.at_, h.base, h.cbk, h.sep, fun x hx => h.blks x (hp x hx), h.cb0, h.frm, hn⟩
theorem Wk.putc (h : Wk w0 wc b cb v s N C L) (i : Nat) (u : Value) : Wk w0 (wc.setCell ⟨cb, i, none⟩ u) b cb v s N (C.setIfInBounds i u) L := by
  have hf := (Frm.refl (fun k => k = cb) wc).set1 i u
  exact ⟨h.at_.frm hf (fun k hk e => h.sep (e ▸ hk)), h.base, Bk.set h.cbk i u, h.sep, fun x hx => ⟨hf.blk (h.blks x hx).1 (h.blks x hx).2.2.1, (h.blks x hx).2⟩, h.cb0, h.frm.then_ hf (fun i hi e => by have := h.cb0; omega), h.nd⟩
section
variable {ga gb : Nat} {Za Zb us : Array Value} {R : List (Nat × Array Value)}
theorem Wk.there_a (h : Wk w0 wc b cb v s N C ((ga, Za) :: (gb, Zb) :: R)) : wc.there ga 0 Za.size := Bk.there (h.blks (ga, Za) (by simp)).1 0 _ (by simp)
theorem Wk.there_b (h : Wk w0 wc b cb v s N C ((ga, Za) :: (gb, Zb) :: R)) : wc.there gb 0 Zb.size := Bk.there (h.blks (gb, Zb) (by simp)).1 0 _ (by simp)
theorem Wk.nds (h : Wk w0 wc b cb v s N C ((ga, Za) :: (gb, Zb) :: R)) : ga ≠ gb ∧ (∀ x ∈ R, ga ≠ x.1) ∧ (∀ x ∈ R, gb ≠ x.1) ∧ R.Pairwise (fun x y => x.1 ≠ y.1) := by
  obtain ⟨h1, h2⟩ := List.pairwise_cons.1 h.nd
  obtain ⟨h3, h4⟩ := List.pairwise_cons.1 h2
  exact ⟨h1 (gb, Zb) (by simp), fun x hx => h1 x (by simp [hx]), h3, h4⟩
theorem Wk.put_a (h : Wk w0 wc b cb v s N C ((ga, Za) :: (gb, Zb) :: R)) (hz : us.size = Za.size) : Wk w0 (wc.setCells ga 0 us.toList) b cb v s N C ((ga, us) :: (gb, Zb) :: R) := by
  obtain ⟨n1, n2, n3, n4⟩ := h.nds
  refine h.put (g := ga) (Z := Za) (by simp) hz (fun x hx => ?_) (List.pairwise_cons.2 ⟨fun x hx => ?_, List.pairwise_cons.2 ⟨n3, n4⟩⟩)
  · rcases List.mem_cons.1 hx with rfl | hx
    · exact .inl rfl
    · rcases List.mem_cons.1 hx with rfl | hx
      · exact .inr ⟨by simp, fun e => n1 e.symm⟩
      · exact .inr ⟨by simp [hx], fun e => n2 x hx e.symm⟩
  · rcases List.mem_cons.1 hx with rfl | hx
    · exact n1
    · exact n2 x hx
theorem Wk.put_b (h : Wk w0 wc b cb v s N C ((ga, Za) :: (gb, Zb) :: R)) (hz : us.size = Zb.size) : Wk w0 (wc.setCells gb 0 us.toList) b cb v s N C ((ga, Za) :: (gb, us) :: R) := by
  obtain ⟨n1, n2, n3, n4⟩ := h.nds
  refine h.put (g := gb) (Z := Zb) (by simp) hz (fun x hx => ?_) (List.pairwise_cons.2 ⟨fun x hx => ?_, List.pairwise_cons.2 ⟨n3, n4⟩⟩)
  · rcases List.mem_cons.1 hx with rfl | hx
    · exact .inr ⟨by simp, n1⟩
    · rcases List.mem_cons.1 hx with rfl | hx
      · exact .inl rfl
      · exact .inr ⟨by simp [hx], fun e => n3 x hx e.symm⟩
  · rcases List.mem_cons.1 hx with rfl | hx
    · exact n1
    · exact n2 x hx
theorem Wk.store_a {o : Oper} {a : Act} {K : Act → World → Prop} {Q : Exit → Act → World → Prop} (h : Wk w0 wc b cb v s N C ((ga, Za) :: (gb, Zb) :: R)) (x y : Operand) (ho : o.op = .store 33 x y) {g' : Nat} (hx : a.eval x = .pointer (some ⟨g', 0, none⟩)) (hg : g' = ga) (hy : a.eval y = .agg us)
    (hz : us.size = Za.size) (h6 : us.size = 6) (h1 : us.all (·.oneCell') = true) (hK : ∀ w', Wk w0 w' b cb v s N C ((ga, us) :: (gb, Zb) :: R) → K (a.put o.dst undef) w') : o.wp Try.prog a wc K Q :=
  wp_store_mid 33 x y ho ga 0 us (hg ▸ hx) hy (by rw [hz]; exact h.there_a) (by rw [h6]; exact iR) h1 (hK _ (h.put_a hz))
theorem Wk.store_b {o : Oper} {a : Act} {K : Act → World → Prop} {Q : Exit → Act → World → Prop} (h : Wk w0 wc b cb v s N C ((ga, Za) :: (gb, Zb) :: R)) (x y : Operand) (ho : o.op = .store 33 x y) {g' : Nat} (hx : a.eval x = .pointer (some ⟨g', 0, none⟩)) (hg : g' = gb) (hy : a.eval y = .agg us)
    (hz : us.size = Zb.size) (h6 : us.size = 6) (h1 : us.all (·.oneCell') = true) (hK : ∀ w', Wk w0 w' b cb v s N C ((ga, Za) :: (gb, us) :: R) → K (a.put o.dst undef) w') : o.wp Try.prog a wc K Q :=
  wp_store_mid 33 x y ho gb 0 us (hg ▸ hx) hy (by rw [hz]; exact h.there_b) (by rw [h6]; exact iR) h1 (hK _ (h.put_b hz))
theorem Wk.re {ga' gb' : Nat} (h : Wk w0 wc b cb v s N C ((ga, Za) :: (gb, Zb) :: R)) (ha : ga' = ga) (hb : gb' = gb) : Wk w0 wc b cb v s N C ((ga', Za) :: (gb', Zb) :: R) := by
  subst ha hb
  exact h
theorem Wk.swap (h : Wk w0 wc b cb v s N C ((ga, Za) :: (gb, Zb) :: R)) : Wk w0 wc b cb v s N C ((gb, Zb) :: (ga, Za) :: R) := by
  obtain ⟨n1, n2, n3, n4⟩ := h.nds
  refine h.perm (fun x hx => ?_) (List.pairwise_cons.2 ⟨fun x hx => ?_, List.pairwise_cons.2 ⟨n2, n4⟩⟩)
  · rcases List.mem_cons.1 hx with rfl | hx
    · simp
    · rcases List.mem_cons.1 hx with rfl | hx
      · simp
      · simp [hx]
  · rcases List.mem_cons.1 hx with rfl | hx
    · exact fun e => n1 e.symm
    · exact n3 x hx
end
end
def ca0 : Ca := ⟨0, ⟨#[107]⟩, 1, 0, 2, ⟨#[]⟩, ⟨#[]⟩⟩
def ca1 : Ca := ⟨0, ⟨#[107]⟩, 1, 1, 2, ⟨#[]⟩, ⟨#[]⟩⟩
def st1 : St := ⟨[⟨0, ⟨#[107]⟩, 1, 2, false⟩], [ca0], 0⟩
def st2 : St := ⟨[⟨0, ⟨#[107]⟩, 1, 2, true⟩], [ca0], 0⟩
theorem aw1 : call ⟨[], [], 0⟩ ca0 = (st1, 1) := by rfl
theorem aw2 : call st1 ca0 = (st1, 1) := by rfl
theorem aw3 : call ⟨st1.ls, st1.ef, nb 1⟩ ca1 = (st2, 2) := by rfl
theorem aw4 : call st2 ca1 = (st2, 3) := by rfl
theorem kok0 : Kok 0 ⟨#[107]⟩ 1 := ⟨by decide, by decide, by decide⟩
set_option maxHeartbeats 8000000 in
theorem bawake (w : World) : Calls Try.prog 11 #[] w fun e w' => e = .returned (.bool true) ∧ Frm0 w w' := by
  have HD1 := Lib.hid (fun (w : World) (v : Value) (h : At w 0 v ⟨[], [], 0⟩ 0) => trivial)
  clear HD1
  have HDa := Lib.hid (fun (b : Nat) (w : World) (v : Value) (h : At w b v ⟨[], [], 0⟩ 0) => do_to ca0 h (by omega) (by decide) kok0 (by decide) aw1)
  have HDb := Lib.hid (fun (b : Nat) (w : World) (v : Value) (h : At w b v st1 2) => do_to ca0 h (by omega) (by decide) kok0 (by decide) aw2)
  have HDc := Lib.hid (fun (b : Nat) (w : World) (v : Value) (h : At w b v ⟨st1.ls, st1.ef, nb 1⟩ 4) => do_to ca1 h (by omega) (by decide) kok0 (by decide) aw3)
  have HDd := Lib.hid (fun (b : Nat) (w : World) (v : Value) (h : At w b v st2 6) => do_to ca1 h (by omega) (by decide) kok0 (by decide) aw4)
  unfold ca0 Ca.reply at HDa HDb
  unfold ca1 Ca.reply at HDc HDd
  simp only at HDa HDb HDc HDd
  go_enter Try.func11, Try.ntmps11
  go_wp2_with fail
  refine (new_any _).mono ?_
  rintro e w1 ⟨rfl, hA1, hf1⟩
  go_upto_region 3 with fail
  have hW : Wk w (w1.alloc (.cells #[.int .i64 0, .string ⟨#[107]⟩, .int .i64 1, .int .i64 0, .int .i64 2, .string ⟨#[]⟩, .string ⟨#[]⟩] 28)) w.heap.size w1.heap.size (.slice none 0 0) ⟨[], [], 0⟩ 0 #[.int .i64 0, .string ⟨#[107]⟩, .int .i64 1, .int .i64 0, .int .i64 2, .string ⟨#[]⟩, .string ⟨#[]⟩] [] :=
    ⟨hA1.frm0 ((Frm.refl _ _).alloc _), Nat.le_refl _, Bk.new w1 _, fun e => Nat.lt_irrefl _ (hA1.fplt _ e), (by intro x hx; cases hx), hf1.size, hf1.alloc _, List.Pairwise.nil⟩
  have HD1 := Lib.hid (HDa.out w.heap.size)
  have HD2 := Lib.hid (HDb.out w.heap.size)
  have HD3 := Lib.hid (HDc.out w.heap.size)
  have HD4 := Lib.hid (HDd.out w.heap.size)
  clear HDa HDb HDc HDd hA1 hf1
  generalize w1.alloc (.cells #[.int .i64 0, .string ⟨#[107]⟩, .int .i64 1, .int .i64 0, .int .i64 2, .string ⟨#[]⟩, .string ⟨#[]⟩] 28) = w2 at *
  generalize w1.heap.size = cb at *
  generalize hbb : w.heap.size = b at *
  clear hbb
  go_cut [3, 4] from 9 to 14 (fun t3 t4 wc => ∃ (g3 g4 : Nat) (v : Value), t3 = .pointer (some ⟨g3, 0, none⟩) ∧ t4 = .pointer (some ⟨g4, 0, none⟩) ∧ Wk w wc b cb v st1 4 #[.int .i64 0, .string ⟨#[107]⟩, .int .i64 1, .int .i64 0, .int .i64 2, .string ⟨#[]⟩, .string ⟨#[]⟩] [(g3, #[.int .i64 0, .string ⟨#[107]⟩, .int .i64 1, .int .i64 0, .int .i64 2, .int .i64 1]), (g4, #[.int .i64 0, .string ⟨#[107]⟩, .int .i64 1, .int .i64 0, .int .i64 2, .int .i64 1])])
  case first =>
    have hW := hW.drew
    refine wp_region_held_drew (S := fun w9 => w9.heap[cb]? = some (.cells #[.int .i64 0, .string ⟨#[107]⟩, .int .i64 1, .int .i64 0, .int .i64 2, .string ⟨#[]⟩, .string ⟨#[]⟩] 28 (0, 0))) (by kernel_rfl) (hW.cbk) (fun hHeld => ?_)
    skip
    refine wpAnyH_take (i := 0) (v := ?_) rfl (by kernel_rfl) (by kernel_rfl) (by kernel_rfl) (fun _ _ _ h => h) (Or.inl ⟨by rfl, ?_⟩) (by assumption) ?_
    rotate_left 1
    focus (intro w hSw; (try dsimp only at hSw); go_simp; (try with_reducible rfl))
    (try simp only [Act.put, List.getElem_toArray, List.getElem_cons_succ, List.getElem_cons_zero, List.setIfInBounds_toArray, List.set_cons_zero, List.set_cons_succ])
    refine wpAnyH_take (i := 1) (v := ?_) rfl (by kernel_rfl) (by kernel_rfl) (by kernel_rfl) (fun _ _ _ h => h) (Or.inl ⟨by rfl, ?_⟩) (by assumption) ?_
    rotate_left 1
    focus (intro w hSw; (try dsimp only at hSw); obtain ⟨k0, k1, k2, k3, k4, k5, k6⟩ := Bk.c7 hSw; go_simp; (try with_reducible rfl))
    (try simp only [Act.put, List.getElem_toArray, List.getElem_cons_succ, List.getElem_cons_zero, List.setIfInBounds_toArray, List.set_cons_zero, List.set_cons_succ])
    refine wpAnyH_take (i := 3) (v := ?_) rfl (by kernel_rfl) (by kernel_rfl) (by kernel_rfl) (fun _ _ _ h => h) (Or.inl ⟨by rfl, ?_⟩) (by assumption) ?_
    rotate_left 1
    focus (intro w hSw; (try dsimp only at hSw); go_simp; (try with_reducible rfl))
    (try simp only [Act.put, List.getElem_toArray, List.getElem_cons_succ, List.getElem_cons_zero, List.setIfInBounds_toArray, List.set_cons_zero, List.set_cons_succ])
    refine wpAnyH_take (i := 4) (v := ?_) rfl (by kernel_rfl) (by kernel_rfl) (by kernel_rfl) (fun _ _ _ h => h) (Or.inl ⟨by rfl, ?_⟩) (by assumption) ?_
    rotate_left 1
    focus (intro w hSw; (try dsimp only at hSw); obtain ⟨k0, k1, k2, k3, k4, k5, k6⟩ := Bk.c7 hSw; go_simp; (try with_reducible rfl))
    (try simp only [Act.put, List.getElem_toArray, List.getElem_cons_succ, List.getElem_cons_zero, List.setIfInBounds_toArray, List.set_cons_zero, List.set_cons_succ])
    refine wpAnyH_ready (rs := [2, 6, 7]) (by kernel_rfl) (by simp) ?_
    refine AllReadyH.cons rfl (fun K hK => ?_) (AllReadyH.cons rfl (fun K hK => ?_) (AllReadyH.cons rfl (fun K hK => ?_) AllReadyH.nil))
    · go_simp
      refine (HD1.out _ _ hW.at_).mono ?_
      rintro e wx ⟨rfl, vx, hAx, hfx, hox⟩
      have hW := hW.call hAx hfx hox
      (try go_wp2_with fail)
      refine hK.out _ _ hW.cbk (fun hHeld => ?_)
      clear hAx hfx hox hK K
      (try simp only [Act.put, List.getElem_toArray, List.getElem_cons_succ, List.getElem_cons_zero, List.setIfInBounds_toArray, List.set_cons_zero, List.set_cons_succ])
      refine wpAnyH_ready (rs := [5, 6, 7]) (by kernel_rfl) (by simp) ?_
      refine AllReadyH.cons rfl (fun K hK => ?_) (AllReadyH.cons rfl (fun K hK => ?_) (AllReadyH.cons rfl (fun K hK => ?_) AllReadyH.nil))
      · go_simp
        refine (HD2.out _ _ hW.at_).mono ?_
        rintro e wx ⟨rfl, vx, hAx, hfx, hox⟩
        have hW := hW.call hAx hfx hox
        (try go_wp2_with fail)
        refine hK.out _ _ hW.cbk (fun hHeld => ?_)
        clear hAx hfx hox hK K
        (try simp only [Act.put, List.getElem_toArray, List.getElem_cons_succ, List.getElem_cons_zero, List.setIfInBounds_toArray, List.set_cons_zero, List.set_cons_succ])
        refine wpAnyH_ready (rs := [6, 7]) (by kernel_rfl) (by simp) ?_
        refine AllReadyH.cons rfl (fun K hK => ?_) (AllReadyH.cons rfl (fun K hK => ?_) AllReadyH.nil)
        · go_simp
          have hW := hW.alloc #[.int .i64 0, .string ⟨#[]⟩, .int .i64 0, .int .i64 0, .int .i64 0, .int .i64 0]
          refine hK.out _ _ hW.cbk (fun hHeld => ?_)
          clear hK K
          (try simp only [Act.put, List.getElem_toArray, List.getElem_cons_succ, List.getElem_cons_zero, List.setIfInBounds_toArray, List.set_cons_zero, List.set_cons_succ])
          refine wpAnyH_ready (rs := [7]) (by kernel_rfl) (by simp) ?_
          refine AllReadyH.cons rfl (fun K hK => ?_) AllReadyH.nil
          · go_simp
            have hW := hW.alloc #[.int .i64 0, .string ⟨#[]⟩, .int .i64 0, .int .i64 0, .int .i64 0, .int .i64 0]
            refine hK.out _ _ hW.cbk (fun hHeld => ?_)
            clear hK K
            (try simp only [Act.put, List.getElem_toArray, List.getElem_cons_succ, List.getElem_cons_zero, List.setIfInBounds_toArray, List.set_cons_zero, List.set_cons_succ])
            refine wpAnyH_ready (rs := [8]) (by kernel_rfl) (by simp) ?_
            refine AllReadyH.cons rfl (fun K hK => ?_) AllReadyH.nil
            rw [if_pos (by rfl)]
            refine hW.store_b (us := #[.int .i64 0, .string ⟨#[107]⟩, .int .i64 1, .int .i64 0, .int .i64 2, .int .i64 1]) (.tmp 3) (.tmp 11) rfl rfl (by first | rfl | simp) rfl rfl rfl (by simp [Value.oneCell']) ?_
            intro wz hW
            refine hK.out _ _ hW.cbk (fun hHeld => ?_)
            clear hK K
            (try simp only [Act.put, List.getElem_toArray, List.getElem_cons_succ, List.getElem_cons_zero, List.setIfInBounds_toArray, List.set_cons_zero, List.set_cons_succ])
            refine wpAnyH_ready (rs := [9]) (by kernel_rfl) (by simp) ?_
            refine AllReadyH.cons rfl (fun K hK => ?_) AllReadyH.nil
            rw [if_pos (by rfl)]
            refine hW.store_a (us := #[.int .i64 0, .string ⟨#[107]⟩, .int .i64 1, .int .i64 0, .int .i64 2, .int .i64 1]) (.tmp 4) (.tmp 14) rfl rfl (by first | rfl | simp) rfl rfl rfl (by simp [Value.oneCell']) ?_
            intro wz hW
            refine hK.out _ _ hW.cbk (fun hHeld => ?_)
            clear hK K
            (try simp only [Act.put, List.getElem_toArray, List.getElem_cons_succ, List.getElem_cons_zero, List.setIfInBounds_toArray, List.set_cons_zero, List.set_cons_succ])
            refine wpAnyH_done (by kernel_rfl) ?_ _
            go_wp2_with fail
            go_meet
            case rel => exact ⟨_, _, _, rfl, rfl, hW.swap.re (by first | rfl | simp) (by first | rfl | simp)⟩
        · go_simp
          have hW := hW.alloc #[.int .i64 0, .string ⟨#[]⟩, .int .i64 0, .int .i64 0, .int .i64 0, .int .i64 0]
          refine hK.out _ _ hW.cbk (fun hHeld => ?_)
          clear hK K
          (try simp only [Act.put, List.getElem_toArray, List.getElem_cons_succ, List.getElem_cons_zero, List.setIfInBounds_toArray, List.set_cons_zero, List.set_cons_succ])
          refine wpAnyH_ready (rs := [6]) (by kernel_rfl) (by simp) ?_
          refine AllReadyH.cons rfl (fun K hK => ?_) AllReadyH.nil
          · go_simp
            have hW := hW.alloc #[.int .i64 0, .string ⟨#[]⟩, .int .i64 0, .int .i64 0, .int .i64 0, .int .i64 0]
            refine hK.out _ _ hW.cbk (fun hHeld => ?_)
            clear hK K
            (try simp only [Act.put, List.getElem_toArray, List.getElem_cons_succ, List.getElem_cons_zero, List.setIfInBounds_toArray, List.set_cons_zero, List.set_cons_succ])
            refine wpAnyH_ready (rs := [8]) (by kernel_rfl) (by simp) ?_
            refine AllReadyH.cons rfl (fun K hK => ?_) AllReadyH.nil
            rw [if_pos (by rfl)]
            refine hW.store_a (us := #[.int .i64 0, .string ⟨#[107]⟩, .int .i64 1, .int .i64 0, .int .i64 2, .int .i64 1]) (.tmp 3) (.tmp 11) rfl rfl (by first | rfl | simp) rfl rfl rfl (by simp [Value.oneCell']) ?_
            intro wz hW
            refine hK.out _ _ hW.cbk (fun hHeld => ?_)
            clear hK K
            (try simp only [Act.put, List.getElem_toArray, List.getElem_cons_succ, List.getElem_cons_zero, List.setIfInBounds_toArray, List.set_cons_zero, List.set_cons_succ])
            refine wpAnyH_ready (rs := [9]) (by kernel_rfl) (by simp) ?_
            refine AllReadyH.cons rfl (fun K hK => ?_) AllReadyH.nil
            rw [if_pos (by rfl)]
            refine hW.store_b (us := #[.int .i64 0, .string ⟨#[107]⟩, .int .i64 1, .int .i64 0, .int .i64 2, .int .i64 1]) (.tmp 4) (.tmp 14) rfl rfl (by first | rfl | simp) rfl rfl rfl (by simp [Value.oneCell']) ?_
            intro wz hW
            refine hK.out _ _ hW.cbk (fun hHeld => ?_)
            clear hK K
            (try simp only [Act.put, List.getElem_toArray, List.getElem_cons_succ, List.getElem_cons_zero, List.setIfInBounds_toArray, List.set_cons_zero, List.set_cons_succ])
            refine wpAnyH_done (by kernel_rfl) ?_ _
            go_wp2_with fail
            go_meet
            case rel => exact ⟨_, _, _, rfl, rfl, hW.re (by first | rfl | simp) (by first | rfl | simp)⟩
      · go_simp
        have hW := hW.alloc #[.int .i64 0, .string ⟨#[]⟩, .int .i64 0, .int .i64 0, .int .i64 0, .int .i64 0]
        refine hK.out _ _ hW.cbk (fun hHeld => ?_)
        clear hK K
        (try simp only [Act.put, List.getElem_toArray, List.getElem_cons_succ, List.getElem_cons_zero, List.setIfInBounds_toArray, List.set_cons_zero, List.set_cons_succ])
        refine wpAnyH_ready (rs := [5, 7]) (by kernel_rfl) (by simp) ?_
        refine AllReadyH.cons rfl (fun K hK => ?_) (AllReadyH.cons rfl (fun K hK => ?_) AllReadyH.nil)
        · go_simp
          refine (HD2.out _ _ hW.at_).mono ?_
          rintro e wx ⟨rfl, vx, hAx, hfx, hox⟩
          have hW := hW.call hAx hfx hox
          (try go_wp2_with fail)
          refine hK.out _ _ hW.cbk (fun hHeld => ?_)
          clear hAx hfx hox hK K
          (try simp only [Act.put, List.getElem_toArray, List.getElem_cons_succ, List.getElem_cons_zero, List.setIfInBounds_toArray, List.set_cons_zero, List.set_cons_succ])
          refine wpAnyH_ready (rs := [7]) (by kernel_rfl) (by simp) ?_
          refine AllReadyH.cons rfl (fun K hK => ?_) AllReadyH.nil
          · go_simp
            have hW := hW.alloc #[.int .i64 0, .string ⟨#[]⟩, .int .i64 0, .int .i64 0, .int .i64 0, .int .i64 0]
            refine hK.out _ _ hW.cbk (fun hHeld => ?_)
            clear hK K
            (try simp only [Act.put, List.getElem_toArray, List.getElem_cons_succ, List.getElem_cons_zero, List.setIfInBounds_toArray, List.set_cons_zero, List.set_cons_succ])
            refine wpAnyH_ready (rs := [8]) (by kernel_rfl) (by simp) ?_
            refine AllReadyH.cons rfl (fun K hK => ?_) AllReadyH.nil
            rw [if_pos (by rfl)]
            refine hW.store_b (us := #[.int .i64 0, .string ⟨#[107]⟩, .int .i64 1, .int .i64 0, .int .i64 2, .int .i64 1]) (.tmp 3) (.tmp 11) rfl rfl (by first | rfl | simp) rfl rfl rfl (by simp [Value.oneCell']) ?_
            intro wz hW
            refine hK.out _ _ hW.cbk (fun hHeld => ?_)
            clear hK K
            (try simp only [Act.put, List.getElem_toArray, List.getElem_cons_succ, List.getElem_cons_zero, List.setIfInBounds_toArray, List.set_cons_zero, List.set_cons_succ])
            refine wpAnyH_ready (rs := [9]) (by kernel_rfl) (by simp) ?_
            refine AllReadyH.cons rfl (fun K hK => ?_) AllReadyH.nil
            rw [if_pos (by rfl)]
            refine hW.store_a (us := #[.int .i64 0, .string ⟨#[107]⟩, .int .i64 1, .int .i64 0, .int .i64 2, .int .i64 1]) (.tmp 4) (.tmp 14) rfl rfl (by first | rfl | simp) rfl rfl rfl (by simp [Value.oneCell']) ?_
            intro wz hW
            refine hK.out _ _ hW.cbk (fun hHeld => ?_)
            clear hK K
            (try simp only [Act.put, List.getElem_toArray, List.getElem_cons_succ, List.getElem_cons_zero, List.setIfInBounds_toArray, List.set_cons_zero, List.set_cons_succ])
            refine wpAnyH_done (by kernel_rfl) ?_ _
            go_wp2_with fail
            go_meet
            case rel => exact ⟨_, _, _, rfl, rfl, hW.swap.re (by first | rfl | simp) (by first | rfl | simp)⟩
        · go_simp
          have hW := hW.alloc #[.int .i64 0, .string ⟨#[]⟩, .int .i64 0, .int .i64 0, .int .i64 0, .int .i64 0]
          refine hK.out _ _ hW.cbk (fun hHeld => ?_)
          clear hK K
          (try simp only [Act.put, List.getElem_toArray, List.getElem_cons_succ, List.getElem_cons_zero, List.setIfInBounds_toArray, List.set_cons_zero, List.set_cons_succ])
          refine wpAnyH_ready (rs := [5]) (by kernel_rfl) (by simp) ?_
          refine AllReadyH.cons rfl (fun K hK => ?_) AllReadyH.nil
          · go_simp
            refine (HD2.out _ _ hW.at_).mono ?_
            rintro e wx ⟨rfl, vx, hAx, hfx, hox⟩
            have hW := hW.call hAx hfx hox
            (try go_wp2_with fail)
            refine hK.out _ _ hW.cbk (fun hHeld => ?_)
            clear hAx hfx hox hK K
            (try simp only [Act.put, List.getElem_toArray, List.getElem_cons_succ, List.getElem_cons_zero, List.setIfInBounds_toArray, List.set_cons_zero, List.set_cons_succ])
            refine wpAnyH_ready (rs := [8]) (by kernel_rfl) (by simp) ?_
            refine AllReadyH.cons rfl (fun K hK => ?_) AllReadyH.nil
            rw [if_pos (by rfl)]
            refine hW.store_b (us := #[.int .i64 0, .string ⟨#[107]⟩, .int .i64 1, .int .i64 0, .int .i64 2, .int .i64 1]) (.tmp 3) (.tmp 11) rfl rfl (by first | rfl | simp) rfl rfl rfl (by simp [Value.oneCell']) ?_
            intro wz hW
            refine hK.out _ _ hW.cbk (fun hHeld => ?_)
            clear hK K
            (try simp only [Act.put, List.getElem_toArray, List.getElem_cons_succ, List.getElem_cons_zero, List.setIfInBounds_toArray, List.set_cons_zero, List.set_cons_succ])
            refine wpAnyH_ready (rs := [9]) (by kernel_rfl) (by simp) ?_
            refine AllReadyH.cons rfl (fun K hK => ?_) AllReadyH.nil
            rw [if_pos (by rfl)]
            refine hW.store_a (us := #[.int .i64 0, .string ⟨#[107]⟩, .int .i64 1, .int .i64 0, .int .i64 2, .int .i64 1]) (.tmp 4) (.tmp 14) rfl rfl (by first | rfl | simp) rfl rfl rfl (by simp [Value.oneCell']) ?_
            intro wz hW
            refine hK.out _ _ hW.cbk (fun hHeld => ?_)
            clear hK K
            (try simp only [Act.put, List.getElem_toArray, List.getElem_cons_succ, List.getElem_cons_zero, List.setIfInBounds_toArray, List.set_cons_zero, List.set_cons_succ])
            refine wpAnyH_done (by kernel_rfl) ?_ _
            go_wp2_with fail
            go_meet
            case rel => exact ⟨_, _, _, rfl, rfl, hW.swap.re (by first | rfl | simp) (by first | rfl | simp)⟩
      · go_simp
        have hW := hW.alloc #[.int .i64 0, .string ⟨#[]⟩, .int .i64 0, .int .i64 0, .int .i64 0, .int .i64 0]
        refine hK.out _ _ hW.cbk (fun hHeld => ?_)
        clear hK K
        (try simp only [Act.put, List.getElem_toArray, List.getElem_cons_succ, List.getElem_cons_zero, List.setIfInBounds_toArray, List.set_cons_zero, List.set_cons_succ])
        refine wpAnyH_ready (rs := [5, 6]) (by kernel_rfl) (by simp) ?_
        refine AllReadyH.cons rfl (fun K hK => ?_) (AllReadyH.cons rfl (fun K hK => ?_) AllReadyH.nil)
        · go_simp
          refine (HD2.out _ _ hW.at_).mono ?_
          rintro e wx ⟨rfl, vx, hAx, hfx, hox⟩
          have hW := hW.call hAx hfx hox
          (try go_wp2_with fail)
          refine hK.out _ _ hW.cbk (fun hHeld => ?_)
          clear hAx hfx hox hK K
          (try simp only [Act.put, List.getElem_toArray, List.getElem_cons_succ, List.getElem_cons_zero, List.setIfInBounds_toArray, List.set_cons_zero, List.set_cons_succ])
          refine wpAnyH_ready (rs := [6]) (by kernel_rfl) (by simp) ?_
          refine AllReadyH.cons rfl (fun K hK => ?_) AllReadyH.nil
          · go_simp
            have hW := hW.alloc #[.int .i64 0, .string ⟨#[]⟩, .int .i64 0, .int .i64 0, .int .i64 0, .int .i64 0]
            refine hK.out _ _ hW.cbk (fun hHeld => ?_)
            clear hK K
            (try simp only [Act.put, List.getElem_toArray, List.getElem_cons_succ, List.getElem_cons_zero, List.setIfInBounds_toArray, List.set_cons_zero, List.set_cons_succ])
            refine wpAnyH_ready (rs := [8]) (by kernel_rfl) (by simp) ?_
            refine AllReadyH.cons rfl (fun K hK => ?_) AllReadyH.nil
            rw [if_pos (by rfl)]
            refine hW.store_a (us := #[.int .i64 0, .string ⟨#[107]⟩, .int .i64 1, .int .i64 0, .int .i64 2, .int .i64 1]) (.tmp 3) (.tmp 11) rfl rfl (by first | rfl | simp) rfl rfl rfl (by simp [Value.oneCell']) ?_
            intro wz hW
            refine hK.out _ _ hW.cbk (fun hHeld => ?_)
            clear hK K
            (try simp only [Act.put, List.getElem_toArray, List.getElem_cons_succ, List.getElem_cons_zero, List.setIfInBounds_toArray, List.set_cons_zero, List.set_cons_succ])
            refine wpAnyH_ready (rs := [9]) (by kernel_rfl) (by simp) ?_
            refine AllReadyH.cons rfl (fun K hK => ?_) AllReadyH.nil
            rw [if_pos (by rfl)]
            refine hW.store_b (us := #[.int .i64 0, .string ⟨#[107]⟩, .int .i64 1, .int .i64 0, .int .i64 2, .int .i64 1]) (.tmp 4) (.tmp 14) rfl rfl (by first | rfl | simp) rfl rfl rfl (by simp [Value.oneCell']) ?_
            intro wz hW
            refine hK.out _ _ hW.cbk (fun hHeld => ?_)
            clear hK K
            (try simp only [Act.put, List.getElem_toArray, List.getElem_cons_succ, List.getElem_cons_zero, List.setIfInBounds_toArray, List.set_cons_zero, List.set_cons_succ])
            refine wpAnyH_done (by kernel_rfl) ?_ _
            go_wp2_with fail
            go_meet
            case rel => exact ⟨_, _, _, rfl, rfl, hW.re (by first | rfl | simp) (by first | rfl | simp)⟩
        · go_simp
          have hW := hW.alloc #[.int .i64 0, .string ⟨#[]⟩, .int .i64 0, .int .i64 0, .int .i64 0, .int .i64 0]
          refine hK.out _ _ hW.cbk (fun hHeld => ?_)
          clear hK K
          (try simp only [Act.put, List.getElem_toArray, List.getElem_cons_succ, List.getElem_cons_zero, List.setIfInBounds_toArray, List.set_cons_zero, List.set_cons_succ])
          refine wpAnyH_ready (rs := [5]) (by kernel_rfl) (by simp) ?_
          refine AllReadyH.cons rfl (fun K hK => ?_) AllReadyH.nil
          · go_simp
            refine (HD2.out _ _ hW.at_).mono ?_
            rintro e wx ⟨rfl, vx, hAx, hfx, hox⟩
            have hW := hW.call hAx hfx hox
            (try go_wp2_with fail)
            refine hK.out _ _ hW.cbk (fun hHeld => ?_)
            clear hAx hfx hox hK K
            (try simp only [Act.put, List.getElem_toArray, List.getElem_cons_succ, List.getElem_cons_zero, List.setIfInBounds_toArray, List.set_cons_zero, List.set_cons_succ])
            refine wpAnyH_ready (rs := [8]) (by kernel_rfl) (by simp) ?_
            refine AllReadyH.cons rfl (fun K hK => ?_) AllReadyH.nil
            rw [if_pos (by rfl)]
            refine hW.store_a (us := #[.int .i64 0, .string ⟨#[107]⟩, .int .i64 1, .int .i64 0, .int .i64 2, .int .i64 1]) (.tmp 3) (.tmp 11) rfl rfl (by first | rfl | simp) rfl rfl rfl (by simp [Value.oneCell']) ?_
            intro wz hW
            refine hK.out _ _ hW.cbk (fun hHeld => ?_)
            clear hK K
            (try simp only [Act.put, List.getElem_toArray, List.getElem_cons_succ, List.getElem_cons_zero, List.setIfInBounds_toArray, List.set_cons_zero, List.set_cons_succ])
            refine wpAnyH_ready (rs := [9]) (by kernel_rfl) (by simp) ?_
            refine AllReadyH.cons rfl (fun K hK => ?_) AllReadyH.nil
            rw [if_pos (by rfl)]
            refine hW.store_b (us := #[.int .i64 0, .string ⟨#[107]⟩, .int .i64 1, .int .i64 0, .int .i64 2, .int .i64 1]) (.tmp 4) (.tmp 14) rfl rfl (by first | rfl | simp) rfl rfl rfl (by simp [Value.oneCell']) ?_
            intro wz hW
            refine hK.out _ _ hW.cbk (fun hHeld => ?_)
            clear hK K
            (try simp only [Act.put, List.getElem_toArray, List.getElem_cons_succ, List.getElem_cons_zero, List.setIfInBounds_toArray, List.set_cons_zero, List.set_cons_succ])
            refine wpAnyH_done (by kernel_rfl) ?_ _
            go_wp2_with fail
            go_meet
            case rel => exact ⟨_, _, _, rfl, rfl, hW.re (by first | rfl | simp) (by first | rfl | simp)⟩
    · go_simp
      have hW := hW.alloc #[.int .i64 0, .string ⟨#[]⟩, .int .i64 0, .int .i64 0, .int .i64 0, .int .i64 0]
      refine hK.out _ _ hW.cbk (fun hHeld => ?_)
      clear hK K
      (try simp only [Act.put, List.getElem_toArray, List.getElem_cons_succ, List.getElem_cons_zero, List.setIfInBounds_toArray, List.set_cons_zero, List.set_cons_succ])
      refine wpAnyH_ready (rs := [2, 7]) (by kernel_rfl) (by simp) ?_
      refine AllReadyH.cons rfl (fun K hK => ?_) (AllReadyH.cons rfl (fun K hK => ?_) AllReadyH.nil)
      · go_simp
        refine (HD1.out _ _ hW.at_).mono ?_
        rintro e wx ⟨rfl, vx, hAx, hfx, hox⟩
        have hW := hW.call hAx hfx hox
        (try go_wp2_with fail)
        refine hK.out _ _ hW.cbk (fun hHeld => ?_)
        clear hAx hfx hox hK K
        (try simp only [Act.put, List.getElem_toArray, List.getElem_cons_succ, List.getElem_cons_zero, List.setIfInBounds_toArray, List.set_cons_zero, List.set_cons_succ])
        refine wpAnyH_ready (rs := [5, 7]) (by kernel_rfl) (by simp) ?_
        refine AllReadyH.cons rfl (fun K hK => ?_) (AllReadyH.cons rfl (fun K hK => ?_) AllReadyH.nil)
        · go_simp
          refine (HD2.out _ _ hW.at_).mono ?_
          rintro e wx ⟨rfl, vx, hAx, hfx, hox⟩
          have hW := hW.call hAx hfx hox
          (try go_wp2_with fail)
          refine hK.out _ _ hW.cbk (fun hHeld => ?_)
          clear hAx hfx hox hK K
          (try simp only [Act.put, List.getElem_toArray, List.getElem_cons_succ, List.getElem_cons_zero, List.setIfInBounds_toArray, List.set_cons_zero, List.set_cons_succ])
          refine wpAnyH_ready (rs := [7]) (by kernel_rfl) (by simp) ?_
          refine AllReadyH.cons rfl (fun K hK => ?_) AllReadyH.nil
          · go_simp
            have hW := hW.alloc #[.int .i64 0, .string ⟨#[]⟩, .int .i64 0, .int .i64 0, .int .i64 0, .int .i64 0]
            refine hK.out _ _ hW.cbk (fun hHeld => ?_)
            clear hK K
            (try simp only [Act.put, List.getElem_toArray, List.getElem_cons_succ, List.getElem_cons_zero, List.setIfInBounds_toArray, List.set_cons_zero, List.set_cons_succ])
            refine wpAnyH_ready (rs := [8]) (by kernel_rfl) (by simp) ?_
            refine AllReadyH.cons rfl (fun K hK => ?_) AllReadyH.nil
            rw [if_pos (by rfl)]
            refine hW.store_b (us := #[.int .i64 0, .string ⟨#[107]⟩, .int .i64 1, .int .i64 0, .int .i64 2, .int .i64 1]) (.tmp 3) (.tmp 11) rfl rfl (by first | rfl | simp) rfl rfl rfl (by simp [Value.oneCell']) ?_
            intro wz hW
            refine hK.out _ _ hW.cbk (fun hHeld => ?_)
            clear hK K
            (try simp only [Act.put, List.getElem_toArray, List.getElem_cons_succ, List.getElem_cons_zero, List.setIfInBounds_toArray, List.set_cons_zero, List.set_cons_succ])
            refine wpAnyH_ready (rs := [9]) (by kernel_rfl) (by simp) ?_
            refine AllReadyH.cons rfl (fun K hK => ?_) AllReadyH.nil
            rw [if_pos (by rfl)]
            refine hW.store_a (us := #[.int .i64 0, .string ⟨#[107]⟩, .int .i64 1, .int .i64 0, .int .i64 2, .int .i64 1]) (.tmp 4) (.tmp 14) rfl rfl (by first | rfl | simp) rfl rfl rfl (by simp [Value.oneCell']) ?_
            intro wz hW
            refine hK.out _ _ hW.cbk (fun hHeld => ?_)
            clear hK K
            (try simp only [Act.put, List.getElem_toArray, List.getElem_cons_succ, List.getElem_cons_zero, List.setIfInBounds_toArray, List.set_cons_zero, List.set_cons_succ])
            refine wpAnyH_done (by kernel_rfl) ?_ _
            go_wp2_with fail
            go_meet
            case rel => exact ⟨_, _, _, rfl, rfl, hW.swap.re (by first | rfl | simp) (by first | rfl | simp)⟩
        · go_simp
          have hW := hW.alloc #[.int .i64 0, .string ⟨#[]⟩, .int .i64 0, .int .i64 0, .int .i64 0, .int .i64 0]
          refine hK.out _ _ hW.cbk (fun hHeld => ?_)
          clear hK K
          (try simp only [Act.put, List.getElem_toArray, List.getElem_cons_succ, List.getElem_cons_zero, List.setIfInBounds_toArray, List.set_cons_zero, List.set_cons_succ])
          refine wpAnyH_ready (rs := [5]) (by kernel_rfl) (by simp) ?_
          refine AllReadyH.cons rfl (fun K hK => ?_) AllReadyH.nil
          · go_simp
            refine (HD2.out _ _ hW.at_).mono ?_
            rintro e wx ⟨rfl, vx, hAx, hfx, hox⟩
            have hW := hW.call hAx hfx hox
            (try go_wp2_with fail)
            refine hK.out _ _ hW.cbk (fun hHeld => ?_)
            clear hAx hfx hox hK K
            (try simp only [Act.put, List.getElem_toArray, List.getElem_cons_succ, List.getElem_cons_zero, List.setIfInBounds_toArray, List.set_cons_zero, List.set_cons_succ])
            refine wpAnyH_ready (rs := [8]) (by kernel_rfl) (by simp) ?_
            refine AllReadyH.cons rfl (fun K hK => ?_) AllReadyH.nil
            rw [if_pos (by rfl)]
            refine hW.store_b (us := #[.int .i64 0, .string ⟨#[107]⟩, .int .i64 1, .int .i64 0, .int .i64 2, .int .i64 1]) (.tmp 3) (.tmp 11) rfl rfl (by first | rfl | simp) rfl rfl rfl (by simp [Value.oneCell']) ?_
            intro wz hW
            refine hK.out _ _ hW.cbk (fun hHeld => ?_)
            clear hK K
            (try simp only [Act.put, List.getElem_toArray, List.getElem_cons_succ, List.getElem_cons_zero, List.setIfInBounds_toArray, List.set_cons_zero, List.set_cons_succ])
            refine wpAnyH_ready (rs := [9]) (by kernel_rfl) (by simp) ?_
            refine AllReadyH.cons rfl (fun K hK => ?_) AllReadyH.nil
            rw [if_pos (by rfl)]
            refine hW.store_a (us := #[.int .i64 0, .string ⟨#[107]⟩, .int .i64 1, .int .i64 0, .int .i64 2, .int .i64 1]) (.tmp 4) (.tmp 14) rfl rfl (by first | rfl | simp) rfl rfl rfl (by simp [Value.oneCell']) ?_
            intro wz hW
            refine hK.out _ _ hW.cbk (fun hHeld => ?_)
            clear hK K
            (try simp only [Act.put, List.getElem_toArray, List.getElem_cons_succ, List.getElem_cons_zero, List.setIfInBounds_toArray, List.set_cons_zero, List.set_cons_succ])
            refine wpAnyH_done (by kernel_rfl) ?_ _
            go_wp2_with fail
            go_meet
            case rel => exact ⟨_, _, _, rfl, rfl, hW.swap.re (by first | rfl | simp) (by first | rfl | simp)⟩
      · go_simp
        have hW := hW.alloc #[.int .i64 0, .string ⟨#[]⟩, .int .i64 0, .int .i64 0, .int .i64 0, .int .i64 0]
        refine hK.out _ _ hW.cbk (fun hHeld => ?_)
        clear hK K
        (try simp only [Act.put, List.getElem_toArray, List.getElem_cons_succ, List.getElem_cons_zero, List.setIfInBounds_toArray, List.set_cons_zero, List.set_cons_succ])
        refine wpAnyH_ready (rs := [2]) (by kernel_rfl) (by simp) ?_
        refine AllReadyH.cons rfl (fun K hK => ?_) AllReadyH.nil
        · go_simp
          refine (HD1.out _ _ hW.at_).mono ?_
          rintro e wx ⟨rfl, vx, hAx, hfx, hox⟩
          have hW := hW.call hAx hfx hox
          (try go_wp2_with fail)
          refine hK.out _ _ hW.cbk (fun hHeld => ?_)
          clear hAx hfx hox hK K
          (try simp only [Act.put, List.getElem_toArray, List.getElem_cons_succ, List.getElem_cons_zero, List.setIfInBounds_toArray, List.set_cons_zero, List.set_cons_succ])
          refine wpAnyH_ready (rs := [5]) (by kernel_rfl) (by simp) ?_
          refine AllReadyH.cons rfl (fun K hK => ?_) AllReadyH.nil
          · go_simp
            refine (HD2.out _ _ hW.at_).mono ?_
            rintro e wx ⟨rfl, vx, hAx, hfx, hox⟩
            have hW := hW.call hAx hfx hox
            (try go_wp2_with fail)
            refine hK.out _ _ hW.cbk (fun hHeld => ?_)
            clear hAx hfx hox hK K
            (try simp only [Act.put, List.getElem_toArray, List.getElem_cons_succ, List.getElem_cons_zero, List.setIfInBounds_toArray, List.set_cons_zero, List.set_cons_succ])
            refine wpAnyH_ready (rs := [8]) (by kernel_rfl) (by simp) ?_
            refine AllReadyH.cons rfl (fun K hK => ?_) AllReadyH.nil
            rw [if_pos (by rfl)]
            refine hW.store_b (us := #[.int .i64 0, .string ⟨#[107]⟩, .int .i64 1, .int .i64 0, .int .i64 2, .int .i64 1]) (.tmp 3) (.tmp 11) rfl rfl (by first | rfl | simp) rfl rfl rfl (by simp [Value.oneCell']) ?_
            intro wz hW
            refine hK.out _ _ hW.cbk (fun hHeld => ?_)
            clear hK K
            (try simp only [Act.put, List.getElem_toArray, List.getElem_cons_succ, List.getElem_cons_zero, List.setIfInBounds_toArray, List.set_cons_zero, List.set_cons_succ])
            refine wpAnyH_ready (rs := [9]) (by kernel_rfl) (by simp) ?_
            refine AllReadyH.cons rfl (fun K hK => ?_) AllReadyH.nil
            rw [if_pos (by rfl)]
            refine hW.store_a (us := #[.int .i64 0, .string ⟨#[107]⟩, .int .i64 1, .int .i64 0, .int .i64 2, .int .i64 1]) (.tmp 4) (.tmp 14) rfl rfl (by first | rfl | simp) rfl rfl rfl (by simp [Value.oneCell']) ?_
            intro wz hW
            refine hK.out _ _ hW.cbk (fun hHeld => ?_)
            clear hK K
            (try simp only [Act.put, List.getElem_toArray, List.getElem_cons_succ, List.getElem_cons_zero, List.setIfInBounds_toArray, List.set_cons_zero, List.set_cons_succ])
            refine wpAnyH_done (by kernel_rfl) ?_ _
            go_wp2_with fail
            go_meet
            case rel => exact ⟨_, _, _, rfl, rfl, hW.swap.re (by first | rfl | simp) (by first | rfl | simp)⟩
    · go_simp
      have hW := hW.alloc #[.int .i64 0, .string ⟨#[]⟩, .int .i64 0, .int .i64 0, .int .i64 0, .int .i64 0]
      refine hK.out _ _ hW.cbk (fun hHeld => ?_)
      clear hK K
      (try simp only [Act.put, List.getElem_toArray, List.getElem_cons_succ, List.getElem_cons_zero, List.setIfInBounds_toArray, List.set_cons_zero, List.set_cons_succ])
      refine wpAnyH_ready (rs := [2, 6]) (by kernel_rfl) (by simp) ?_
      refine AllReadyH.cons rfl (fun K hK => ?_) (AllReadyH.cons rfl (fun K hK => ?_) AllReadyH.nil)
      · go_simp
        refine (HD1.out _ _ hW.at_).mono ?_
        rintro e wx ⟨rfl, vx, hAx, hfx, hox⟩
        have hW := hW.call hAx hfx hox
        (try go_wp2_with fail)
        refine hK.out _ _ hW.cbk (fun hHeld => ?_)
        clear hAx hfx hox hK K
        (try simp only [Act.put, List.getElem_toArray, List.getElem_cons_succ, List.getElem_cons_zero, List.setIfInBounds_toArray, List.set_cons_zero, List.set_cons_succ])
        refine wpAnyH_ready (rs := [5, 6]) (by kernel_rfl) (by simp) ?_
        refine AllReadyH.cons rfl (fun K hK => ?_) (AllReadyH.cons rfl (fun K hK => ?_) AllReadyH.nil)
        · go_simp
          refine (HD2.out _ _ hW.at_).mono ?_
          rintro e wx ⟨rfl, vx, hAx, hfx, hox⟩
          have hW := hW.call hAx hfx hox
          (try go_wp2_with fail)
          refine hK.out _ _ hW.cbk (fun hHeld => ?_)
          clear hAx hfx hox hK K
          (try simp only [Act.put, List.getElem_toArray, List.getElem_cons_succ, List.getElem_cons_zero, List.setIfInBounds_toArray, List.set_cons_zero, List.set_cons_succ])
          refine wpAnyH_ready (rs := [6]) (by kernel_rfl) (by simp) ?_
          refine AllReadyH.cons rfl (fun K hK => ?_) AllReadyH.nil
          · go_simp
            have hW := hW.alloc #[.int .i64 0, .string ⟨#[]⟩, .int .i64 0, .int .i64 0, .int .i64 0, .int .i64 0]
            refine hK.out _ _ hW.cbk (fun hHeld => ?_)
            clear hK K
            (try simp only [Act.put, List.getElem_toArray, List.getElem_cons_succ, List.getElem_cons_zero, List.setIfInBounds_toArray, List.set_cons_zero, List.set_cons_succ])
            refine wpAnyH_ready (rs := [8]) (by kernel_rfl) (by simp) ?_
            refine AllReadyH.cons rfl (fun K hK => ?_) AllReadyH.nil
            rw [if_pos (by rfl)]
            refine hW.store_a (us := #[.int .i64 0, .string ⟨#[107]⟩, .int .i64 1, .int .i64 0, .int .i64 2, .int .i64 1]) (.tmp 3) (.tmp 11) rfl rfl (by first | rfl | simp) rfl rfl rfl (by simp [Value.oneCell']) ?_
            intro wz hW
            refine hK.out _ _ hW.cbk (fun hHeld => ?_)
            clear hK K
            (try simp only [Act.put, List.getElem_toArray, List.getElem_cons_succ, List.getElem_cons_zero, List.setIfInBounds_toArray, List.set_cons_zero, List.set_cons_succ])
            refine wpAnyH_ready (rs := [9]) (by kernel_rfl) (by simp) ?_
            refine AllReadyH.cons rfl (fun K hK => ?_) AllReadyH.nil
            rw [if_pos (by rfl)]
            refine hW.store_b (us := #[.int .i64 0, .string ⟨#[107]⟩, .int .i64 1, .int .i64 0, .int .i64 2, .int .i64 1]) (.tmp 4) (.tmp 14) rfl rfl (by first | rfl | simp) rfl rfl rfl (by simp [Value.oneCell']) ?_
            intro wz hW
            refine hK.out _ _ hW.cbk (fun hHeld => ?_)
            clear hK K
            (try simp only [Act.put, List.getElem_toArray, List.getElem_cons_succ, List.getElem_cons_zero, List.setIfInBounds_toArray, List.set_cons_zero, List.set_cons_succ])
            refine wpAnyH_done (by kernel_rfl) ?_ _
            go_wp2_with fail
            go_meet
            case rel => exact ⟨_, _, _, rfl, rfl, hW.re (by first | rfl | simp) (by first | rfl | simp)⟩
        · go_simp
          have hW := hW.alloc #[.int .i64 0, .string ⟨#[]⟩, .int .i64 0, .int .i64 0, .int .i64 0, .int .i64 0]
          refine hK.out _ _ hW.cbk (fun hHeld => ?_)
          clear hK K
          (try simp only [Act.put, List.getElem_toArray, List.getElem_cons_succ, List.getElem_cons_zero, List.setIfInBounds_toArray, List.set_cons_zero, List.set_cons_succ])
          refine wpAnyH_ready (rs := [5]) (by kernel_rfl) (by simp) ?_
          refine AllReadyH.cons rfl (fun K hK => ?_) AllReadyH.nil
          · go_simp
            refine (HD2.out _ _ hW.at_).mono ?_
            rintro e wx ⟨rfl, vx, hAx, hfx, hox⟩
            have hW := hW.call hAx hfx hox
            (try go_wp2_with fail)
            refine hK.out _ _ hW.cbk (fun hHeld => ?_)
            clear hAx hfx hox hK K
            (try simp only [Act.put, List.getElem_toArray, List.getElem_cons_succ, List.getElem_cons_zero, List.setIfInBounds_toArray, List.set_cons_zero, List.set_cons_succ])
            refine wpAnyH_ready (rs := [8]) (by kernel_rfl) (by simp) ?_
            refine AllReadyH.cons rfl (fun K hK => ?_) AllReadyH.nil
            rw [if_pos (by rfl)]
            refine hW.store_a (us := #[.int .i64 0, .string ⟨#[107]⟩, .int .i64 1, .int .i64 0, .int .i64 2, .int .i64 1]) (.tmp 3) (.tmp 11) rfl rfl (by first | rfl | simp) rfl rfl rfl (by simp [Value.oneCell']) ?_
            intro wz hW
            refine hK.out _ _ hW.cbk (fun hHeld => ?_)
            clear hK K
            (try simp only [Act.put, List.getElem_toArray, List.getElem_cons_succ, List.getElem_cons_zero, List.setIfInBounds_toArray, List.set_cons_zero, List.set_cons_succ])
            refine wpAnyH_ready (rs := [9]) (by kernel_rfl) (by simp) ?_
            refine AllReadyH.cons rfl (fun K hK => ?_) AllReadyH.nil
            rw [if_pos (by rfl)]
            refine hW.store_b (us := #[.int .i64 0, .string ⟨#[107]⟩, .int .i64 1, .int .i64 0, .int .i64 2, .int .i64 1]) (.tmp 4) (.tmp 14) rfl rfl (by first | rfl | simp) rfl rfl rfl (by simp [Value.oneCell']) ?_
            intro wz hW
            refine hK.out _ _ hW.cbk (fun hHeld => ?_)
            clear hK K
            (try simp only [Act.put, List.getElem_toArray, List.getElem_cons_succ, List.getElem_cons_zero, List.setIfInBounds_toArray, List.set_cons_zero, List.set_cons_succ])
            refine wpAnyH_done (by kernel_rfl) ?_ _
            go_wp2_with fail
            go_meet
            case rel => exact ⟨_, _, _, rfl, rfl, hW.re (by first | rfl | simp) (by first | rfl | simp)⟩
      · go_simp
        have hW := hW.alloc #[.int .i64 0, .string ⟨#[]⟩, .int .i64 0, .int .i64 0, .int .i64 0, .int .i64 0]
        refine hK.out _ _ hW.cbk (fun hHeld => ?_)
        clear hK K
        (try simp only [Act.put, List.getElem_toArray, List.getElem_cons_succ, List.getElem_cons_zero, List.setIfInBounds_toArray, List.set_cons_zero, List.set_cons_succ])
        refine wpAnyH_ready (rs := [2]) (by kernel_rfl) (by simp) ?_
        refine AllReadyH.cons rfl (fun K hK => ?_) AllReadyH.nil
        · go_simp
          refine (HD1.out _ _ hW.at_).mono ?_
          rintro e wx ⟨rfl, vx, hAx, hfx, hox⟩
          have hW := hW.call hAx hfx hox
          (try go_wp2_with fail)
          refine hK.out _ _ hW.cbk (fun hHeld => ?_)
          clear hAx hfx hox hK K
          (try simp only [Act.put, List.getElem_toArray, List.getElem_cons_succ, List.getElem_cons_zero, List.setIfInBounds_toArray, List.set_cons_zero, List.set_cons_succ])
          refine wpAnyH_ready (rs := [5]) (by kernel_rfl) (by simp) ?_
          refine AllReadyH.cons rfl (fun K hK => ?_) AllReadyH.nil
          · go_simp
            refine (HD2.out _ _ hW.at_).mono ?_
            rintro e wx ⟨rfl, vx, hAx, hfx, hox⟩
            have hW := hW.call hAx hfx hox
            (try go_wp2_with fail)
            refine hK.out _ _ hW.cbk (fun hHeld => ?_)
            clear hAx hfx hox hK K
            (try simp only [Act.put, List.getElem_toArray, List.getElem_cons_succ, List.getElem_cons_zero, List.setIfInBounds_toArray, List.set_cons_zero, List.set_cons_succ])
            refine wpAnyH_ready (rs := [8]) (by kernel_rfl) (by simp) ?_
            refine AllReadyH.cons rfl (fun K hK => ?_) AllReadyH.nil
            rw [if_pos (by rfl)]
            refine hW.store_a (us := #[.int .i64 0, .string ⟨#[107]⟩, .int .i64 1, .int .i64 0, .int .i64 2, .int .i64 1]) (.tmp 3) (.tmp 11) rfl rfl (by first | rfl | simp) rfl rfl rfl (by simp [Value.oneCell']) ?_
            intro wz hW
            refine hK.out _ _ hW.cbk (fun hHeld => ?_)
            clear hK K
            (try simp only [Act.put, List.getElem_toArray, List.getElem_cons_succ, List.getElem_cons_zero, List.setIfInBounds_toArray, List.set_cons_zero, List.set_cons_succ])
            refine wpAnyH_ready (rs := [9]) (by kernel_rfl) (by simp) ?_
            refine AllReadyH.cons rfl (fun K hK => ?_) AllReadyH.nil
            rw [if_pos (by rfl)]
            refine hW.store_b (us := #[.int .i64 0, .string ⟨#[107]⟩, .int .i64 1, .int .i64 0, .int .i64 2, .int .i64 1]) (.tmp 4) (.tmp 14) rfl rfl (by first | rfl | simp) rfl rfl rfl (by simp [Value.oneCell']) ?_
            intro wz hW
            refine hK.out _ _ hW.cbk (fun hHeld => ?_)
            clear hK K
            (try simp only [Act.put, List.getElem_toArray, List.getElem_cons_succ, List.getElem_cons_zero, List.setIfInBounds_toArray, List.set_cons_zero, List.set_cons_succ])
            refine wpAnyH_done (by kernel_rfl) ?_ _
            go_wp2_with fail
            go_meet
            case rel => exact ⟨_, _, _, rfl, rfl, hW.re (by first | rfl | simp) (by first | rfl | simp)⟩
  case rest =>
    clear hW
    obtain ⟨g3, g4, v, rfl, rfl, hW⟩ := hcut
    go_wp2_with fail
    refine (later_any 1 hW.at_).mono ?_
    rintro e w5 ⟨rfl, hA5, hf5⟩
    have hW5 := hW.call hA5 (hf5.mono (fun i hi e => .inr (.inr (.inl e)))) (.inl rfl)
    have hcs := Bk.set hW5.cbk 3 (.int .i64 1)
    have hW6 := hW5.putc 3 (.int .i64 1)
    have c3 := (Bk.c7 hW5.cbk).2.2.2.1
    have f3 := Bk.frozen hW5.cbk 3
    clear hW hA5 hf5 hcs
    go_upto_region 6 with (fail)
    clear c3 f3 hW5
    have hW : Wk w (w5.setCell ⟨cb, 3, none⟩ (.int .i64 1)) b cb v ⟨st1.ls, st1.ef, nb 1⟩ 4 #[.int .i64 0, .string ⟨#[107]⟩, .int .i64 1, .int .i64 1, .int .i64 2, .string ⟨#[]⟩, .string ⟨#[]⟩] [(g3, #[.int .i64 0, .string ⟨#[107]⟩, .int .i64 1, .int .i64 0, .int .i64 2, .int .i64 1]), (g4, #[.int .i64 0, .string ⟨#[107]⟩, .int .i64 1, .int .i64 0, .int .i64 2, .int .i64 1])] := hW6
    clear hW6
    generalize w5.setCell ⟨cb, 3, none⟩ (.int .i64 1) = w6 at *
    go_cut [5, 6] from 18 to 23 (fun t5 t6 wc => ∃ (g5 g6 : Nat) (v' : Value), t5 = .pointer (some ⟨g5, 0, none⟩) ∧ t6 = .pointer (some ⟨g6, 0, none⟩) ∧ Wk w wc b cb v' st2 8 #[.int .i64 0, .string ⟨#[107]⟩, .int .i64 1, .int .i64 1, .int .i64 2, .string ⟨#[]⟩, .string ⟨#[]⟩] [(g5, #[.int .i64 0, .string ⟨#[107]⟩, .int .i64 1, .int .i64 1, .int .i64 2, .int .i64 2]), (g6, #[.int .i64 0, .string ⟨#[107]⟩, .int .i64 1, .int .i64 1, .int .i64 2, .int .i64 3]), (g3, #[.int .i64 0, .string ⟨#[107]⟩, .int .i64 1, .int .i64 0, .int .i64 2, .int .i64 1]), (g4, #[.int .i64 0, .string ⟨#[107]⟩, .int .i64 1, .int .i64 0, .int .i64 2, .int .i64 1])])
    case first =>
      have hW := hW.drew
      refine wp_region_held_drew (S := fun w9 => w9.heap[cb]? = some (.cells #[.int .i64 0, .string ⟨#[107]⟩, .int .i64 1, .int .i64 1, .int .i64 2, .string ⟨#[]⟩, .string ⟨#[]⟩] 28 (0, 0))) (by kernel_rfl) (hW.cbk) (fun hHeld => ?_)
      skip
      refine wpAnyH_take (i := 0) (v := ?_) rfl (by kernel_rfl) (by kernel_rfl) (by kernel_rfl) (fun _ _ _ h => h) (Or.inl ⟨by rfl, ?_⟩) (by assumption) ?_
      rotate_left 1
      focus (intro w hSw; (try dsimp only at hSw); go_simp; (try with_reducible rfl))
      (try simp only [Act.put, List.getElem_toArray, List.getElem_cons_succ, List.getElem_cons_zero, List.setIfInBounds_toArray, List.set_cons_zero, List.set_cons_succ])
      refine wpAnyH_take (i := 1) (v := ?_) rfl (by kernel_rfl) (by kernel_rfl) (by kernel_rfl) (fun _ _ _ h => h) (Or.inl ⟨by rfl, ?_⟩) (by assumption) ?_
      rotate_left 1
      focus (intro w hSw; (try dsimp only at hSw); obtain ⟨k0, k1, k2, k3, k4, k5, k6⟩ := Bk.c7 hSw; go_simp; (try with_reducible rfl))
      (try simp only [Act.put, List.getElem_toArray, List.getElem_cons_succ, List.getElem_cons_zero, List.setIfInBounds_toArray, List.set_cons_zero, List.set_cons_succ])
      refine wpAnyH_take (i := 3) (v := ?_) rfl (by kernel_rfl) (by kernel_rfl) (by kernel_rfl) (fun _ _ _ h => h) (Or.inl ⟨by rfl, ?_⟩) (by assumption) ?_
      rotate_left 1
      focus (intro w hSw; (try dsimp only at hSw); go_simp; (try with_reducible rfl))
      (try simp only [Act.put, List.getElem_toArray, List.getElem_cons_succ, List.getElem_cons_zero, List.setIfInBounds_toArray, List.set_cons_zero, List.set_cons_succ])
      refine wpAnyH_take (i := 4) (v := ?_) rfl (by kernel_rfl) (by kernel_rfl) (by kernel_rfl) (fun _ _ _ h => h) (Or.inl ⟨by rfl, ?_⟩) (by assumption) ?_
      rotate_left 1
      focus (intro w hSw; (try dsimp only at hSw); obtain ⟨k0, k1, k2, k3, k4, k5, k6⟩ := Bk.c7 hSw; go_simp; (try with_reducible rfl))
      (try simp only [Act.put, List.getElem_toArray, List.getElem_cons_succ, List.getElem_cons_zero, List.setIfInBounds_toArray, List.set_cons_zero, List.set_cons_succ])
      refine wpAnyH_ready (rs := [2, 6, 7]) (by kernel_rfl) (by simp) ?_
      refine AllReadyH.cons rfl (fun K hK => ?_) (AllReadyH.cons rfl (fun K hK => ?_) (AllReadyH.cons rfl (fun K hK => ?_) AllReadyH.nil))
      · go_simp
        refine (HD3.out _ _ hW.at_).mono ?_
        rintro e wx ⟨rfl, vx, hAx, hfx, hox⟩
        have hW := hW.call hAx hfx hox
        (try go_wp2_with fail)
        refine hK.out _ _ hW.cbk (fun hHeld => ?_)
        clear hAx hfx hox hK K
        (try simp only [Act.put, List.getElem_toArray, List.getElem_cons_succ, List.getElem_cons_zero, List.setIfInBounds_toArray, List.set_cons_zero, List.set_cons_succ])
        refine wpAnyH_ready (rs := [5, 6, 7]) (by kernel_rfl) (by simp) ?_
        refine AllReadyH.cons rfl (fun K hK => ?_) (AllReadyH.cons rfl (fun K hK => ?_) (AllReadyH.cons rfl (fun K hK => ?_) AllReadyH.nil))
        · go_simp
          refine (HD4.out _ _ hW.at_).mono ?_
          rintro e wx ⟨rfl, vx, hAx, hfx, hox⟩
          have hW := hW.call hAx hfx hox
          (try go_wp2_with fail)
          refine hK.out _ _ hW.cbk (fun hHeld => ?_)
          clear hAx hfx hox hK K
          (try simp only [Act.put, List.getElem_toArray, List.getElem_cons_succ, List.getElem_cons_zero, List.setIfInBounds_toArray, List.set_cons_zero, List.set_cons_succ])
          refine wpAnyH_ready (rs := [6, 7]) (by kernel_rfl) (by simp) ?_
          refine AllReadyH.cons rfl (fun K hK => ?_) (AllReadyH.cons rfl (fun K hK => ?_) AllReadyH.nil)
          · go_simp
            have hW := hW.alloc #[.int .i64 0, .string ⟨#[]⟩, .int .i64 0, .int .i64 0, .int .i64 0, .int .i64 0]
            refine hK.out _ _ hW.cbk (fun hHeld => ?_)
            clear hK K
            (try simp only [Act.put, List.getElem_toArray, List.getElem_cons_succ, List.getElem_cons_zero, List.setIfInBounds_toArray, List.set_cons_zero, List.set_cons_succ])
            refine wpAnyH_ready (rs := [7]) (by kernel_rfl) (by simp) ?_
            refine AllReadyH.cons rfl (fun K hK => ?_) AllReadyH.nil
            · go_simp
              have hW := hW.alloc #[.int .i64 0, .string ⟨#[]⟩, .int .i64 0, .int .i64 0, .int .i64 0, .int .i64 0]
              refine hK.out _ _ hW.cbk (fun hHeld => ?_)
              clear hK K
              (try simp only [Act.put, List.getElem_toArray, List.getElem_cons_succ, List.getElem_cons_zero, List.setIfInBounds_toArray, List.set_cons_zero, List.set_cons_succ])
              refine wpAnyH_ready (rs := [8]) (by kernel_rfl) (by simp) ?_
              refine AllReadyH.cons rfl (fun K hK => ?_) AllReadyH.nil
              rw [if_pos (by rfl)]
              refine hW.store_b (us := #[.int .i64 0, .string ⟨#[107]⟩, .int .i64 1, .int .i64 1, .int .i64 2, .int .i64 2]) (.tmp 5) (.tmp 20) rfl rfl (by first | rfl | simp) rfl rfl rfl (by simp [Value.oneCell']) ?_
              intro wz hW
              refine hK.out _ _ hW.cbk (fun hHeld => ?_)
              clear hK K
              (try simp only [Act.put, List.getElem_toArray, List.getElem_cons_succ, List.getElem_cons_zero, List.setIfInBounds_toArray, List.set_cons_zero, List.set_cons_succ])
              refine wpAnyH_ready (rs := [9]) (by kernel_rfl) (by simp) ?_
              refine AllReadyH.cons rfl (fun K hK => ?_) AllReadyH.nil
              rw [if_pos (by rfl)]
              refine hW.store_a (us := #[.int .i64 0, .string ⟨#[107]⟩, .int .i64 1, .int .i64 1, .int .i64 2, .int .i64 3]) (.tmp 6) (.tmp 23) rfl rfl (by first | rfl | simp) rfl rfl rfl (by simp [Value.oneCell']) ?_
              intro wz hW
              refine hK.out _ _ hW.cbk (fun hHeld => ?_)
              clear hK K
              (try simp only [Act.put, List.getElem_toArray, List.getElem_cons_succ, List.getElem_cons_zero, List.setIfInBounds_toArray, List.set_cons_zero, List.set_cons_succ])
              refine wpAnyH_done (by kernel_rfl) ?_ _
              go_wp2_with fail
              go_meet
              case rel => exact ⟨_, _, _, rfl, rfl, hW.swap.re (by first | rfl | simp) (by first | rfl | simp)⟩
          · go_simp
            have hW := hW.alloc #[.int .i64 0, .string ⟨#[]⟩, .int .i64 0, .int .i64 0, .int .i64 0, .int .i64 0]
            refine hK.out _ _ hW.cbk (fun hHeld => ?_)
            clear hK K
            (try simp only [Act.put, List.getElem_toArray, List.getElem_cons_succ, List.getElem_cons_zero, List.setIfInBounds_toArray, List.set_cons_zero, List.set_cons_succ])
            refine wpAnyH_ready (rs := [6]) (by kernel_rfl) (by simp) ?_
            refine AllReadyH.cons rfl (fun K hK => ?_) AllReadyH.nil
            · go_simp
              have hW := hW.alloc #[.int .i64 0, .string ⟨#[]⟩, .int .i64 0, .int .i64 0, .int .i64 0, .int .i64 0]
              refine hK.out _ _ hW.cbk (fun hHeld => ?_)
              clear hK K
              (try simp only [Act.put, List.getElem_toArray, List.getElem_cons_succ, List.getElem_cons_zero, List.setIfInBounds_toArray, List.set_cons_zero, List.set_cons_succ])
              refine wpAnyH_ready (rs := [8]) (by kernel_rfl) (by simp) ?_
              refine AllReadyH.cons rfl (fun K hK => ?_) AllReadyH.nil
              rw [if_pos (by rfl)]
              refine hW.store_a (us := #[.int .i64 0, .string ⟨#[107]⟩, .int .i64 1, .int .i64 1, .int .i64 2, .int .i64 2]) (.tmp 5) (.tmp 20) rfl rfl (by first | rfl | simp) rfl rfl rfl (by simp [Value.oneCell']) ?_
              intro wz hW
              refine hK.out _ _ hW.cbk (fun hHeld => ?_)
              clear hK K
              (try simp only [Act.put, List.getElem_toArray, List.getElem_cons_succ, List.getElem_cons_zero, List.setIfInBounds_toArray, List.set_cons_zero, List.set_cons_succ])
              refine wpAnyH_ready (rs := [9]) (by kernel_rfl) (by simp) ?_
              refine AllReadyH.cons rfl (fun K hK => ?_) AllReadyH.nil
              rw [if_pos (by rfl)]
              refine hW.store_b (us := #[.int .i64 0, .string ⟨#[107]⟩, .int .i64 1, .int .i64 1, .int .i64 2, .int .i64 3]) (.tmp 6) (.tmp 23) rfl rfl (by first | rfl | simp) rfl rfl rfl (by simp [Value.oneCell']) ?_
              intro wz hW
              refine hK.out _ _ hW.cbk (fun hHeld => ?_)
              clear hK K
              (try simp only [Act.put, List.getElem_toArray, List.getElem_cons_succ, List.getElem_cons_zero, List.setIfInBounds_toArray, List.set_cons_zero, List.set_cons_succ])
              refine wpAnyH_done (by kernel_rfl) ?_ _
              go_wp2_with fail
              go_meet
              case rel => exact ⟨_, _, _, rfl, rfl, hW.re (by first | rfl | simp) (by first | rfl | simp)⟩
        · go_simp
          have hW := hW.alloc #[.int .i64 0, .string ⟨#[]⟩, .int .i64 0, .int .i64 0, .int .i64 0, .int .i64 0]
          refine hK.out _ _ hW.cbk (fun hHeld => ?_)
          clear hK K
          (try simp only [Act.put, List.getElem_toArray, List.getElem_cons_succ, List.getElem_cons_zero, List.setIfInBounds_toArray, List.set_cons_zero, List.set_cons_succ])
          refine wpAnyH_ready (rs := [5, 7]) (by kernel_rfl) (by simp) ?_
          refine AllReadyH.cons rfl (fun K hK => ?_) (AllReadyH.cons rfl (fun K hK => ?_) AllReadyH.nil)
          · go_simp
            refine (HD4.out _ _ hW.at_).mono ?_
            rintro e wx ⟨rfl, vx, hAx, hfx, hox⟩
            have hW := hW.call hAx hfx hox
            (try go_wp2_with fail)
            refine hK.out _ _ hW.cbk (fun hHeld => ?_)
            clear hAx hfx hox hK K
            (try simp only [Act.put, List.getElem_toArray, List.getElem_cons_succ, List.getElem_cons_zero, List.setIfInBounds_toArray, List.set_cons_zero, List.set_cons_succ])
            refine wpAnyH_ready (rs := [7]) (by kernel_rfl) (by simp) ?_
            refine AllReadyH.cons rfl (fun K hK => ?_) AllReadyH.nil
            · go_simp
              have hW := hW.alloc #[.int .i64 0, .string ⟨#[]⟩, .int .i64 0, .int .i64 0, .int .i64 0, .int .i64 0]
              refine hK.out _ _ hW.cbk (fun hHeld => ?_)
              clear hK K
              (try simp only [Act.put, List.getElem_toArray, List.getElem_cons_succ, List.getElem_cons_zero, List.setIfInBounds_toArray, List.set_cons_zero, List.set_cons_succ])
              refine wpAnyH_ready (rs := [8]) (by kernel_rfl) (by simp) ?_
              refine AllReadyH.cons rfl (fun K hK => ?_) AllReadyH.nil
              rw [if_pos (by rfl)]
              refine hW.store_b (us := #[.int .i64 0, .string ⟨#[107]⟩, .int .i64 1, .int .i64 1, .int .i64 2, .int .i64 2]) (.tmp 5) (.tmp 20) rfl rfl (by first | rfl | simp) rfl rfl rfl (by simp [Value.oneCell']) ?_
              intro wz hW
              refine hK.out _ _ hW.cbk (fun hHeld => ?_)
              clear hK K
              (try simp only [Act.put, List.getElem_toArray, List.getElem_cons_succ, List.getElem_cons_zero, List.setIfInBounds_toArray, List.set_cons_zero, List.set_cons_succ])
              refine wpAnyH_ready (rs := [9]) (by kernel_rfl) (by simp) ?_
              refine AllReadyH.cons rfl (fun K hK => ?_) AllReadyH.nil
              rw [if_pos (by rfl)]
              refine hW.store_a (us := #[.int .i64 0, .string ⟨#[107]⟩, .int .i64 1, .int .i64 1, .int .i64 2, .int .i64 3]) (.tmp 6) (.tmp 23) rfl rfl (by first | rfl | simp) rfl rfl rfl (by simp [Value.oneCell']) ?_
              intro wz hW
              refine hK.out _ _ hW.cbk (fun hHeld => ?_)
              clear hK K
              (try simp only [Act.put, List.getElem_toArray, List.getElem_cons_succ, List.getElem_cons_zero, List.setIfInBounds_toArray, List.set_cons_zero, List.set_cons_succ])
              refine wpAnyH_done (by kernel_rfl) ?_ _
              go_wp2_with fail
              go_meet
              case rel => exact ⟨_, _, _, rfl, rfl, hW.swap.re (by first | rfl | simp) (by first | rfl | simp)⟩
          · go_simp
            have hW := hW.alloc #[.int .i64 0, .string ⟨#[]⟩, .int .i64 0, .int .i64 0, .int .i64 0, .int .i64 0]
            refine hK.out _ _ hW.cbk (fun hHeld => ?_)
            clear hK K
            (try simp only [Act.put, List.getElem_toArray, List.getElem_cons_succ, List.getElem_cons_zero, List.setIfInBounds_toArray, List.set_cons_zero, List.set_cons_succ])
            refine wpAnyH_ready (rs := [5]) (by kernel_rfl) (by simp) ?_
            refine AllReadyH.cons rfl (fun K hK => ?_) AllReadyH.nil
            · go_simp
              refine (HD4.out _ _ hW.at_).mono ?_
              rintro e wx ⟨rfl, vx, hAx, hfx, hox⟩
              have hW := hW.call hAx hfx hox
              (try go_wp2_with fail)
              refine hK.out _ _ hW.cbk (fun hHeld => ?_)
              clear hAx hfx hox hK K
              (try simp only [Act.put, List.getElem_toArray, List.getElem_cons_succ, List.getElem_cons_zero, List.setIfInBounds_toArray, List.set_cons_zero, List.set_cons_succ])
              refine wpAnyH_ready (rs := [8]) (by kernel_rfl) (by simp) ?_
              refine AllReadyH.cons rfl (fun K hK => ?_) AllReadyH.nil
              rw [if_pos (by rfl)]
              refine hW.store_b (us := #[.int .i64 0, .string ⟨#[107]⟩, .int .i64 1, .int .i64 1, .int .i64 2, .int .i64 2]) (.tmp 5) (.tmp 20) rfl rfl (by first | rfl | simp) rfl rfl rfl (by simp [Value.oneCell']) ?_
              intro wz hW
              refine hK.out _ _ hW.cbk (fun hHeld => ?_)
              clear hK K
              (try simp only [Act.put, List.getElem_toArray, List.getElem_cons_succ, List.getElem_cons_zero, List.setIfInBounds_toArray, List.set_cons_zero, List.set_cons_succ])
              refine wpAnyH_ready (rs := [9]) (by kernel_rfl) (by simp) ?_
              refine AllReadyH.cons rfl (fun K hK => ?_) AllReadyH.nil
              rw [if_pos (by rfl)]
              refine hW.store_a (us := #[.int .i64 0, .string ⟨#[107]⟩, .int .i64 1, .int .i64 1, .int .i64 2, .int .i64 3]) (.tmp 6) (.tmp 23) rfl rfl (by first | rfl | simp) rfl rfl rfl (by simp [Value.oneCell']) ?_
              intro wz hW
              refine hK.out _ _ hW.cbk (fun hHeld => ?_)
              clear hK K
              (try simp only [Act.put, List.getElem_toArray, List.getElem_cons_succ, List.getElem_cons_zero, List.setIfInBounds_toArray, List.set_cons_zero, List.set_cons_succ])
              refine wpAnyH_done (by kernel_rfl) ?_ _
              go_wp2_with fail
              go_meet
              case rel => exact ⟨_, _, _, rfl, rfl, hW.swap.re (by first | rfl | simp) (by first | rfl | simp)⟩
        · go_simp
          have hW := hW.alloc #[.int .i64 0, .string ⟨#[]⟩, .int .i64 0, .int .i64 0, .int .i64 0, .int .i64 0]
          refine hK.out _ _ hW.cbk (fun hHeld => ?_)
          clear hK K
          (try simp only [Act.put, List.getElem_toArray, List.getElem_cons_succ, List.getElem_cons_zero, List.setIfInBounds_toArray, List.set_cons_zero, List.set_cons_succ])
          refine wpAnyH_ready (rs := [5, 6]) (by kernel_rfl) (by simp) ?_
          refine AllReadyH.cons rfl (fun K hK => ?_) (AllReadyH.cons rfl (fun K hK => ?_) AllReadyH.nil)
          · go_simp
            refine (HD4.out _ _ hW.at_).mono ?_
            rintro e wx ⟨rfl, vx, hAx, hfx, hox⟩
            have hW := hW.call hAx hfx hox
            (try go_wp2_with fail)
            refine hK.out _ _ hW.cbk (fun hHeld => ?_)
            clear hAx hfx hox hK K
            (try simp only [Act.put, List.getElem_toArray, List.getElem_cons_succ, List.getElem_cons_zero, List.setIfInBounds_toArray, List.set_cons_zero, List.set_cons_succ])
            refine wpAnyH_ready (rs := [6]) (by kernel_rfl) (by simp) ?_
            refine AllReadyH.cons rfl (fun K hK => ?_) AllReadyH.nil
            · go_simp
              have hW := hW.alloc #[.int .i64 0, .string ⟨#[]⟩, .int .i64 0, .int .i64 0, .int .i64 0, .int .i64 0]
              refine hK.out _ _ hW.cbk (fun hHeld => ?_)
              clear hK K
              (try simp only [Act.put, List.getElem_toArray, List.getElem_cons_succ, List.getElem_cons_zero, List.setIfInBounds_toArray, List.set_cons_zero, List.set_cons_succ])
              refine wpAnyH_ready (rs := [8]) (by kernel_rfl) (by simp) ?_
              refine AllReadyH.cons rfl (fun K hK => ?_) AllReadyH.nil
              rw [if_pos (by rfl)]
              refine hW.store_a (us := #[.int .i64 0, .string ⟨#[107]⟩, .int .i64 1, .int .i64 1, .int .i64 2, .int .i64 2]) (.tmp 5) (.tmp 20) rfl rfl (by first | rfl | simp) rfl rfl rfl (by simp [Value.oneCell']) ?_
              intro wz hW
              refine hK.out _ _ hW.cbk (fun hHeld => ?_)
              clear hK K
              (try simp only [Act.put, List.getElem_toArray, List.getElem_cons_succ, List.getElem_cons_zero, List.setIfInBounds_toArray, List.set_cons_zero, List.set_cons_succ])
              refine wpAnyH_ready (rs := [9]) (by kernel_rfl) (by simp) ?_
              refine AllReadyH.cons rfl (fun K hK => ?_) AllReadyH.nil
              rw [if_pos (by rfl)]
              refine hW.store_b (us := #[.int .i64 0, .string ⟨#[107]⟩, .int .i64 1, .int .i64 1, .int .i64 2, .int .i64 3]) (.tmp 6) (.tmp 23) rfl rfl (by first | rfl | simp) rfl rfl rfl (by simp [Value.oneCell']) ?_
              intro wz hW
              refine hK.out _ _ hW.cbk (fun hHeld => ?_)
              clear hK K
              (try simp only [Act.put, List.getElem_toArray, List.getElem_cons_succ, List.getElem_cons_zero, List.setIfInBounds_toArray, List.set_cons_zero, List.set_cons_succ])
              refine wpAnyH_done (by kernel_rfl) ?_ _
              go_wp2_with fail
              go_meet
              case rel => exact ⟨_, _, _, rfl, rfl, hW.re (by first | rfl | simp) (by first | rfl | simp)⟩
          · go_simp
            have hW := hW.alloc #[.int .i64 0, .string ⟨#[]⟩, .int .i64 0, .int .i64 0, .int .i64 0, .int .i64 0]
            refine hK.out _ _ hW.cbk (fun hHeld => ?_)
            clear hK K
            (try simp only [Act.put, List.getElem_toArray, List.getElem_cons_succ, List.getElem_cons_zero, List.setIfInBounds_toArray, List.set_cons_zero, List.set_cons_succ])
            refine wpAnyH_ready (rs := [5]) (by kernel_rfl) (by simp) ?_
            refine AllReadyH.cons rfl (fun K hK => ?_) AllReadyH.nil
            · go_simp
              refine (HD4.out _ _ hW.at_).mono ?_
              rintro e wx ⟨rfl, vx, hAx, hfx, hox⟩
              have hW := hW.call hAx hfx hox
              (try go_wp2_with fail)
              refine hK.out _ _ hW.cbk (fun hHeld => ?_)
              clear hAx hfx hox hK K
              (try simp only [Act.put, List.getElem_toArray, List.getElem_cons_succ, List.getElem_cons_zero, List.setIfInBounds_toArray, List.set_cons_zero, List.set_cons_succ])
              refine wpAnyH_ready (rs := [8]) (by kernel_rfl) (by simp) ?_
              refine AllReadyH.cons rfl (fun K hK => ?_) AllReadyH.nil
              rw [if_pos (by rfl)]
              refine hW.store_a (us := #[.int .i64 0, .string ⟨#[107]⟩, .int .i64 1, .int .i64 1, .int .i64 2, .int .i64 2]) (.tmp 5) (.tmp 20) rfl rfl (by first | rfl | simp) rfl rfl rfl (by simp [Value.oneCell']) ?_
              intro wz hW
              refine hK.out _ _ hW.cbk (fun hHeld => ?_)
              clear hK K
              (try simp only [Act.put, List.getElem_toArray, List.getElem_cons_succ, List.getElem_cons_zero, List.setIfInBounds_toArray, List.set_cons_zero, List.set_cons_succ])
              refine wpAnyH_ready (rs := [9]) (by kernel_rfl) (by simp) ?_
              refine AllReadyH.cons rfl (fun K hK => ?_) AllReadyH.nil
              rw [if_pos (by rfl)]
              refine hW.store_b (us := #[.int .i64 0, .string ⟨#[107]⟩, .int .i64 1, .int .i64 1, .int .i64 2, .int .i64 3]) (.tmp 6) (.tmp 23) rfl rfl (by first | rfl | simp) rfl rfl rfl (by simp [Value.oneCell']) ?_
              intro wz hW
              refine hK.out _ _ hW.cbk (fun hHeld => ?_)
              clear hK K
              (try simp only [Act.put, List.getElem_toArray, List.getElem_cons_succ, List.getElem_cons_zero, List.setIfInBounds_toArray, List.set_cons_zero, List.set_cons_succ])
              refine wpAnyH_done (by kernel_rfl) ?_ _
              go_wp2_with fail
              go_meet
              case rel => exact ⟨_, _, _, rfl, rfl, hW.re (by first | rfl | simp) (by first | rfl | simp)⟩
      · go_simp
        have hW := hW.alloc #[.int .i64 0, .string ⟨#[]⟩, .int .i64 0, .int .i64 0, .int .i64 0, .int .i64 0]
        refine hK.out _ _ hW.cbk (fun hHeld => ?_)
        clear hK K
        (try simp only [Act.put, List.getElem_toArray, List.getElem_cons_succ, List.getElem_cons_zero, List.setIfInBounds_toArray, List.set_cons_zero, List.set_cons_succ])
        refine wpAnyH_ready (rs := [2, 7]) (by kernel_rfl) (by simp) ?_
        refine AllReadyH.cons rfl (fun K hK => ?_) (AllReadyH.cons rfl (fun K hK => ?_) AllReadyH.nil)
        · go_simp
          refine (HD3.out _ _ hW.at_).mono ?_
          rintro e wx ⟨rfl, vx, hAx, hfx, hox⟩
          have hW := hW.call hAx hfx hox
          (try go_wp2_with fail)
          refine hK.out _ _ hW.cbk (fun hHeld => ?_)
          clear hAx hfx hox hK K
          (try simp only [Act.put, List.getElem_toArray, List.getElem_cons_succ, List.getElem_cons_zero, List.setIfInBounds_toArray, List.set_cons_zero, List.set_cons_succ])
          refine wpAnyH_ready (rs := [5, 7]) (by kernel_rfl) (by simp) ?_
          refine AllReadyH.cons rfl (fun K hK => ?_) (AllReadyH.cons rfl (fun K hK => ?_) AllReadyH.nil)
          · go_simp
            refine (HD4.out _ _ hW.at_).mono ?_
            rintro e wx ⟨rfl, vx, hAx, hfx, hox⟩
            have hW := hW.call hAx hfx hox
            (try go_wp2_with fail)
            refine hK.out _ _ hW.cbk (fun hHeld => ?_)
            clear hAx hfx hox hK K
            (try simp only [Act.put, List.getElem_toArray, List.getElem_cons_succ, List.getElem_cons_zero, List.setIfInBounds_toArray, List.set_cons_zero, List.set_cons_succ])
            refine wpAnyH_ready (rs := [7]) (by kernel_rfl) (by simp) ?_
            refine AllReadyH.cons rfl (fun K hK => ?_) AllReadyH.nil
            · go_simp
              have hW := hW.alloc #[.int .i64 0, .string ⟨#[]⟩, .int .i64 0, .int .i64 0, .int .i64 0, .int .i64 0]
              refine hK.out _ _ hW.cbk (fun hHeld => ?_)
              clear hK K
              (try simp only [Act.put, List.getElem_toArray, List.getElem_cons_succ, List.getElem_cons_zero, List.setIfInBounds_toArray, List.set_cons_zero, List.set_cons_succ])
              refine wpAnyH_ready (rs := [8]) (by kernel_rfl) (by simp) ?_
              refine AllReadyH.cons rfl (fun K hK => ?_) AllReadyH.nil
              rw [if_pos (by rfl)]
              refine hW.store_b (us := #[.int .i64 0, .string ⟨#[107]⟩, .int .i64 1, .int .i64 1, .int .i64 2, .int .i64 2]) (.tmp 5) (.tmp 20) rfl rfl (by first | rfl | simp) rfl rfl rfl (by simp [Value.oneCell']) ?_
              intro wz hW
              refine hK.out _ _ hW.cbk (fun hHeld => ?_)
              clear hK K
              (try simp only [Act.put, List.getElem_toArray, List.getElem_cons_succ, List.getElem_cons_zero, List.setIfInBounds_toArray, List.set_cons_zero, List.set_cons_succ])
              refine wpAnyH_ready (rs := [9]) (by kernel_rfl) (by simp) ?_
              refine AllReadyH.cons rfl (fun K hK => ?_) AllReadyH.nil
              rw [if_pos (by rfl)]
              refine hW.store_a (us := #[.int .i64 0, .string ⟨#[107]⟩, .int .i64 1, .int .i64 1, .int .i64 2, .int .i64 3]) (.tmp 6) (.tmp 23) rfl rfl (by first | rfl | simp) rfl rfl rfl (by simp [Value.oneCell']) ?_
              intro wz hW
              refine hK.out _ _ hW.cbk (fun hHeld => ?_)
              clear hK K
              (try simp only [Act.put, List.getElem_toArray, List.getElem_cons_succ, List.getElem_cons_zero, List.setIfInBounds_toArray, List.set_cons_zero, List.set_cons_succ])
              refine wpAnyH_done (by kernel_rfl) ?_ _
              go_wp2_with fail
              go_meet
              case rel => exact ⟨_, _, _, rfl, rfl, hW.swap.re (by first | rfl | simp) (by first | rfl | simp)⟩
          · go_simp
            have hW := hW.alloc #[.int .i64 0, .string ⟨#[]⟩, .int .i64 0, .int .i64 0, .int .i64 0, .int .i64 0]
            refine hK.out _ _ hW.cbk (fun hHeld => ?_)
            clear hK K
            (try simp only [Act.put, List.getElem_toArray, List.getElem_cons_succ, List.getElem_cons_zero, List.setIfInBounds_toArray, List.set_cons_zero, List.set_cons_succ])
            refine wpAnyH_ready (rs := [5]) (by kernel_rfl) (by simp) ?_
            refine AllReadyH.cons rfl (fun K hK => ?_) AllReadyH.nil
            · go_simp
              refine (HD4.out _ _ hW.at_).mono ?_
              rintro e wx ⟨rfl, vx, hAx, hfx, hox⟩
              have hW := hW.call hAx hfx hox
              (try go_wp2_with fail)
              refine hK.out _ _ hW.cbk (fun hHeld => ?_)
              clear hAx hfx hox hK K
              (try simp only [Act.put, List.getElem_toArray, List.getElem_cons_succ, List.getElem_cons_zero, List.setIfInBounds_toArray, List.set_cons_zero, List.set_cons_succ])
              refine wpAnyH_ready (rs := [8]) (by kernel_rfl) (by simp) ?_
              refine AllReadyH.cons rfl (fun K hK => ?_) AllReadyH.nil
              rw [if_pos (by rfl)]
              refine hW.store_b (us := #[.int .i64 0, .string ⟨#[107]⟩, .int .i64 1, .int .i64 1, .int .i64 2, .int .i64 2]) (.tmp 5) (.tmp 20) rfl rfl (by first | rfl | simp) rfl rfl rfl (by simp [Value.oneCell']) ?_
              intro wz hW
              refine hK.out _ _ hW.cbk (fun hHeld => ?_)
              clear hK K
              (try simp only [Act.put, List.getElem_toArray, List.getElem_cons_succ, List.getElem_cons_zero, List.setIfInBounds_toArray, List.set_cons_zero, List.set_cons_succ])
              refine wpAnyH_ready (rs := [9]) (by kernel_rfl) (by simp) ?_
              refine AllReadyH.cons rfl (fun K hK => ?_) AllReadyH.nil
              rw [if_pos (by rfl)]
              refine hW.store_a (us := #[.int .i64 0, .string ⟨#[107]⟩, .int .i64 1, .int .i64 1, .int .i64 2, .int .i64 3]) (.tmp 6) (.tmp 23) rfl rfl (by first | rfl | simp) rfl rfl rfl (by simp [Value.oneCell']) ?_
              intro wz hW
              refine hK.out _ _ hW.cbk (fun hHeld => ?_)
              clear hK K
              (try simp only [Act.put, List.getElem_toArray, List.getElem_cons_succ, List.getElem_cons_zero, List.setIfInBounds_toArray, List.set_cons_zero, List.set_cons_succ])
              refine wpAnyH_done (by kernel_rfl) ?_ _
              go_wp2_with fail
              go_meet
              case rel => exact ⟨_, _, _, rfl, rfl, hW.swap.re (by first | rfl | simp) (by first | rfl | simp)⟩
        · go_simp
          have hW := hW.alloc #[.int .i64 0, .string ⟨#[]⟩, .int .i64 0, .int .i64 0, .int .i64 0, .int .i64 0]
          refine hK.out _ _ hW.cbk (fun hHeld => ?_)
          clear hK K
          (try simp only [Act.put, List.getElem_toArray, List.getElem_cons_succ, List.getElem_cons_zero, List.setIfInBounds_toArray, List.set_cons_zero, List.set_cons_succ])
          refine wpAnyH_ready (rs := [2]) (by kernel_rfl) (by simp) ?_
          refine AllReadyH.cons rfl (fun K hK => ?_) AllReadyH.nil
          · go_simp
            refine (HD3.out _ _ hW.at_).mono ?_
            rintro e wx ⟨rfl, vx, hAx, hfx, hox⟩
            have hW := hW.call hAx hfx hox
            (try go_wp2_with fail)
            refine hK.out _ _ hW.cbk (fun hHeld => ?_)
            clear hAx hfx hox hK K
            (try simp only [Act.put, List.getElem_toArray, List.getElem_cons_succ, List.getElem_cons_zero, List.setIfInBounds_toArray, List.set_cons_zero, List.set_cons_succ])
            refine wpAnyH_ready (rs := [5]) (by kernel_rfl) (by simp) ?_
            refine AllReadyH.cons rfl (fun K hK => ?_) AllReadyH.nil
            · go_simp
              refine (HD4.out _ _ hW.at_).mono ?_
              rintro e wx ⟨rfl, vx, hAx, hfx, hox⟩
              have hW := hW.call hAx hfx hox
              (try go_wp2_with fail)
              refine hK.out _ _ hW.cbk (fun hHeld => ?_)
              clear hAx hfx hox hK K
              (try simp only [Act.put, List.getElem_toArray, List.getElem_cons_succ, List.getElem_cons_zero, List.setIfInBounds_toArray, List.set_cons_zero, List.set_cons_succ])
              refine wpAnyH_ready (rs := [8]) (by kernel_rfl) (by simp) ?_
              refine AllReadyH.cons rfl (fun K hK => ?_) AllReadyH.nil
              rw [if_pos (by rfl)]
              refine hW.store_b (us := #[.int .i64 0, .string ⟨#[107]⟩, .int .i64 1, .int .i64 1, .int .i64 2, .int .i64 2]) (.tmp 5) (.tmp 20) rfl rfl (by first | rfl | simp) rfl rfl rfl (by simp [Value.oneCell']) ?_
              intro wz hW
              refine hK.out _ _ hW.cbk (fun hHeld => ?_)
              clear hK K
              (try simp only [Act.put, List.getElem_toArray, List.getElem_cons_succ, List.getElem_cons_zero, List.setIfInBounds_toArray, List.set_cons_zero, List.set_cons_succ])
              refine wpAnyH_ready (rs := [9]) (by kernel_rfl) (by simp) ?_
              refine AllReadyH.cons rfl (fun K hK => ?_) AllReadyH.nil
              rw [if_pos (by rfl)]
              refine hW.store_a (us := #[.int .i64 0, .string ⟨#[107]⟩, .int .i64 1, .int .i64 1, .int .i64 2, .int .i64 3]) (.tmp 6) (.tmp 23) rfl rfl (by first | rfl | simp) rfl rfl rfl (by simp [Value.oneCell']) ?_
              intro wz hW
              refine hK.out _ _ hW.cbk (fun hHeld => ?_)
              clear hK K
              (try simp only [Act.put, List.getElem_toArray, List.getElem_cons_succ, List.getElem_cons_zero, List.setIfInBounds_toArray, List.set_cons_zero, List.set_cons_succ])
              refine wpAnyH_done (by kernel_rfl) ?_ _
              go_wp2_with fail
              go_meet
              case rel => exact ⟨_, _, _, rfl, rfl, hW.swap.re (by first | rfl | simp) (by first | rfl | simp)⟩
      · go_simp
        have hW := hW.alloc #[.int .i64 0, .string ⟨#[]⟩, .int .i64 0, .int .i64 0, .int .i64 0, .int .i64 0]
        refine hK.out _ _ hW.cbk (fun hHeld => ?_)
        clear hK K
        (try simp only [Act.put, List.getElem_toArray, List.getElem_cons_succ, List.getElem_cons_zero, List.setIfInBounds_toArray, List.set_cons_zero, List.set_cons_succ])
        refine wpAnyH_ready (rs := [2, 6]) (by kernel_rfl) (by simp) ?_
        refine AllReadyH.cons rfl (fun K hK => ?_) (AllReadyH.cons rfl (fun K hK => ?_) AllReadyH.nil)
        · go_simp
          refine (HD3.out _ _ hW.at_).mono ?_
          rintro e wx ⟨rfl, vx, hAx, hfx, hox⟩
          have hW := hW.call hAx hfx hox
          (try go_wp2_with fail)
          refine hK.out _ _ hW.cbk (fun hHeld => ?_)
          clear hAx hfx hox hK K
          (try simp only [Act.put, List.getElem_toArray, List.getElem_cons_succ, List.getElem_cons_zero, List.setIfInBounds_toArray, List.set_cons_zero, List.set_cons_succ])
          refine wpAnyH_ready (rs := [5, 6]) (by kernel_rfl) (by simp) ?_
          refine AllReadyH.cons rfl (fun K hK => ?_) (AllReadyH.cons rfl (fun K hK => ?_) AllReadyH.nil)
          · go_simp
            refine (HD4.out _ _ hW.at_).mono ?_
            rintro e wx ⟨rfl, vx, hAx, hfx, hox⟩
            have hW := hW.call hAx hfx hox
            (try go_wp2_with fail)
            refine hK.out _ _ hW.cbk (fun hHeld => ?_)
            clear hAx hfx hox hK K
            (try simp only [Act.put, List.getElem_toArray, List.getElem_cons_succ, List.getElem_cons_zero, List.setIfInBounds_toArray, List.set_cons_zero, List.set_cons_succ])
            refine wpAnyH_ready (rs := [6]) (by kernel_rfl) (by simp) ?_
            refine AllReadyH.cons rfl (fun K hK => ?_) AllReadyH.nil
            · go_simp
              have hW := hW.alloc #[.int .i64 0, .string ⟨#[]⟩, .int .i64 0, .int .i64 0, .int .i64 0, .int .i64 0]
              refine hK.out _ _ hW.cbk (fun hHeld => ?_)
              clear hK K
              (try simp only [Act.put, List.getElem_toArray, List.getElem_cons_succ, List.getElem_cons_zero, List.setIfInBounds_toArray, List.set_cons_zero, List.set_cons_succ])
              refine wpAnyH_ready (rs := [8]) (by kernel_rfl) (by simp) ?_
              refine AllReadyH.cons rfl (fun K hK => ?_) AllReadyH.nil
              rw [if_pos (by rfl)]
              refine hW.store_a (us := #[.int .i64 0, .string ⟨#[107]⟩, .int .i64 1, .int .i64 1, .int .i64 2, .int .i64 2]) (.tmp 5) (.tmp 20) rfl rfl (by first | rfl | simp) rfl rfl rfl (by simp [Value.oneCell']) ?_
              intro wz hW
              refine hK.out _ _ hW.cbk (fun hHeld => ?_)
              clear hK K
              (try simp only [Act.put, List.getElem_toArray, List.getElem_cons_succ, List.getElem_cons_zero, List.setIfInBounds_toArray, List.set_cons_zero, List.set_cons_succ])
              refine wpAnyH_ready (rs := [9]) (by kernel_rfl) (by simp) ?_
              refine AllReadyH.cons rfl (fun K hK => ?_) AllReadyH.nil
              rw [if_pos (by rfl)]
              refine hW.store_b (us := #[.int .i64 0, .string ⟨#[107]⟩, .int .i64 1, .int .i64 1, .int .i64 2, .int .i64 3]) (.tmp 6) (.tmp 23) rfl rfl (by first | rfl | simp) rfl rfl rfl (by simp [Value.oneCell']) ?_
              intro wz hW
              refine hK.out _ _ hW.cbk (fun hHeld => ?_)
              clear hK K
              (try simp only [Act.put, List.getElem_toArray, List.getElem_cons_succ, List.getElem_cons_zero, List.setIfInBounds_toArray, List.set_cons_zero, List.set_cons_succ])
              refine wpAnyH_done (by kernel_rfl) ?_ _
              go_wp2_with fail
              go_meet
              case rel => exact ⟨_, _, _, rfl, rfl, hW.re (by first | rfl | simp) (by first | rfl | simp)⟩
          · go_simp
            have hW := hW.alloc #[.int .i64 0, .string ⟨#[]⟩, .int .i64 0, .int .i64 0, .int .i64 0, .int .i64 0]
            refine hK.out _ _ hW.cbk (fun hHeld => ?_)
            clear hK K
            (try simp only [Act.put, List.getElem_toArray, List.getElem_cons_succ, List.getElem_cons_zero, List.setIfInBounds_toArray, List.set_cons_zero, List.set_cons_succ])
            refine wpAnyH_ready (rs := [5]) (by kernel_rfl) (by simp) ?_
            refine AllReadyH.cons rfl (fun K hK => ?_) AllReadyH.nil
            · go_simp
              refine (HD4.out _ _ hW.at_).mono ?_
              rintro e wx ⟨rfl, vx, hAx, hfx, hox⟩
              have hW := hW.call hAx hfx hox
              (try go_wp2_with fail)
              refine hK.out _ _ hW.cbk (fun hHeld => ?_)
              clear hAx hfx hox hK K
              (try simp only [Act.put, List.getElem_toArray, List.getElem_cons_succ, List.getElem_cons_zero, List.setIfInBounds_toArray, List.set_cons_zero, List.set_cons_succ])
              refine wpAnyH_ready (rs := [8]) (by kernel_rfl) (by simp) ?_
              refine AllReadyH.cons rfl (fun K hK => ?_) AllReadyH.nil
              rw [if_pos (by rfl)]
              refine hW.store_a (us := #[.int .i64 0, .string ⟨#[107]⟩, .int .i64 1, .int .i64 1, .int .i64 2, .int .i64 2]) (.tmp 5) (.tmp 20) rfl rfl (by first | rfl | simp) rfl rfl rfl (by simp [Value.oneCell']) ?_
              intro wz hW
              refine hK.out _ _ hW.cbk (fun hHeld => ?_)
              clear hK K
              (try simp only [Act.put, List.getElem_toArray, List.getElem_cons_succ, List.getElem_cons_zero, List.setIfInBounds_toArray, List.set_cons_zero, List.set_cons_succ])
              refine wpAnyH_ready (rs := [9]) (by kernel_rfl) (by simp) ?_
              refine AllReadyH.cons rfl (fun K hK => ?_) AllReadyH.nil
              rw [if_pos (by rfl)]
              refine hW.store_b (us := #[.int .i64 0, .string ⟨#[107]⟩, .int .i64 1, .int .i64 1, .int .i64 2, .int .i64 3]) (.tmp 6) (.tmp 23) rfl rfl (by first | rfl | simp) rfl rfl rfl (by simp [Value.oneCell']) ?_
              intro wz hW
              refine hK.out _ _ hW.cbk (fun hHeld => ?_)
              clear hK K
              (try simp only [Act.put, List.getElem_toArray, List.getElem_cons_succ, List.getElem_cons_zero, List.setIfInBounds_toArray, List.set_cons_zero, List.set_cons_succ])
              refine wpAnyH_done (by kernel_rfl) ?_ _
              go_wp2_with fail
              go_meet
              case rel => exact ⟨_, _, _, rfl, rfl, hW.re (by first | rfl | simp) (by first | rfl | simp)⟩
        · go_simp
          have hW := hW.alloc #[.int .i64 0, .string ⟨#[]⟩, .int .i64 0, .int .i64 0, .int .i64 0, .int .i64 0]
          refine hK.out _ _ hW.cbk (fun hHeld => ?_)
          clear hK K
          (try simp only [Act.put, List.getElem_toArray, List.getElem_cons_succ, List.getElem_cons_zero, List.setIfInBounds_toArray, List.set_cons_zero, List.set_cons_succ])
          refine wpAnyH_ready (rs := [2]) (by kernel_rfl) (by simp) ?_
          refine AllReadyH.cons rfl (fun K hK => ?_) AllReadyH.nil
          · go_simp
            refine (HD3.out _ _ hW.at_).mono ?_
            rintro e wx ⟨rfl, vx, hAx, hfx, hox⟩
            have hW := hW.call hAx hfx hox
            (try go_wp2_with fail)
            refine hK.out _ _ hW.cbk (fun hHeld => ?_)
            clear hAx hfx hox hK K
            (try simp only [Act.put, List.getElem_toArray, List.getElem_cons_succ, List.getElem_cons_zero, List.setIfInBounds_toArray, List.set_cons_zero, List.set_cons_succ])
            refine wpAnyH_ready (rs := [5]) (by kernel_rfl) (by simp) ?_
            refine AllReadyH.cons rfl (fun K hK => ?_) AllReadyH.nil
            · go_simp
              refine (HD4.out _ _ hW.at_).mono ?_
              rintro e wx ⟨rfl, vx, hAx, hfx, hox⟩
              have hW := hW.call hAx hfx hox
              (try go_wp2_with fail)
              refine hK.out _ _ hW.cbk (fun hHeld => ?_)
              clear hAx hfx hox hK K
              (try simp only [Act.put, List.getElem_toArray, List.getElem_cons_succ, List.getElem_cons_zero, List.setIfInBounds_toArray, List.set_cons_zero, List.set_cons_succ])
              refine wpAnyH_ready (rs := [8]) (by kernel_rfl) (by simp) ?_
              refine AllReadyH.cons rfl (fun K hK => ?_) AllReadyH.nil
              rw [if_pos (by rfl)]
              refine hW.store_a (us := #[.int .i64 0, .string ⟨#[107]⟩, .int .i64 1, .int .i64 1, .int .i64 2, .int .i64 2]) (.tmp 5) (.tmp 20) rfl rfl (by first | rfl | simp) rfl rfl rfl (by simp [Value.oneCell']) ?_
              intro wz hW
              refine hK.out _ _ hW.cbk (fun hHeld => ?_)
              clear hK K
              (try simp only [Act.put, List.getElem_toArray, List.getElem_cons_succ, List.getElem_cons_zero, List.setIfInBounds_toArray, List.set_cons_zero, List.set_cons_succ])
              refine wpAnyH_ready (rs := [9]) (by kernel_rfl) (by simp) ?_
              refine AllReadyH.cons rfl (fun K hK => ?_) AllReadyH.nil
              rw [if_pos (by rfl)]
              refine hW.store_b (us := #[.int .i64 0, .string ⟨#[107]⟩, .int .i64 1, .int .i64 1, .int .i64 2, .int .i64 3]) (.tmp 6) (.tmp 23) rfl rfl (by first | rfl | simp) rfl rfl rfl (by simp [Value.oneCell']) ?_
              intro wz hW
              refine hK.out _ _ hW.cbk (fun hHeld => ?_)
              clear hK K
              (try simp only [Act.put, List.getElem_toArray, List.getElem_cons_succ, List.getElem_cons_zero, List.setIfInBounds_toArray, List.set_cons_zero, List.set_cons_succ])
              refine wpAnyH_done (by kernel_rfl) ?_ _
              go_wp2_with fail
              go_meet
              case rel => exact ⟨_, _, _, rfl, rfl, hW.re (by first | rfl | simp) (by first | rfl | simp)⟩
    case rest =>
      clear hW
      obtain ⟨g5, g6, v', rfl, rfl, hW⟩ := hcut
      obtain ⟨a0, a1, a2, a3, a4, a5⟩ := Bk.c6 (hW.blks (g3, #[.int .i64 0, .string ⟨#[107]⟩, .int .i64 1, .int .i64 0, .int .i64 2, .int .i64 1]) (by simp)).1
      obtain ⟨b0, b1, b2, b3, b4, b5⟩ := Bk.c6 (hW.blks (g4, #[.int .i64 0, .string ⟨#[107]⟩, .int .i64 1, .int .i64 0, .int .i64 2, .int .i64 1]) (by simp)).1
      obtain ⟨d0, d1, d2, d3, d4, d5⟩ := Bk.c6 (hW.blks (g5, #[.int .i64 0, .string ⟨#[107]⟩, .int .i64 1, .int .i64 1, .int .i64 2, .int .i64 2]) (by simp)).1
      obtain ⟨e0, e1, e2, e3, e4, e5⟩ := Bk.c6 (hW.blks (g6, #[.int .i64 0, .string ⟨#[107]⟩, .int .i64 1, .int .i64 1, .int .i64 2, .int .i64 3]) (by simp)).1
      have hEF := effects_any hW.at_ (by decide)
      have HEF := Lib.hid hEF
      have hFin := hW.frm
      have heq : ∀ w, (binOp .eql 33 (.agg #[.int .i64 0, .string ⟨#[107]⟩, .int .i64 1, .int .i64 0, .int .i64 2, .int .i64 1]) (.agg #[.int .i64 0, .string ⟨#[107]⟩, .int .i64 1, .int .i64 0, .int .i64 2, .int .i64 1])).run Try.prog w = .ok (.bool true) w := fun w => by rfl
      clear hEF hW
      go_wp2_with fail
      refine HEF.out.mono ?_
      rintro e w9 ⟨u, rfl, ho, hf9⟩
      obtain ⟨gu, cu, rfl⟩ := owns_form (n := 0) ho
      go_wp2_with fail
      go_ret
      exact ⟨rfl, hFin.trans hf9⟩
end Bk25
end Go.Proofs.Yteokiiolchpndaa
