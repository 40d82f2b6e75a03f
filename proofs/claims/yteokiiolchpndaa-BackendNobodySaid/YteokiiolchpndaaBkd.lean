/- Backend: Do and Effects. -/
import Derived.Test.YteokiiolchpndaaBkc
import Derived.Lib.Walk
namespace Go.Proofs.Yteokiiolchpndaa
open Go.RowKit Go.ChangeShapes Go.WideShapes Go.Maps
set_option linter.unusedVariables false
set_option linter.unusedSimpArgs false
set_option maxRecDepth 100000
namespace Bk25
def Ca.reply (c : Ca) (x : Int) : List Value := [.int .i64 c.tenant, .string c.key, .int .i64 c.epoch, .int .i64 c.phase, .int .i64 c.token, .int .i64 x]
theorem iR : (Try.prog.info? 33).map (·.size) = some 6 := by kernel_rfl
theorem reply_one (c : Ca) (x : Int) : (Ca.reply c x).toArray.toList.all (·.oneCell') = true := by rfl
set_option maxHeartbeats 2000000 in
theorem do_nil (c : Ca) (w : World) : Calls Try.prog 14 #[.pointer none, .agg #[.int .i64 c.tenant, .string c.key, .int .i64 c.epoch, .int .i64 c.phase, .int .i64 c.token, .string c.name, .string c.body]] w fun e w' => e = .returned (.agg (Ca.reply c 0).toArray) ∧ Frm0 w w' := by
  go_enter Try.func14, Try.ntmps14
  go_wp2_with fail
  have hb := Bk.alloc (new_second w (.cells #[.int .i64 c.tenant, .string c.key, .int .i64 c.epoch, .int .i64 c.phase, .int .i64 c.token, .string c.name, .string c.body] 28) (.cells #[.int .i64 c.tenant, .string c.key, .int .i64 c.epoch, .int .i64 c.phase, .int .i64 c.token, .int .i64 0] 33)) (.cells #[.int .i64 c.tenant, .string c.key, .int .i64 c.epoch, .int .i64 c.phase, .int .i64 c.token, .int .i64 0] 33)
  have hf := (((Frm.refl (fun _ => False) w).alloc (.cells #[.int .i64 c.tenant, .string c.key, .int .i64 c.epoch, .int .i64 c.phase, .int .i64 c.token, .string c.name, .string c.body] 28)).alloc (.cells #[.int .i64 c.tenant, .string c.key, .int .i64 c.epoch, .int .i64 c.phase, .int .i64 c.token, .int .i64 0] 33)).alloc (.cells #[.int .i64 c.tenant, .string c.key, .int .i64 c.epoch, .int .i64 c.phase, .int .i64 c.token, .int .i64 0] 33)
  refine ret_cell (l := Ca.reply c 0) rfl Try.underlying33 rfl iR hb rfl rfl rfl ?_
  exact ⟨rfl, hf⟩
theorem code_to {w : World} {b N : Nat} {v : Value} {s s' : St} {x : Int} (c : Ca) (h : At w b v s N) (hN : N + 2 < 1000000) (hef : s.ef.length ≤ 1000) (hk : Kok c.tenant c.key c.epoch) (hp : (Lit.int .i64 c.phase).wf = true) (hx : call s c = (s', x)) :
    Calls Try.prog 51 #[.pointer (some ⟨b + 2, 0, none⟩), .agg #[.int .i64 c.tenant, .string c.key, .int .i64 c.epoch, .int .i64 c.phase, .int .i64 c.token, .string c.name, .string c.body]] w fun e w' =>
      e = .returned (.int .i64 x) ∧ ∃ v', At w' b v' s' (N + 2) ∧ Frm (fp b v) w w' ∧ (v'.ownBlock = v.ownBlock ∨ ∀ k, v'.ownBlock = some k → w.heap.size ≤ k) := by
  have := code_any c h hN hef hk hp
  rw [hx] at this
  exact this
set_option maxHeartbeats 2000000 in
theorem do_to {w : World} {b N : Nat} {v : Value} {s s' : St} {x : Int} (c : Ca) (h : At w b v s N) (hN : N + 2 < 1000000) (hef : s.ef.length ≤ 1000) (hk : Kok c.tenant c.key c.epoch) (hp : (Lit.int .i64 c.phase).wf = true) (hx : call s c = (s', x)) :
    Calls Try.prog 14 #[.pointer (some ⟨b + 2, 0, none⟩), .agg #[.int .i64 c.tenant, .string c.key, .int .i64 c.epoch, .int .i64 c.phase, .int .i64 c.token, .string c.name, .string c.body]] w fun e w' =>
      e = .returned (.agg (Ca.reply c x).toArray) ∧ ∃ v', At w' b v' s' (N + 2) ∧ Frm (fp b v) w w' ∧ (v'.ownBlock = v.ownBlock ∨ ∀ k, v'.ownBlock = some k → w.heap.size ≤ k) := by
  have hb1 := Bk.alloc (new_second w (.cells #[.int .i64 c.tenant, .string c.key, .int .i64 c.epoch, .int .i64 c.phase, .int .i64 c.token, .string c.name, .string c.body] 28) (.cells #[.int .i64 0, .string ⟨#[]⟩, .int .i64 0, .int .i64 0, .int .i64 0, .int .i64 0] 33)) (.cells #[.int .i64 c.tenant, .string c.key, .int .i64 c.epoch, .int .i64 c.phase, .int .i64 c.token, .int .i64 0] 33)
  have hb2 := Bk.new ((w.alloc (.cells #[.int .i64 c.tenant, .string c.key, .int .i64 c.epoch, .int .i64 c.phase, .int .i64 c.token, .string c.name, .string c.body] 28)).alloc (.cells #[.int .i64 0, .string ⟨#[]⟩, .int .i64 0, .int .i64 0, .int .i64 0, .int .i64 0] 33)) (.cells #[.int .i64 c.tenant, .string c.key, .int .i64 c.epoch, .int .i64 c.phase, .int .i64 c.token, .int .i64 0] 33)
  have hf := (((Frm.refl (fun _ => False) w).alloc (.cells #[.int .i64 c.tenant, .string c.key, .int .i64 c.epoch, .int .i64 c.phase, .int .i64 c.token, .string c.name, .string c.body] 28)).alloc (.cells #[.int .i64 0, .string ⟨#[]⟩, .int .i64 0, .int .i64 0, .int .i64 0, .int .i64 0] 33)).alloc (.cells #[.int .i64 c.tenant, .string c.key, .int .i64 c.epoch, .int .i64 c.phase, .int .i64 c.token, .int .i64 0] 33)
  have he : ((w.alloc (.cells #[.int .i64 c.tenant, .string c.key, .int .i64 c.epoch, .int .i64 c.phase, .int .i64 c.token, .string c.name, .string c.body] 28)).alloc (.cells #[.int .i64 0, .string ⟨#[]⟩, .int .i64 0, .int .i64 0, .int .i64 0, .int .i64 0] 33)).heap.size = w.heap.size + 2 := by simp
  rw [he] at hb2
  have hsz : ((((w.alloc (.cells #[.int .i64 c.tenant, .string c.key, .int .i64 c.epoch, .int .i64 c.phase, .int .i64 c.token, .string c.name, .string c.body] 28)).alloc (.cells #[.int .i64 0, .string ⟨#[]⟩, .int .i64 0, .int .i64 0, .int .i64 0, .int .i64 0] 33)).alloc (.cells #[.int .i64 c.tenant, .string c.key, .int .i64 c.epoch, .int .i64 c.phase, .int .i64 c.token, .int .i64 0] 33))).heap.size = w.heap.size + 3 := by simp
  have hlt := h.lt
  have HOWN := Lib.hid h.own
  have HC := Lib.hid (code_to c (h.frm0 hf) hN hef hk hp hx)
  clear h
  go_enter Try.func14, Try.ntmps14
  go_wp2_with fail
  refine HC.out.mono ?_
  rintro e w1 ⟨rfl, v', hA1, hf1, ho1⟩
  have hn1 : ∀ i, ¬ fp b v (w.heap.size + i) := fun i hi => by
    rcases hi with e | e | e | e
    · omega
    · omega
    · omega
    · have := (HOWN.out _ e).2; omega
  have hz1 := hf1.blk hb1 (hn1 1)
  have hz2 := hf1.blk hb2 (hn1 2)
  have hz2' : (w1.setCell ⟨w.heap.size + 2, 5, none⟩ (.int .i64 x)).heap[w.heap.size + 2]? = some (.cells (Ca.reply c x).toArray 33 (0, 0)) := by
    have := Bk.set hz2 5 (.int .i64 x)
    simp at this
    exact this
  have hz1' := Bk.far hz1 (p := ⟨w.heap.size + 2, 5, none⟩) (show w.heap.size + 1 ≠ w.heap.size + 2 by omega) (.int .i64 x)
  have hs1 := hf1.size
  rw [hsz] at hs1
  have hF1 := (hf.mono (T := fp b v) (fun _ _ h => h.elim)).trans hf1
  have hlt1 := hA1.lt
  have hown1 : ∀ k, v'.ownBlock = some k → k ≠ w.heap.size + 1 ∧ k ≠ w.heap.size + 2 := fun k hk => by
    rcases ho1 with e | e
    · rw [e] at hk; have := (HOWN.out k hk).2; omega
    · have := e k hk; rw [hsz] at this; omega
  have ho2 : v'.ownBlock = v.ownBlock ∨ ∀ k, v'.ownBlock = some k → w.heap.size ≤ k := ho1.imp (fun e => e) (fun e k hk => by have := e k hk; rw [hsz] at this; omega)
  have hfS : Frm (fun k => k = w.heap.size + 2) w1 (w1.setCell ⟨w.heap.size + 2, 5, none⟩ (.int .i64 x)) := (Frm.refl _ w1).set1 5 _
  have c5 := (Bk.c6 hz2).2.2.2.2.2
  have f5 := Bk.frozen hz2 5
  have HH := Lib.hid hown1
  clear hb1 hb2 hf he hf1 ho1 hn1 hown1
  go_wp2_with (first
    | (refine wpList_load_blk rfl 33 (.tmp 5) rfl hz2' rfl Try.underlying33 rfl iR rfl ?_)
    | (refine wpList_store_blk rfl 33 (.tmp 4) (.tmp 23) rfl hz1' rfl rfl iR (us := (Ca.reply c x).toArray) rfl rfl rfl ?_; intro w3 hb3 hf3))
  (try simp only [Exit.inBlock, Exit.then])
  refine ret_cell rfl Try.underlying33 rfl iR hb3 rfl rfl rfl ?_
  refine ⟨rfl, v', (hA1.frm hfS (fun k hk e => ?_)).frm hf3 (fun k hk e => ?_), (hF1.then_ hfS (fun i hi e => by omega)).then_ hf3 (fun i hi e => by omega), ho2⟩
  · rcases hk with e' | e' | e' | e'
    · omega
    · omega
    · omega
    · have := HH.out k e'; omega
  · rcases hk with e' | e' | e' | e'
    · omega
    · omega
    · omega
    · have := HH.out k e'; omega
theorem clone_eff {v : Value} {ef : List Ca} {w : World} {base : Nat} (h : w.ownsRow base 37 7 v ef.length (ef.flatMap Ca.cells)) (hl : ef.length ≤ 1000) :
    Calls Try.prog 52 #[v] w fun e w' => ∃ u, e = .returned u ∧ w'.ownsRow w.heap.size 37 7 u ef.length (ef.flatMap Ca.cells) ∧ Frm0 w w' := by
  have hs := Sl.of_own h
  have hM : 0 + ef.length ≤ maxLen := by unfold maxLen; omega
  have q : ∀ (w : World) (a : Option Addr) (n c n' c' : Nat), (binOp .eql 26 (.slice a n c) (.slice none n' c')).run Try.prog w = .ok (.bool a.isNone) w := fun w a n c n' c' => Lib.run_eql_slice_nil w _ _ a n c n' c' Try.underlying26
  rcases h.2 with ⟨rfl, h0⟩ | ⟨g, cap, cur, rfl, _⟩
  · have hx : ef = [] := List.eq_nil_of_length_eq_zero h0
    subst hx
    go_enter Try.func52, Try.ntmps52
    go_wp2
    go_ret
    exact ⟨_, rfl, World.ownsRow_nil _ _ _ _, Frm.refl _ _⟩
  · clear h
    go_enter Try.func52, Try.ntmps52
    go_wp2_with (at_builtin; refine wpList_append_sl rfl (.tmp 5) (.tmp 6) rfl Eef w.heap.size (.slice (some ⟨w.heap.size, 0, none⟩) 0 0) (.slice (some ⟨g, 0, none⟩) ef.length cap) 0 ef.length [] (ef.flatMap Ca.cells) rfl rfl (World.ownsRow_made w #[] 0 (Nat.le_refl _) (by decide) rfl) (hs.frm0 ((Frm.refl _ _).alloc _)) (flatMap_len Ca.cells 7 (fun _ => rfl) ef) (fun c hc => by obtain ⟨x, _, hx⟩ := List.mem_flatMap.1 hc; exact ca_one x c hx) hM (by omega) (by simp) ?_; intro v1 w1 hown1 hf1 hat1)
    go_ret
    refine ⟨_, rfl, by simpa using hown1, ((Frm.refl _ _).alloc _).then_ hf1 (fun i hi h => by simp [Value.ownBlock] at h; omega)⟩
theorem effects_nil (w : World) : Calls Try.prog 15 #[.pointer none] w fun e w' => e = .returned (.slice none 0 0) ∧ w = w' := by
  go_enter Try.func15, Try.ntmps15
  go_wp2
  go_ret
  exact ⟨rfl, rfl⟩
theorem effects_any {w : World} {b N : Nat} {v : Value} {s : St} (h : At w b v s N) (hl : s.ef.length ≤ 1000) :
    Calls Try.prog 15 #[.pointer (some ⟨b + 2, 0, none⟩)] w fun e w' => ∃ u, e = .returned u ∧ w'.ownsRow w.heap.size 37 7 u s.ef.length (s.ef.flatMap Ca.cells) ∧ Frm0 w w' := by
  have c2 := (Bk.c4 h.blk).2.2.1
  have HC := Lib.hid (clone_eff h.row hl)
  clear h
  go_enter Try.func15, Try.ntmps15
  go_wp2_with fail
  refine HC.out.mono ?_
  rintro e w1 ⟨u, rfl, h1, hf1⟩
  go_wp2
  go_ret
  exact ⟨u, rfl, h1, hf1⟩
end Bk25
end Go.Proofs.Yteokiiolchpndaa
