/- Backend: the reference's Do. -/
import Derived.Test.YteokiiolchpndaaBkj
namespace Go.Proofs.Yteokiiolchpndaa
open Go.RowKit Go.ChangeShapes Go.WideShapes Go.Maps
set_option linter.unusedVariables false
set_option linter.unusedSimpArgs false
set_option maxRecDepth 100000
namespace Bk25
theorem iL : (Try.prog.info? 51).map (·.size) = some 5 := by kernel_rfl
theorem Elf : Elt Try.prog 42 51 (.agg #[.int .i64 0, .string ⟨#[]⟩, .int .i64 0, .int .i64 0, .bool false]) 5 48 := Elt.mk' Try.underlying42 (by kernel_rfl) rfl (by omega)
theorem flat_set1 {α : Type} (f : α → List Value) (sz : Nat) (hf : ∀ a, (f a).length = sz) (l : List α) (k j : Nat) (hk : k < l.length) (hj : j < sz) (a' : α) (u : Value) (ha : f a' = (f l[k]).set j u) : (l.flatMap f).set (k * sz + j) u = (l.set k a').flatMap f := by
  have e1 : l = l.take k ++ l[k] :: l.drop (k + 1) := by rw [List.getElem_cons_drop, List.take_append_drop]
  have e2 : l.set k a' = l.take k ++ a' :: l.drop (k + 1) := by rw [List.set_eq_take_append_cons_drop, if_pos hk]
  have e3 : ((l.take k).flatMap f).length = k * sz := by rw [flatMap_len f sz hf, List.length_take, Nat.min_eq_left (by omega)]
  have hx : (f l[k]).length = sz := hf _
  rw [e2, List.flatMap_append, List.flatMap_cons, ha]
  conv => lhs; rw [e1, List.flatMap_append, List.flatMap_cons]
  rw [List.set_append_right _ _ (by omega), e3, Nat.add_sub_cancel_left, List.set_append_left _ _ (by omega)]
/-- What a call of the reference does. -/
def RDo (w : World) (rb : Nat) (v1 v2 : Value) (s : St) (c : Ca) (e : Ending) (w' : World) : Prop :=
  e = .returned (.int .i64 (call s c).2) ∧ ∃ u1 u2, Rb w' rb u1 u2 (call s c).1 ∧ Frm (rfp rb v1 v2) w w' ∧ (u1.ownBlock = v1.ownBlock ∨ ∀ k, u1.ownBlock = some k → w.heap.size ≤ k) ∧ (u2.ownBlock = v2.ownBlock ∨ ∀ k, u2.ownBlock = some k → w.heap.size ≤ k)
/-- The state ahead of the tests: the call in block C, the life in its place. -/
structure Md (w w3 : World) (rb C : Nat) (v1 v2 u1 : Value) (s : St) (c : Ca) (ls' : List Lf) (i : Nat) (tok : Int) (sp : Bool) : Prop where
  cb : w3.heap[C]? = some (.cells #[.int .i64 c.tenant, .string c.key, .int .i64 c.epoch, .int .i64 c.phase, .int .i64 c.token, .string c.name, .string c.body] 28 (0, 0))
  bk : w3.heap[rb]? = some (.cells #[u1, v2, .int .i64 s.later] 44 (0, 0))
  r1 : w3.ownsRow (rb + 1) 51 5 u1 ls'.length (ls'.flatMap Lf.cells)
  r2 : w3.ownsRow (rb + 1) 37 7 v2 s.ef.length (s.ef.flatMap Ca.cells)
  sep : ∀ k, u1.ownBlock = some k → v2.ownBlock ≠ some k
  frm : Frm (rfp rb v1 v2) w w3
  own : u1.ownBlock = v1.ownBlock ∨ ∀ k, u1.ownBlock = some k → w.heap.size ≤ k
  hC : w.heap.size ≤ C
  hCn : u1.ownBlock ≠ some C ∧ v2.ownBlock ≠ some C ∧ C ≠ rb
  hi : i < ls'.length
  at_ : ls'[i] = ⟨c.tenant, c.key, c.epoch, tok, sp⟩
  st : stale s c ↔ (c.token < tok ∨ (tok = c.token ∧ sp = true))
  old : stale s c → ls' = s.ls
  set0 : ∀ b, ls'.set i ⟨c.tenant, c.key, c.epoch, c.token, b⟩ = putL s.ls c.tenant c.key c.epoch c.token b
theorem rdo_post {w : World} {rb : Nat} {v1 v2 : Value} {s s' : St} {c : Ca} {x : Int} (hc : call s c = (s', x)) (u1 u2 : Value) (e : Ending) (he : e = .returned (.int .i64 x)) (w' : World) (h : Rb w' rb u1 u2 s') (hf : Frm (rfp rb v1 v2) w w')
    (h1 : u1.ownBlock = v1.ownBlock ∨ ∀ k, u1.ownBlock = some k → w.heap.size ≤ k) (h2 : u2.ownBlock = v2.ownBlock ∨ ∀ k, u2.ownBlock = some k → w.heap.size ≤ k) : RDo w rb v1 v2 s c e w' := by
  unfold RDo
  rw [hc]
  exact ⟨he, u1, u2, h, hf, h1, h2⟩
theorem met_is {l : List Ca} {v : Value} {w : World} {t : Int} {ky : ByteArray} {e p : Int} {r : Bool} (hs : Sl w v l.length (l.flatMap Ca.cells)) (hr : met l t ky e p = r) :
    Calls Try.prog 17 #[v, .int .i64 t, .string ky, .int .i64 e, .int .i64 p] w fun e_ w' => e_ = .returned (.bool r) ∧ Frm0 w w' := by
  subst hr
  exact met_any l v w t ky e p hs
theorem call_stale {s : St} {c : Ca} (h : stale s c) : call s c = (s, 3) := by unfold call; rw [if_pos h]
theorem call_met {s : St} {c : Ca} (h : ¬ stale s c) (hm : met s.ef c.tenant c.key c.epoch c.phase = true) : call s c = (⟨putL s.ls c.tenant c.key c.epoch c.token false, s.ef, s.later⟩, 1) := by unfold call; rw [if_neg h, if_pos hm]
theorem call_later {s : St} {c : Ca} (h : ¬ stale s c) (hm : met s.ef c.tenant c.key c.epoch c.phase = false) (hl : 0 < s.later) : call s c = (⟨putL s.ls c.tenant c.key c.epoch c.token true, s.ef, s.later - 1⟩, 2) := by unfold call; rw [if_neg h, if_neg (by simp [hm]), if_pos hl]
theorem call_new {s : St} {c : Ca} (h : ¬ stale s c) (hm : met s.ef c.tenant c.key c.epoch c.phase = false) (hl : ¬ 0 < s.later) : call s c = (⟨putL s.ls c.tenant c.key c.epoch c.token false, s.ef ++ [c], s.later⟩, 1) := by unfold call; rw [if_neg h, if_neg (by simp [hm]), if_neg hl]
theorem owns_drew {w : World} {base : Nat} {e : TypeId} {size : Nat} {v : Value} {n : Nat} {xs : List Value} (h : w.ownsRow base e size v n xs) : w.drew.ownsRow base e size v n xs := owns_frm0 h (Frm.refl _ w).drew

set_option maxHeartbeats 8000000 in
theorem rdo_any {w : World} {rb : Nat} {v1 v2 : Value} {s : St} (c : Ca) (h : Rb w rb v1 v2 s) (hl1 : s.ls.length ≤ 1000) (hl2 : s.ef.length ≤ 1000) (hlt : 0 ≤ s.later ∧ s.later ≤ 1073741824) :
    Calls Try.prog 19 #[.pointer (some ⟨rb, 0, none⟩), .agg #[.int .i64 c.tenant, .string c.key, .int .i64 c.epoch, .int .i64 c.phase, .int .i64 c.token, .string c.name, .string c.body]] w (RDo w rb v1 v2 s c) := by
  have hal := (Frm.refl (fun _ => False) w).alloc (.cells #[.int .i64 c.tenant, .string c.key, .int .i64 c.epoch, .int .i64 c.phase, .int .i64 c.token, .string c.name, .string c.body] 28)
  have hCB := Bk.new w (.cells #[.int .i64 c.tenant, .string c.key, .int .i64 c.epoch, .int .i64 c.phase, .int .i64 c.token, .string c.name, .string c.body] 28)
  have hR := h.frm0 hal
  have hlt1 := Bk.lt h.blk
  have hO1 := h.r1.lt
  have hO2 := h.r2.lt
  have HO := Lib.hid (And.intro hO1 hO2)
  have HAT := Lib.hid (fun w => at_any (w := w) (rb := rb) (v1 := v1) (v2 := v2) (s := s))
  clear h hO1 hO2
  obtain ⟨p, hp⟩ : ∃ p, place s.ls c.tenant c.key c.epoch = p := ⟨_, rfl⟩
  go_enter Try.func19, Try.ntmps19
  have HP := Lib.hid hp
  clear hp
  go_wp2_with fail
  obtain ⟨C, hC⟩ : ∃ C, w.heap.size = C := ⟨_, rfl⟩
  have HCC := Lib.hid hC
  generalize w.alloc (.cells #[.int .i64 c.tenant, .string c.key, .int .i64 c.epoch, .int .i64 c.phase, .int .i64 c.token, .string c.name, .string c.body] 28) = w1 at *
  rw [hC] at hCB ⊢
  clear hC
  obtain ⟨c0, c1, c2, c3, c4, c5, c6⟩ := Bk.c7 hCB
  refine (HAT.out w1 hR c.tenant c.key c.epoch).mono ?_
  rw [HP.out]
  rintro e w2 ⟨rfl, hf2⟩
  have hR := hR.frm0 hf2
  have hCB := hf2.blk hCB (fun h => h)
  have hF2 := hal.trans hf2
  have hs2 := hf2.size
  have hi := idx_le s.ls c.tenant c.key c.epoch
  have hif := idx_find s.ls c.tenant c.key c.epoch
  have hset := fun b => putL_set s.ls c.tenant c.key c.epoch c.token b
  have happ := fun b => putL_app s.ls c.tenant c.key c.epoch c.token b
  have hpl : p = if idx s.ls c.tenant c.key c.epoch < s.ls.length then (idx s.ls c.tenant c.key c.epoch : Int) else -1 := HP.out.symm
  generalize idx s.ls c.tenant c.key c.epoch = i at *
  clear hal hf2 c0 c1 c2 c3 c4 c5 c6
  obtain ⟨c0, c1, c2, c3, c4, c5, c6⟩ := Bk.c7 hCB
  have HS := Lib.hid (And.intro hset happ)
  have HIF := Lib.hid hif
  clear hset happ hif
  by_cases hlti : i < s.ls.length
  · rw [if_pos hlti] at hpl
    subst hpl
    obtain ⟨hf1, hf2⟩ := HIF.out.1 hlti
    have hM0 : Md w w2 rb C v1 v2 v1 s c s.ls i s.ls[i].tok s.ls[i].sp := by
      have hst : stale s c ↔ (c.token < s.ls[i].tok ∨ (s.ls[i].tok = c.token ∧ s.ls[i].sp = true)) := by unfold stale; rw [hf1]
      refine ⟨hCB, hR.blk, hR.r1, hR.r2, hR.sep, hF2.mono (fun _ _ h => h.elim), .inl rfl, by rw [← HCC.out]; exact Nat.le_refl _, ⟨fun e => ?_, fun e => ?_, ?_⟩, hlti, ?_, hst, fun _ => rfl, fun b => (HS.out.1 b hlti).symm⟩
      · have := (HO.out.1 C e).2; rw [HCC.out] at this; exact Nat.lt_irrefl _ this
      · have := (HO.out.2 C e).2; rw [HCC.out] at this; exact Nat.lt_irrefl _ this
      · rw [← HCC.out]; omega
      · obtain ⟨a1, a2, a3⟩ := hf2
        rw [← a1, ← a2, ← a3]
    have hM : ∃ ls' u1 tok sp, Md w w2 rb C v1 v2 u1 s c ls' i tok sp := ⟨_, _, _, _, hM0⟩
    have hq0 : ¬ (i : Int) < 0 := by omega
    have hq1 : decide ((i : Int) < 0) = false := decide_eq_false hq0
    clear hM0 hf1 hf2 hR hCB hF2 hlti hi c1 c2 c3 c5 c6 c0 c4
    obtain ⟨w3, rfl⟩ : ∃ w3, w3 = w2 := ⟨_, rfl⟩
    obtain ⟨ls', u1, tok, sp, hM⟩ := hM
    obtain ⟨g, cap, rfl⟩ : ∃ g cap, u1 = .slice (some ⟨g, 0, none⟩) ls'.length cap := by
      rcases hM.r1.2 with ⟨_, h0⟩ | ⟨g, cap, cur, he, _⟩
      · have := hM.hi; omega
      · exact ⟨g, cap, he⟩
    have hrg := owns_range (f := Lf.cells) (l := ls') hM.r1 (fun _ => rfl) rfl i hM.hi
    rw [hM.at_] at hrg
    have hrg : w3.rangeAt g (i * 5) [.int .i64 c.tenant, .string c.key, .int .i64 c.epoch, .int .i64 tok, .bool sp] := hrg
    have hii : (i : Int) < (ls'.length : Int) := by have := hM.hi; omega
    have hi0 : (0 : Int) ≤ (i : Int) := by omega
    have HPL := Lib.hid (show ∀ b, ls'.length = (putL s.ls c.tenant c.key c.epoch c.token b).length from fun b => by rw [← hM.set0 b, List.length_set])
    obtain ⟨b0, b1, b2⟩ := Bk.c3 hM.bk
    have hgl := hM.r1.lt g rfl
    have halx := (Frm.refl (fun _ => False) w3).alloc (.cells #[.int .i64 c.tenant, .string c.key, .int .i64 c.epoch, .int .i64 tok, .bool sp] 51)
    have hX4 := Bk.new w3 (.cells #[.int .i64 c.tenant, .string c.key, .int .i64 c.epoch, .int .i64 tok, .bool sp] 51)
    have HCB := Lib.hid (halx.blk hM.cb (fun h => h))
    have HBK := Lib.hid (halx.blk hM.bk (fun h => h))
    have HR1 := Lib.hid (owns_frm0 hM.r1 halx)
    have HR2 := Lib.hid (owns_frm0 hM.r2 halx)
    have HF4 := Lib.hid (hM.frm.then0 halx)
    have HG := Lib.hid (show ∀ k, k < w.heap.size → k = g → rfp rb v1 v2 k from fun k hk e => by
      subst e
      rcases hM.own with h | h
      · exact .inr (.inl (h ▸ rfl))
      · have := h k rfl; omega)
    have HGB := Lib.hid (show g ≠ rb by omega)
    have HCG := Lib.hid (show C ≠ g from fun e => hM.hCn.1 (e ▸ rfl))
    have HVB := Lib.hid (show ∀ k, v2.ownBlock = some k → k ≠ rb from fun k hk => by have := (hM.r2.lt k hk).1; omega)
    have hcl := Bk.lt hM.cb
    have hbl := Bk.lt hM.bk
    have hsx : (w3.alloc (.cells #[.int .i64 c.tenant, .string c.key, .int .i64 c.epoch, .int .i64 tok, .bool sp] 51)).heap.size = w3.heap.size + 1 := by simp
    have HWX := Lib.hid (show w.heap.size ≤ w3.heap.size from hM.frm.size)
    have HVX0 := Lib.hid (show ∀ k, v2.ownBlock = some k → k < w3.heap.size from fun k hk => (hM.r2.lt k hk).2)
    have HM := Lib.hid hM
    clear hM halx
    go_upto_region 6 with (first
      | (refine wpList_load_mid rfl 51 (.tmp 45) rfl g (i * 5) rfl _ _ hrg Try.underlying51 rfl (by rw [iL]; rfl) ?_))
    clear b0 b1 b2
    obtain ⟨X, hX⟩ : ∃ X, w3.heap.size = X := ⟨_, rfl⟩
    generalize w3.alloc (.cells #[.int .i64 c.tenant, .string c.key, .int .i64 c.epoch, .int .i64 tok, .bool sp] 51) = w4 at *
    rw [hX] at hX4 hsx hgl hcl hbl HWX HVX0 ⊢
    have HCX := Lib.hid (show C < X from hcl)
    have HBX := Lib.hid (show rb < X from hbl)
    have HGX := Lib.hid (show g < X from hgl.2)
    have HVX := HVX0
    have hX1 := hsx
    clear hX hrg HVX0 hcl hbl hsx
    obtain ⟨x0, x1, x2, x3, x4⟩ := Bk.c5 hX4
    have f3 := Bk.frozen hX4 3
    have f4 := Bk.frozen hX4 4
    have c0 := (Bk.c7 HCB.out).1
    have c4 := (Bk.c7 HCB.out).2.2.2.2.1
    have HX1 := Lib.hid hX1
    clear hX1 hgl
    rcases Int.lt_trichotomy c.token tok with hlt | heq | hgt
    · have d1 : decide (c.token < tok) = true := decide_eq_true hlt
      go_wp2_with fail
      go_ret
      have hst : stale s c := HM.out.st.2 (.inl hlt)
      have hlseq := HM.out.old hst
      refine rdo_post (call_stale hst) (.slice (some ⟨g, 0, none⟩) ls'.length cap) v2 _ rfl w4 ⟨HBK.out, ?_, HR2.out, HM.out.sep⟩ ?_ HM.out.own (.inl rfl)
      · have := HR1.out
        rw [hlseq] at this
        rw [hlseq]
        exact this
      · exact HF4.out
    · subst heq
      cases sp
      · have HST : ¬ stale s c := fun h => by
          rcases HM.out.st.1 h with h | ⟨_, h⟩
          · omega
          · cases h
        go_upto_region 11 with (fail)
        have hX5 := Bk.set hX4 3 (.int .i64 c.token)
        have hXf : Frm (fun k => k = X) w4 (w4.setCell ⟨X, 3, none⟩ (.int .i64 c.token)) := (Frm.refl _ w4).set1 3 _
        simp at hX5
        have hs5 := hXf.size
        have hcb5 := hXf.blk HCB.out (by have := HCX.out; omega)
        have hbk5 := hXf.blk HBK.out (by have := HBX.out; omega)
        have hR1 := owns_frm HR1.out hXf (fun k hk e => by cases hk; have h1 := HGX.out; have h2 : g = X := e; omega)
        have hR2 := owns_frm HR2.out hXf (fun k hk e => by have := HVX.out k hk; omega)
        have hF5 := HF4.out.then_ hXf (fun k hk e => by have := HWX.out; omega)
        clear hXf
        generalize (w4.setCell ⟨X, 3, none⟩ (.int .i64 c.token)) = w5 at *
        obtain ⟨x0, x1, x2, x3, x4⟩ := Bk.c5 hX5
        obtain ⟨b0, b1, b2⟩ := Bk.c3 hbk5
        refine st_tail 7 (by kernel_rfl) (by kernel_rfl) ?_
        simp only [List.take_succ_cons, List.take_zero, List.drop_succ_cons, List.drop_zero]
        repeat still_step
        refine wpStill_nil ?_
        go_wp2_with (refine wpList_store_row (f := Lf.cells) (l := ls') rfl 51 (.tmp 78) (.tmp 77) rfl ⟨c.tenant, c.key, c.epoch, c.token, false⟩ (owns_drew hR1) (fun _ => rfl) rfl HM.out.hi rfl rfl iL rfl rfl ?_; intro w6 hR6 hf6)
        have hf6' : Frm (fun k => k = g) w5 w6 := ((Frm.refl (fun k => k = g) w5).drew).trans hf6
        rw [HM.out.set0 false] at hR6
        have hcb6 := hf6'.blk hcb5 (by have := HCG.out; omega)
        have hbk6 := hf6'.blk hbk5 (by have := HGB.out; omega)
        have hR2 := owns_frm hR2 hf6' (fun k hk e => by have := HM.out.sep g rfl; subst e; exact this hk)
        have hF6 := hF5.then_ hf6' (fun k hk e => HG.out k hk e)
        have hs6 := hf6'.size
        clear hX5 hcb5 hbk5 hR1 hF5 hf6 hf6' x0 x1 x2 x3 x4 b0 b1 b2 c0 c4
        obtain ⟨b0, b1, b2⟩ := Bk.c3 hbk6
        obtain ⟨c0, c1, c2, c3, c4, c5, c6⟩ := Bk.c7 hcb6
        go_upto_region 12 with (fail)
        refine st_tail 12 (by kernel_rfl) (by kernel_rfl) ?_
        simp only [List.take_succ_cons, List.take_zero, List.drop_succ_cons, List.drop_zero]
        repeat still_step
        refine wpStill_nil ?_
        go_wp2_with fail
        obtain ⟨m, hm⟩ : ∃ m, met s.ef c.tenant c.key c.epoch c.phase = m := ⟨_, rfl⟩
        have HMT := Lib.hid hm
        refine (met_is (Sl.of_own (owns_drew hR2)) hm).mono ?_
        rintro e w7 ⟨rfl, hf7⟩
        have hf7' : Frm0 w6 w7 := ((Frm.refl (fun _ => False) w6).drew).trans hf7
        have hcb7 := hf7'.blk hcb6 (fun h => h)
        have hbk7 := hf7'.blk hbk6 (fun h => h)
        have hR1 := owns_frm0 hR6 hf7'
        have hR2 := owns_frm0 hR2 hf7'
        have hF7 := hF6.then0 hf7'
        have hs7 := hf7'.size
        have HBW := Lib.hid (Bk.lt hbk7)
        have HGW := Lib.hid (hR1.lt g rfl).2
        clear hm hcb6 hbk6 hR6 hF6 hf7 hf7' b0 b1 b2 c0 c1 c2 c3 c4 c5 c6
        obtain ⟨b0, b1, b2⟩ := Bk.c3 hbk7
        obtain ⟨c0, c1, c2, c3, c4, c5, c6⟩ := Bk.c7 hcb7
        have hpl := HPL.out false
        cases m
        · have hmf := HMT.out
          by_cases hlat : 0 < s.later
          · have hw1 : IntKind.i64.wrap (s.later - 1) = s.later - 1 := IntWalk.i64_in _ (by omega)
            have fb2 := Bk.frozen hbk7 2
            have HN := Lib.hid (call_later HST hmf hlat)
            have hc4 := hR1.cellAt (i * 5 + 4) (by have := HM.out.hi; omega)
            have hthere := owns_there hR1 (i * 5 + 4) 1 (by have := HM.out.hi; omega)
            have hfz := (hthere 0 (by omega)).2
            obtain ⟨y, hy⟩ := Option.isSome_iff_exists.1 (hthere 0 (by omega)).1
            rw [Nat.add_zero] at hfz hy
            have HP4 := Lib.hid hpl
            clear hc4 hthere hmf hpl
            go_wp2_with fail
            go_ret
            have hg1 : Frm (fun k => k = rb) w7 (w7.setCell ⟨rb, 2, none⟩ (.int .i64 (s.later - 1))) := (Frm.refl _ w7).set1 2 _
            have hb8 := Bk.set hbk7 2 (.int .i64 (s.later - 1))
            have hR1b := owns_frm hR1 hg1 (fun k hk e => by cases hk; have h1 := HGB.out; have h2 : g = rb := e; omega)
            have hR2b := owns_frm hR2 hg1 (fun k hk e => by have := HVB.out k hk; omega)
            have hst := hR1b.stored (i * 5 + 4) (.bool true)
            have hg2 : Frm (fun k => k = g) (w7.setCell ⟨rb, 2, none⟩ (.int .i64 (s.later - 1))) ((w7.setCell ⟨rb, 2, none⟩ (.int .i64 (s.later - 1))).setCell ⟨g, i * 5 + 4, none⟩ (.bool true)) := (Frm.refl _ _).set1 _ _
            refine rdo_post HN.out (.slice (some ⟨g, 0, none⟩) ls'.length cap) v2 _ rfl _ ⟨?_, ?_, owns_frm hR2b hg2 (fun k hk e => by have := HM.out.sep g rfl; subst e; exact this hk), HM.out.sep⟩ ((hF7.then_ hg1 (fun k hk e => .inl e)).then_ hg2 (fun k hk e => HG.out k hk e)) HM.out.own (.inl rfl)
            · have := hg2.blk hb8 (by have := HGB.out; omega)
              simpa using this
            · have h1 := hst.1
              rw [← HM.out.set0 false, flat_set1 Lf.cells 5 (fun _ => rfl) (ls'.set i ⟨c.tenant, c.key, c.epoch, c.token, false⟩) i 4 (by rw [List.length_set]; exact HM.out.hi) (by omega) ⟨c.tenant, c.key, c.epoch, c.token, true⟩ (.bool true) (by rw [List.getElem_set_self]; rfl), List.set_set, HM.out.set0 true] at h1
              rw [HPL.out true] at h1 ⊢
              exact h1
          · have HN := Lib.hid (call_new HST hmf hlat)
            have fb1 := Bk.frozen hbk7 1
            clear hmf
            go_upto_region 18 with (fail)
            refine wp_region_held_drew (S := fun w9 => w9.heap[C]? = some (.cells #[.int .i64 c.tenant, .string c.key, .int .i64 c.epoch, .int .i64 c.phase, .int .i64 c.token, .string c.name, .string c.body] 28 (0, 0))) (by kernel_rfl) (hcb7) (fun hHeld => ?_)
            refine wpAnyH_take (i := 0) (v := ?_) rfl (by kernel_rfl) (by kernel_rfl) (by kernel_rfl) (fun _ _ _ h => h) (Or.inl ⟨by rfl, ?_⟩) (by assumption) ?_
            rotate_left 1
            focus (intro w hSw; (try dsimp only at hSw); obtain ⟨k0, k1, k2, k3, k4, k5, k6⟩ := Bk.c7 hSw; go_simp; (try with_reducible rfl))
            (try simp only [Act.put, List.getElem_toArray, List.getElem_cons_succ, List.getElem_cons_zero, List.setIfInBounds_toArray, List.set_cons_zero, List.set_cons_succ])
            refine wpAnyH_take (i := 1) (v := ?_) rfl (by kernel_rfl) (by kernel_rfl) (by kernel_rfl) (fun _ _ _ h => h) (Or.inl ⟨by rfl, ?_⟩) (by assumption) ?_
            rotate_left 1
            focus (intro w hSw; (try dsimp only at hSw); obtain ⟨k0, k1, k2, k3, k4, k5, k6⟩ := Bk.c7 hSw; go_simp; (try with_reducible rfl))
            (try simp only [Act.put, List.getElem_toArray, List.getElem_cons_succ, List.getElem_cons_zero, List.setIfInBounds_toArray, List.set_cons_zero, List.set_cons_succ])
            refine wpAnyH_take (i := 2) (v := ?_) rfl (by kernel_rfl) (by kernel_rfl) (by kernel_rfl) (fun _ _ _ h => h) (Or.inl ⟨by rfl, ?_⟩) (by assumption) ?_
            rotate_left 1
            focus (intro w hSw; (try dsimp only at hSw); obtain ⟨k0, k1, k2, k3, k4, k5, k6⟩ := Bk.c7 hSw; go_simp; (try with_reducible rfl))
            (try simp only [Act.put, List.getElem_toArray, List.getElem_cons_succ, List.getElem_cons_zero, List.setIfInBounds_toArray, List.set_cons_zero, List.set_cons_succ])
            refine wpAnyH_take (i := 3) (v := ?_) rfl (by kernel_rfl) (by kernel_rfl) (by kernel_rfl) (fun _ _ _ h => h) (Or.inl ⟨by rfl, ?_⟩) (by assumption) ?_
            rotate_left 1
            focus (intro w hSw; (try dsimp only at hSw); obtain ⟨k0, k1, k2, k3, k4, k5, k6⟩ := Bk.c7 hSw; go_simp; (try with_reducible rfl))
            (try simp only [Act.put, List.getElem_toArray, List.getElem_cons_succ, List.getElem_cons_zero, List.setIfInBounds_toArray, List.set_cons_zero, List.set_cons_succ])
            refine wpAnyH_take (i := 5) (v := ?_) rfl (by kernel_rfl) (by kernel_rfl) (by kernel_rfl) (fun _ _ _ h => h) (Or.inl ⟨by rfl, ?_⟩) (by assumption) ?_
            rotate_left 1
            focus (intro w hSw; (try dsimp only at hSw); obtain ⟨k0, k1, k2, k3, k4, k5, k6⟩ := Bk.c7 hSw; go_simp; (try with_reducible rfl))
            (try simp only [Act.put, List.getElem_toArray, List.getElem_cons_succ, List.getElem_cons_zero, List.setIfInBounds_toArray, List.set_cons_zero, List.set_cons_succ])
            refine wpAnyH_take (i := 6) (v := ?_) rfl (by kernel_rfl) (by kernel_rfl) (by kernel_rfl) (fun _ _ _ h => h) (Or.inl ⟨by rfl, ?_⟩) (by assumption) ?_
            rotate_left 1
            focus (intro w hSw; (try dsimp only at hSw); obtain ⟨k0, k1, k2, k3, k4, k5, k6⟩ := Bk.c7 hSw; go_simp; (try with_reducible rfl))
            (try simp only [Act.put, List.getElem_toArray, List.getElem_cons_succ, List.getElem_cons_zero, List.setIfInBounds_toArray, List.set_cons_zero, List.set_cons_succ])
            refine wpAnyH_take (i := 7) (v := ?_) rfl (by kernel_rfl) (by kernel_rfl) (by kernel_rfl) (fun _ _ _ h => h) (Or.inl ⟨by rfl, ?_⟩) (by assumption) ?_
            rotate_left 1
            focus (intro w hSw; (try dsimp only at hSw); obtain ⟨k0, k1, k2, k3, k4, k5, k6⟩ := Bk.c7 hSw; go_simp; (try with_reducible rfl))
            (try simp only [Act.put, List.getElem_toArray, List.getElem_cons_succ, List.getElem_cons_zero, List.setIfInBounds_toArray, List.set_cons_zero, List.set_cons_succ])
            refine wpAnyH_take (i := 8) (v := ?_) rfl (by kernel_rfl) (by kernel_rfl) (by kernel_rfl) (fun _ _ _ h => h) (Or.inl ⟨by rfl, ?_⟩) (by assumption) ?_
            rotate_left 1
            focus (intro w hSw; (try dsimp only at hSw); obtain ⟨k0, k1, k2, k3, k4, k5, k6⟩ := Bk.c7 hSw; go_simp; (try with_reducible rfl))
            (try simp only [Act.put, List.getElem_toArray, List.getElem_cons_succ, List.getElem_cons_zero, List.setIfInBounds_toArray, List.set_cons_zero, List.set_cons_succ])
            refine wpAnyH_take (i := 9) (v := ?_) rfl (by kernel_rfl) (by kernel_rfl) (by kernel_rfl) (fun _ _ _ h => h) (Or.inl ⟨by rfl, ?_⟩) (by assumption) ?_
            rotate_left 1
            focus (intro w hSw; (try dsimp only at hSw); obtain ⟨k0, k1, k2, k3, k4, k5, k6⟩ := Bk.c7 hSw; go_simp; (try with_reducible rfl))
            (try simp only [Act.put, List.getElem_toArray, List.getElem_cons_succ, List.getElem_cons_zero, List.setIfInBounds_toArray, List.set_cons_zero, List.set_cons_succ])
            refine wpAnyH_take (i := 10) (v := ?_) rfl (by kernel_rfl) (by kernel_rfl) (by kernel_rfl) (fun _ _ _ h => h) (Or.inl ⟨by rfl, ?_⟩) (by assumption) ?_
            rotate_left 1
            focus (intro w hSw; (try dsimp only at hSw); obtain ⟨k0, k1, k2, k3, k4, k5, k6⟩ := Bk.c7 hSw; go_simp; (try with_reducible rfl))
            (try simp only [Act.put, List.getElem_toArray, List.getElem_cons_succ, List.getElem_cons_zero, List.setIfInBounds_toArray, List.set_cons_zero, List.set_cons_succ])
            refine wpAnyH_take (i := 11) (v := ?_) rfl (by kernel_rfl) (by kernel_rfl) (by kernel_rfl) (fun _ _ _ h => h) (Or.inl ⟨by rfl, ?_⟩) (by assumption) ?_
            rotate_left 1
            focus (intro w hSw; (try dsimp only at hSw); obtain ⟨k0, k1, k2, k3, k4, k5, k6⟩ := Bk.c7 hSw; go_simp; (try with_reducible rfl))
            (try simp only [Act.put, List.getElem_toArray, List.getElem_cons_succ, List.getElem_cons_zero, List.setIfInBounds_toArray, List.set_cons_zero, List.set_cons_succ])
            refine wpAnyH_take (i := 12) (v := ?_) rfl (by kernel_rfl) (by kernel_rfl) (by kernel_rfl) (fun _ _ _ h => h) (Or.inl ⟨by rfl, ?_⟩) (by assumption) ?_
            rotate_left 1
            focus (intro w hSw; (try dsimp only at hSw); obtain ⟨k0, k1, k2, k3, k4, k5, k6⟩ := Bk.c7 hSw; go_simp; (try with_reducible rfl))
            (try simp only [Act.put, List.getElem_toArray, List.getElem_cons_succ, List.getElem_cons_zero, List.setIfInBounds_toArray, List.set_cons_zero, List.set_cons_succ])
            refine wpAnyH_take (i := 13) (v := ?_) rfl (by kernel_rfl) (by kernel_rfl) (by kernel_rfl) (fun _ _ _ h => h) (Or.inl ⟨by rfl, ?_⟩) (by assumption) ?_
            rotate_left 1
            focus (intro w hSw; (try dsimp only at hSw); obtain ⟨k0, k1, k2, k3, k4, k5, k6⟩ := Bk.c7 hSw; go_simp; (try with_reducible rfl))
            (try simp only [Act.put, List.getElem_toArray, List.getElem_cons_succ, List.getElem_cons_zero, List.setIfInBounds_toArray, List.set_cons_zero, List.set_cons_succ])
            refine wpAnyH_take (i := 14) (v := ?_) rfl (by kernel_rfl) (by kernel_rfl) (by kernel_rfl) (fun _ _ _ h => h) (Or.inl ⟨by rfl, ?_⟩) (by assumption) ?_
            rotate_left 1
            focus (intro w hSw; (try dsimp only at hSw); obtain ⟨k0, k1, k2, k3, k4, k5, k6⟩ := Bk.c7 hSw; go_simp; (try with_reducible rfl))
            (try simp only [Act.put, List.getElem_toArray, List.getElem_cons_succ, List.getElem_cons_zero, List.setIfInBounds_toArray, List.set_cons_zero, List.set_cons_succ])
            refine wpAnyH_take (i := 15) (v := ?_) rfl (by kernel_rfl) (by kernel_rfl) (by kernel_rfl) (fun _ _ _ h => h) (Or.inl ⟨by rfl, ?_⟩) (by assumption) ?_
            rotate_left 1
            focus (intro w hSw; (try dsimp only at hSw); obtain ⟨k0, k1, k2, k3, k4, k5, k6⟩ := Bk.c7 hSw; go_simp; (try with_reducible rfl))
            (try simp only [Act.put, List.getElem_toArray, List.getElem_cons_succ, List.getElem_cons_zero, List.setIfInBounds_toArray, List.set_cons_zero, List.set_cons_succ])
            refine wpAnyH_take (i := 16) (v := ?_) rfl (by kernel_rfl) (by kernel_rfl) (by kernel_rfl) (fun _ _ _ h => h) (Or.inl ⟨by rfl, ?_⟩) (by assumption) ?_
            rotate_left 1
            focus (intro w hSw; (try dsimp only at hSw); obtain ⟨k0, k1, k2, k3, k4, k5, k6⟩ := Bk.c7 hSw; go_simp; (try with_reducible rfl))
            (try simp only [Act.put, List.getElem_toArray, List.getElem_cons_succ, List.getElem_cons_zero, List.setIfInBounds_toArray, List.set_cons_zero, List.set_cons_succ])
            refine wpAnyH_take (i := 17) (v := ?_) rfl (by kernel_rfl) (by kernel_rfl) (by kernel_rfl) (fun _ _ _ h => h) (Or.inl ⟨by rfl, ?_⟩) (by assumption) ?_
            rotate_left 1
            focus (intro w hSw; (try dsimp only at hSw); obtain ⟨k0, k1, k2, k3, k4, k5, k6⟩ := Bk.c7 hSw; go_simp; (try with_reducible rfl))
            (try simp only [Act.put, List.getElem_toArray, List.getElem_cons_succ, List.getElem_cons_zero, List.setIfInBounds_toArray, List.set_cons_zero, List.set_cons_succ])
            refine wpAnyH_take (i := 18) (v := ?_) rfl (by kernel_rfl) (by kernel_rfl) (by kernel_rfl) (fun _ _ _ h => h) (Or.inl ⟨by rfl, ?_⟩) (by assumption) ?_
            rotate_left 1
            focus (intro w hSw; (try dsimp only at hSw); obtain ⟨k0, k1, k2, k3, k4, k5, k6⟩ := Bk.c7 hSw; go_simp; (try with_reducible rfl))
            (try simp only [Act.put, List.getElem_toArray, List.getElem_cons_succ, List.getElem_cons_zero, List.setIfInBounds_toArray, List.set_cons_zero, List.set_cons_succ])
            refine wpAnyH_take (i := 19) (v := ?_) rfl (by kernel_rfl) (by kernel_rfl) (by kernel_rfl) (fun _ _ _ h => h) (Or.inl ⟨by rfl, ?_⟩) (by assumption) ?_
            rotate_left 1
            focus (intro w hSw; (try dsimp only at hSw); obtain ⟨k0, k1, k2, k3, k4, k5, k6⟩ := Bk.c7 hSw; go_simp; (try with_reducible rfl))
            (try simp only [Act.put, List.getElem_toArray, List.getElem_cons_succ, List.getElem_cons_zero, List.setIfInBounds_toArray, List.set_cons_zero, List.set_cons_succ])
            refine wpAnyH_ready (rs := [4, 20]) (by kernel_rfl) (by simp) ?_
            refine AllReadyH.cons rfl (fun K hK => ?_) (AllReadyH.cons rfl (fun K hK => ?_) AllReadyH.nil)
            · rw [if_pos (by rfl)]
              go_simp
              refine hK.out _ _ (by assumption) (fun hHeld => ?_)
              clear hK K
              (try simp only [Act.put, List.getElem_toArray, List.getElem_cons_succ, List.getElem_cons_zero, List.setIfInBounds_toArray, List.set_cons_zero, List.set_cons_succ])
              refine wpAnyH_ready (rs := [20]) (by kernel_rfl) (by simp) ?_
              refine AllReadyH.cons rfl (fun K hK => ?_) AllReadyH.nil
              rw [if_pos (by rfl)]
              go_simp
              refine hK.out _ _ (Bk.alloc (by assumption) _) (fun hHeld => ?_)
              clear hK K
              (try simp only [Act.put, List.getElem_toArray, List.getElem_cons_succ, List.getElem_cons_zero, List.setIfInBounds_toArray, List.set_cons_zero, List.set_cons_succ])
              refine wpAnyH_ready (rs := [21]) (by kernel_rfl) (by simp) ?_
              refine AllReadyH.cons rfl (fun K hK => ?_) AllReadyH.nil
              refine step_append_sl rfl (.tmp 115) (.tmp 131) rfl Eef (rb + 1) v2 (.slice (some ⟨w7.heap.size, 0, none⟩) 1 1) s.ef.length 1 (s.ef.flatMap Ca.cells) (Ca.cells c) rfl rfl (World.ownsRow.alloc hR2 _) (Sl.new w7 #[.int .i64 c.tenant, .string c.key, .int .i64 c.epoch, .int .i64 c.phase, .int .i64 c.token, .string c.name, .string c.body] 37 1 (by decide) (by omega)) rfl (ca_one c) (by unfold maxLen; omega) (by omega) (by have := HBW.out; simp; omega) ?_
              intro u2 w8 hown8 hf8 hat8
              obtain ⟨g8, cap8, rfl⟩ := owns_form hown8
              have hf8' : Frm (fun k => v2.ownBlock = some k) w7 w8 := Frm.then_ (by first | exact ((Frm.refl _ w7).alloc (.cells #[.int .i64 c.tenant, .string c.key, .int .i64 c.epoch, .int .i64 c.phase, .int .i64 c.token, .string c.name, .string c.body] 37)).drew | exact ((Frm.refl _ w7).drew.alloc (.cells #[.int .i64 c.tenant, .string c.key, .int .i64 c.epoch, .int .i64 c.phase, .int .i64 c.token, .string c.name, .string c.body] 37))) hf8 (fun k hk e => e)
              have hbk8 := hf8'.blk hbk7 (fun e => by have := HVB.out _ e; omega)
              have hcb8 := hf8'.blk hcb7 (fun e => HM.out.hCn.2.1 e)
              refine hK.out _ _ hcb8 (fun hHeld => ?_)
              clear hK K
              (try simp only [Act.put, List.getElem_toArray, List.getElem_cons_succ, List.getElem_cons_zero, List.setIfInBounds_toArray, List.set_cons_zero, List.set_cons_succ])
              refine wpAnyH_take (i := 22) (v := ?_) rfl (by kernel_rfl) (by kernel_rfl) (by kernel_rfl) (fun _ _ _ h => h) (Or.inl ⟨by rfl, ?_⟩) (by assumption) ?_
              rotate_left 1
              focus (intro w hSw; (try dsimp only at hSw); go_simp; (try with_reducible rfl))
              (try simp only [Act.put, List.getElem_toArray, List.getElem_cons_succ, List.getElem_cons_zero, List.setIfInBounds_toArray, List.set_cons_zero, List.set_cons_succ])
              refine wpAnyH_take (i := 23) (v := ?_) rfl (by kernel_rfl) (by kernel_rfl) (by kernel_rfl) (fun _ _ _ h => h) (Or.inl ⟨by rfl, ?_⟩) (by assumption) ?_
              rotate_left 1
              focus (intro w hSw; (try dsimp only at hSw); go_simp; (try with_reducible rfl))
              (try simp only [Act.put, List.getElem_toArray, List.getElem_cons_succ, List.getElem_cons_zero, List.setIfInBounds_toArray, List.set_cons_zero, List.set_cons_succ])
              refine wpAnyH_ready (rs := [24]) (by kernel_rfl) (by simp) ?_
              refine AllReadyH.cons rfl (fun K hK => ?_) AllReadyH.nil
              have f29 := Bk.frozen hbk8 1
              have c29 := (Bk.c3 hbk8).2.1
              rw [if_pos (by rfl)]
              go_simp
              refine hK.out _ _ (Bk.far (by assumption) (p := ⟨rb, 1, none⟩) (show C ≠ rb from HM.out.hCn.2.2) _) (fun hHeld => ?_)
              clear hK K
              (try simp only [Act.put, List.getElem_toArray, List.getElem_cons_succ, List.getElem_cons_zero, List.setIfInBounds_toArray, List.set_cons_zero, List.set_cons_succ])
              refine wpAnyH_done (by kernel_rfl) ?_ _
              go_wp2_with fail
              go_ret
              have hg1 : Frm (fun k => k = rb) w8 (w8.setCell ⟨rb, 1, none⟩ (.slice (some ⟨g8, 0, none⟩) (s.ef.length + 1) cap8)) := (Frm.refl _ w8).set1 1 _
              have hb9 := Bk.set hbk8 1 (.slice (some ⟨g8, 0, none⟩) (s.ef.length + 1) cap8)
              have hR1b := owns_frm (owns_frm hR1 hf8' (fun k hk e => HM.out.sep k hk e)) hg1 (fun k hk e => by cases hk; have h1 := HGB.out; have h2 : g = rb := e; omega)
              have hu2 : ∀ k, (Value.slice (some ⟨g8, 0, none⟩) (s.ef.length + 1) cap8).ownBlock = some k → k ≠ rb ∧ (v2.ownBlock = some k ∨ w7.heap.size ≤ k) := fun k hk => by
                rcases hat8 with e | e
                · rw [e] at hk; exact ⟨by have := HVB.out k hk; omega, .inl hk⟩
                · rw [e] at hk; cases hk; have := HBW.out; constructor
                  · simp; omega
                  · right; simp
              refine rdo_post HN.out (.slice (some ⟨g, 0, none⟩) ls'.length cap) (.slice (some ⟨g8, 0, none⟩) (s.ef.length + 1) cap8) _ rfl _ ⟨?_, ?_, ?_, ?_⟩ ((hF7.then_ hf8' (fun k hk e => .inr (.inr e))).then_ hg1 (fun k hk e => .inl e)) HM.out.own ?_
              · simpa using hb9
              · rw [HPL.out false] at hR1b ⊢
                exact hR1b
              · have h1 := owns_frm hown8 hg1 (fun k hk e => (hu2 k hk).1 e)
                simpa [List.flatMap_append] using h1
              · intro k hk he
                rcases (hu2 k he).2 with e | e
                · exact HM.out.sep k hk e
                · cases hk; have h1 := HGW.out; have h2 : w7.heap.size ≤ g := e; omega
              · rcases hat8 with e | e
                · exact .inl e
                · refine .inr (fun k hk => ?_)
                  rw [e] at hk; cases hk
                  have := hF7.size
                  simp; omega
            · rw [if_pos (by rfl)]
              go_simp
              refine hK.out _ _ (Bk.alloc (by assumption) _) (fun hHeld => ?_)
              clear hK K
              (try simp only [Act.put, List.getElem_toArray, List.getElem_cons_succ, List.getElem_cons_zero, List.setIfInBounds_toArray, List.set_cons_zero, List.set_cons_succ])
              refine wpAnyH_ready (rs := [4]) (by kernel_rfl) (by simp) ?_
              refine AllReadyH.cons rfl (fun K hK => ?_) AllReadyH.nil
              have a29 := (Bk.c3 (show (w7.alloc (.cells #[.int .i64 c.tenant, .string c.key, .int .i64 c.epoch, .int .i64 c.phase, .int .i64 c.token, .string c.name, .string c.body] 37)).drew.heap[rb]? = _ from Bk.alloc (show w7.drew.heap[rb]? = _ from hbk7) (.cells #[.int .i64 c.tenant, .string c.key, .int .i64 c.epoch, .int .i64 c.phase, .int .i64 c.token, .string c.name, .string c.body] 37))).2.1
              rw [if_pos (by rfl)]
              go_simp
              refine hK.out _ _ (by assumption) (fun hHeld => ?_)
              clear hK K
              (try simp only [Act.put, List.getElem_toArray, List.getElem_cons_succ, List.getElem_cons_zero, List.setIfInBounds_toArray, List.set_cons_zero, List.set_cons_succ])
              refine wpAnyH_ready (rs := [21]) (by kernel_rfl) (by simp) ?_
              refine AllReadyH.cons rfl (fun K hK => ?_) AllReadyH.nil
              refine step_append_sl rfl (.tmp 115) (.tmp 131) rfl Eef (rb + 1) v2 (.slice (some ⟨w7.heap.size, 0, none⟩) 1 1) s.ef.length 1 (s.ef.flatMap Ca.cells) (Ca.cells c) rfl rfl (World.ownsRow.alloc hR2 _) (Sl.new w7 #[.int .i64 c.tenant, .string c.key, .int .i64 c.epoch, .int .i64 c.phase, .int .i64 c.token, .string c.name, .string c.body] 37 1 (by decide) (by omega)) rfl (ca_one c) (by unfold maxLen; omega) (by omega) (by have := HBW.out; simp; omega) ?_
              intro u2 w8 hown8 hf8 hat8
              obtain ⟨g8, cap8, rfl⟩ := owns_form hown8
              have hf8' : Frm (fun k => v2.ownBlock = some k) w7 w8 := Frm.then_ (by first | exact ((Frm.refl _ w7).alloc (.cells #[.int .i64 c.tenant, .string c.key, .int .i64 c.epoch, .int .i64 c.phase, .int .i64 c.token, .string c.name, .string c.body] 37)).drew | exact ((Frm.refl _ w7).drew.alloc (.cells #[.int .i64 c.tenant, .string c.key, .int .i64 c.epoch, .int .i64 c.phase, .int .i64 c.token, .string c.name, .string c.body] 37))) hf8 (fun k hk e => e)
              have hbk8 := hf8'.blk hbk7 (fun e => by have := HVB.out _ e; omega)
              have hcb8 := hf8'.blk hcb7 (fun e => HM.out.hCn.2.1 e)
              refine hK.out _ _ hcb8 (fun hHeld => ?_)
              clear hK K
              (try simp only [Act.put, List.getElem_toArray, List.getElem_cons_succ, List.getElem_cons_zero, List.setIfInBounds_toArray, List.set_cons_zero, List.set_cons_succ])
              refine wpAnyH_take (i := 22) (v := ?_) rfl (by kernel_rfl) (by kernel_rfl) (by kernel_rfl) (fun _ _ _ h => h) (Or.inl ⟨by rfl, ?_⟩) (by assumption) ?_
              rotate_left 1
              focus (intro w hSw; (try dsimp only at hSw); go_simp; (try with_reducible rfl))
              (try simp only [Act.put, List.getElem_toArray, List.getElem_cons_succ, List.getElem_cons_zero, List.setIfInBounds_toArray, List.set_cons_zero, List.set_cons_succ])
              refine wpAnyH_take (i := 23) (v := ?_) rfl (by kernel_rfl) (by kernel_rfl) (by kernel_rfl) (fun _ _ _ h => h) (Or.inl ⟨by rfl, ?_⟩) (by assumption) ?_
              rotate_left 1
              focus (intro w hSw; (try dsimp only at hSw); go_simp; (try with_reducible rfl))
              (try simp only [Act.put, List.getElem_toArray, List.getElem_cons_succ, List.getElem_cons_zero, List.setIfInBounds_toArray, List.set_cons_zero, List.set_cons_succ])
              refine wpAnyH_ready (rs := [24]) (by kernel_rfl) (by simp) ?_
              refine AllReadyH.cons rfl (fun K hK => ?_) AllReadyH.nil
              have f29 := Bk.frozen hbk8 1
              have c29 := (Bk.c3 hbk8).2.1
              rw [if_pos (by rfl)]
              go_simp
              refine hK.out _ _ (Bk.far (by assumption) (p := ⟨rb, 1, none⟩) (show C ≠ rb from HM.out.hCn.2.2) _) (fun hHeld => ?_)
              clear hK K
              (try simp only [Act.put, List.getElem_toArray, List.getElem_cons_succ, List.getElem_cons_zero, List.setIfInBounds_toArray, List.set_cons_zero, List.set_cons_succ])
              refine wpAnyH_done (by kernel_rfl) ?_ _
              go_wp2_with fail
              go_ret
              have hg1 : Frm (fun k => k = rb) w8 (w8.setCell ⟨rb, 1, none⟩ (.slice (some ⟨g8, 0, none⟩) (s.ef.length + 1) cap8)) := (Frm.refl _ w8).set1 1 _
              have hb9 := Bk.set hbk8 1 (.slice (some ⟨g8, 0, none⟩) (s.ef.length + 1) cap8)
              have hR1b := owns_frm (owns_frm hR1 hf8' (fun k hk e => HM.out.sep k hk e)) hg1 (fun k hk e => by cases hk; have h1 := HGB.out; have h2 : g = rb := e; omega)
              have hu2 : ∀ k, (Value.slice (some ⟨g8, 0, none⟩) (s.ef.length + 1) cap8).ownBlock = some k → k ≠ rb ∧ (v2.ownBlock = some k ∨ w7.heap.size ≤ k) := fun k hk => by
                rcases hat8 with e | e
                · rw [e] at hk; exact ⟨by have := HVB.out k hk; omega, .inl hk⟩
                · rw [e] at hk; cases hk; have := HBW.out; constructor
                  · simp; omega
                  · right; simp
              refine rdo_post HN.out (.slice (some ⟨g, 0, none⟩) ls'.length cap) (.slice (some ⟨g8, 0, none⟩) (s.ef.length + 1) cap8) _ rfl _ ⟨?_, ?_, ?_, ?_⟩ ((hF7.then_ hf8' (fun k hk e => .inr (.inr e))).then_ hg1 (fun k hk e => .inl e)) HM.out.own ?_
              · simpa using hb9
              · rw [HPL.out false] at hR1b ⊢
                exact hR1b
              · have h1 := owns_frm hown8 hg1 (fun k hk e => (hu2 k hk).1 e)
                simpa [List.flatMap_append] using h1
              · intro k hk he
                rcases (hu2 k he).2 with e | e
                · exact HM.out.sep k hk e
                · cases hk; have h1 := HGW.out; have h2 : w7.heap.size ≤ g := e; omega
              · rcases hat8 with e | e
                · exact .inl e
                · refine .inr (fun k hk => ?_)
                  rw [e] at hk; cases hk
                  have := hF7.size
                  simp; omega
        · have HN := Lib.hid (call_met HST HMT.out)
          go_wp2_with fail
          go_ret
          refine rdo_post HN.out (.slice (some ⟨g, 0, none⟩) ls'.length cap) v2 _ rfl _ ⟨hbk7, ?_, hR2, HM.out.sep⟩ hF7 HM.out.own (.inl rfl)
          rw [HPL.out false] at hR1 ⊢
          exact hR1
      · go_wp2_with fail
        go_ret
        have hst : stale s c := HM.out.st.2 (.inr ⟨rfl, rfl⟩)
        have hlseq := HM.out.old hst
        refine rdo_post (call_stale hst) (.slice (some ⟨g, 0, none⟩) ls'.length cap) v2 _ rfl w4 ⟨HBK.out, ?_, HR2.out, HM.out.sep⟩ ?_ HM.out.own (.inl rfl)
        · have := HR1.out
          rw [hlseq] at this
          rw [hlseq]
          exact this
        · exact HF4.out
    · have d1 : decide (c.token < tok) = false := decide_eq_false (by omega)
      have d1' : ¬ c.token < tok := by omega
      have d2 : (tok == c.token) = false := beq_eq_false_iff_ne.2 (by omega)
      have d3 : decide (tok < c.token) = true := decide_eq_true hgt
      have HST : ¬ stale s c := fun h => by
        rcases HM.out.st.1 h with h | ⟨h, _⟩ <;> omega
      have hCne : ¬ C = X := by have := HCX.out; omega
      have hCne' : ¬ X = C := by have := HCX.out; omega
      go_upto_region 11 with (fail)
      have hX5 := Bk.set (Bk.set hX4 4 (.bool false)) 3 (.int .i64 c.token)
      have hXf : Frm (fun k => k = X) w4 ((w4.setCell ⟨X, 4, none⟩ (.bool false)).setCell ⟨X, 3, none⟩ (.int .i64 c.token)) := ((Frm.refl _ w4).set1 4 _).set1 3 _
      simp at hX5
      have hs5 := hXf.size
      have hcb5 := hXf.blk HCB.out (by have := HCX.out; omega)
      have hbk5 := hXf.blk HBK.out (by have := HBX.out; omega)
      have hR1 := owns_frm HR1.out hXf (fun k hk e => by cases hk; have h1 := HGX.out; have h2 : g = X := e; omega)
      have hR2 := owns_frm HR2.out hXf (fun k hk e => by have := HVX.out k hk; omega)
      have hF5 := HF4.out.then_ hXf (fun k hk e => by have := HWX.out; omega)
      clear hXf
      generalize ((w4.setCell ⟨X, 4, none⟩ (.bool false)).setCell ⟨X, 3, none⟩ (.int .i64 c.token)) = w5 at *
      obtain ⟨x0, x1, x2, x3, x4⟩ := Bk.c5 hX5
      obtain ⟨b0, b1, b2⟩ := Bk.c3 hbk5
      refine st_tail 7 (by kernel_rfl) (by kernel_rfl) ?_
      simp only [List.take_succ_cons, List.take_zero, List.drop_succ_cons, List.drop_zero]
      repeat still_step
      refine wpStill_nil ?_
      go_wp2_with (refine wpList_store_row (f := Lf.cells) (l := ls') rfl 51 (.tmp 78) (.tmp 77) rfl ⟨c.tenant, c.key, c.epoch, c.token, false⟩ (owns_drew hR1) (fun _ => rfl) rfl HM.out.hi rfl rfl iL rfl rfl ?_; intro w6 hR6 hf6)
      have hf6' : Frm (fun k => k = g) w5 w6 := ((Frm.refl (fun k => k = g) w5).drew).trans hf6
      rw [HM.out.set0 false] at hR6
      have hcb6 := hf6'.blk hcb5 (by have := HCG.out; omega)
      have hbk6 := hf6'.blk hbk5 (by have := HGB.out; omega)
      have hR2 := owns_frm hR2 hf6' (fun k hk e => by have := HM.out.sep g rfl; subst e; exact this hk)
      have hF6 := hF5.then_ hf6' (fun k hk e => HG.out k hk e)
      have hs6 := hf6'.size
      clear hX5 hcb5 hbk5 hR1 hF5 hf6 hf6' x0 x1 x2 x3 x4 b0 b1 b2 c0 c4
      obtain ⟨b0, b1, b2⟩ := Bk.c3 hbk6
      obtain ⟨c0, c1, c2, c3, c4, c5, c6⟩ := Bk.c7 hcb6
      go_upto_region 12 with (fail)
      refine st_tail 12 (by kernel_rfl) (by kernel_rfl) ?_
      simp only [List.take_succ_cons, List.take_zero, List.drop_succ_cons, List.drop_zero]
      repeat still_step
      refine wpStill_nil ?_
      go_wp2_with fail
      obtain ⟨m, hm⟩ : ∃ m, met s.ef c.tenant c.key c.epoch c.phase = m := ⟨_, rfl⟩
      have HMT := Lib.hid hm
      refine (met_is (Sl.of_own (owns_drew hR2)) hm).mono ?_
      rintro e w7 ⟨rfl, hf7⟩
      have hf7' : Frm0 w6 w7 := ((Frm.refl (fun _ => False) w6).drew).trans hf7
      have hcb7 := hf7'.blk hcb6 (fun h => h)
      have hbk7 := hf7'.blk hbk6 (fun h => h)
      have hR1 := owns_frm0 hR6 hf7'
      have hR2 := owns_frm0 hR2 hf7'
      have hF7 := hF6.then0 hf7'
      have hs7 := hf7'.size
      have HBW := Lib.hid (Bk.lt hbk7)
      have HGW := Lib.hid (hR1.lt g rfl).2
      clear hm hcb6 hbk6 hR6 hF6 hf7 hf7' b0 b1 b2 c0 c1 c2 c3 c4 c5 c6
      obtain ⟨b0, b1, b2⟩ := Bk.c3 hbk7
      obtain ⟨c0, c1, c2, c3, c4, c5, c6⟩ := Bk.c7 hcb7
      have hpl := HPL.out false
      cases m
      · have hmf := HMT.out
        by_cases hlat : 0 < s.later
        · have hw1 : IntKind.i64.wrap (s.later - 1) = s.later - 1 := IntWalk.i64_in _ (by omega)
          have fb2 := Bk.frozen hbk7 2
          have HN := Lib.hid (call_later HST hmf hlat)
          have hc4 := hR1.cellAt (i * 5 + 4) (by have := HM.out.hi; omega)
          have hthere := owns_there hR1 (i * 5 + 4) 1 (by have := HM.out.hi; omega)
          have hfz := (hthere 0 (by omega)).2
          obtain ⟨y, hy⟩ := Option.isSome_iff_exists.1 (hthere 0 (by omega)).1
          rw [Nat.add_zero] at hfz hy
          have HP4 := Lib.hid hpl
          clear hc4 hthere hmf hpl
          go_wp2_with fail
          go_ret
          have hg1 : Frm (fun k => k = rb) w7 (w7.setCell ⟨rb, 2, none⟩ (.int .i64 (s.later - 1))) := (Frm.refl _ w7).set1 2 _
          have hb8 := Bk.set hbk7 2 (.int .i64 (s.later - 1))
          have hR1b := owns_frm hR1 hg1 (fun k hk e => by cases hk; have h1 := HGB.out; have h2 : g = rb := e; omega)
          have hR2b := owns_frm hR2 hg1 (fun k hk e => by have := HVB.out k hk; omega)
          have hst := hR1b.stored (i * 5 + 4) (.bool true)
          have hg2 : Frm (fun k => k = g) (w7.setCell ⟨rb, 2, none⟩ (.int .i64 (s.later - 1))) ((w7.setCell ⟨rb, 2, none⟩ (.int .i64 (s.later - 1))).setCell ⟨g, i * 5 + 4, none⟩ (.bool true)) := (Frm.refl _ _).set1 _ _
          refine rdo_post HN.out (.slice (some ⟨g, 0, none⟩) ls'.length cap) v2 _ rfl _ ⟨?_, ?_, owns_frm hR2b hg2 (fun k hk e => by have := HM.out.sep g rfl; subst e; exact this hk), HM.out.sep⟩ ((hF7.then_ hg1 (fun k hk e => .inl e)).then_ hg2 (fun k hk e => HG.out k hk e)) HM.out.own (.inl rfl)
          · have := hg2.blk hb8 (by have := HGB.out; omega)
            simpa using this
          · have h1 := hst.1
            rw [← HM.out.set0 false, flat_set1 Lf.cells 5 (fun _ => rfl) (ls'.set i ⟨c.tenant, c.key, c.epoch, c.token, false⟩) i 4 (by rw [List.length_set]; exact HM.out.hi) (by omega) ⟨c.tenant, c.key, c.epoch, c.token, true⟩ (.bool true) (by rw [List.getElem_set_self]; rfl), List.set_set, HM.out.set0 true] at h1
            rw [HPL.out true] at h1 ⊢
            exact h1
        · have HN := Lib.hid (call_new HST hmf hlat)
          have fb1 := Bk.frozen hbk7 1
          clear hmf
          go_upto_region 18 with (fail)
          refine wp_region_held_drew (S := fun w9 => w9.heap[C]? = some (.cells #[.int .i64 c.tenant, .string c.key, .int .i64 c.epoch, .int .i64 c.phase, .int .i64 c.token, .string c.name, .string c.body] 28 (0, 0))) (by kernel_rfl) (hcb7) (fun hHeld => ?_)
          refine wpAnyH_take (i := 0) (v := ?_) rfl (by kernel_rfl) (by kernel_rfl) (by kernel_rfl) (fun _ _ _ h => h) (Or.inl ⟨by rfl, ?_⟩) (by assumption) ?_
          rotate_left 1
          focus (intro w hSw; (try dsimp only at hSw); obtain ⟨k0, k1, k2, k3, k4, k5, k6⟩ := Bk.c7 hSw; go_simp; (try with_reducible rfl))
          (try simp only [Act.put, List.getElem_toArray, List.getElem_cons_succ, List.getElem_cons_zero, List.setIfInBounds_toArray, List.set_cons_zero, List.set_cons_succ])
          refine wpAnyH_take (i := 1) (v := ?_) rfl (by kernel_rfl) (by kernel_rfl) (by kernel_rfl) (fun _ _ _ h => h) (Or.inl ⟨by rfl, ?_⟩) (by assumption) ?_
          rotate_left 1
          focus (intro w hSw; (try dsimp only at hSw); obtain ⟨k0, k1, k2, k3, k4, k5, k6⟩ := Bk.c7 hSw; go_simp; (try with_reducible rfl))
          (try simp only [Act.put, List.getElem_toArray, List.getElem_cons_succ, List.getElem_cons_zero, List.setIfInBounds_toArray, List.set_cons_zero, List.set_cons_succ])
          refine wpAnyH_take (i := 2) (v := ?_) rfl (by kernel_rfl) (by kernel_rfl) (by kernel_rfl) (fun _ _ _ h => h) (Or.inl ⟨by rfl, ?_⟩) (by assumption) ?_
          rotate_left 1
          focus (intro w hSw; (try dsimp only at hSw); obtain ⟨k0, k1, k2, k3, k4, k5, k6⟩ := Bk.c7 hSw; go_simp; (try with_reducible rfl))
          (try simp only [Act.put, List.getElem_toArray, List.getElem_cons_succ, List.getElem_cons_zero, List.setIfInBounds_toArray, List.set_cons_zero, List.set_cons_succ])
          refine wpAnyH_take (i := 3) (v := ?_) rfl (by kernel_rfl) (by kernel_rfl) (by kernel_rfl) (fun _ _ _ h => h) (Or.inl ⟨by rfl, ?_⟩) (by assumption) ?_
          rotate_left 1
          focus (intro w hSw; (try dsimp only at hSw); obtain ⟨k0, k1, k2, k3, k4, k5, k6⟩ := Bk.c7 hSw; go_simp; (try with_reducible rfl))
          (try simp only [Act.put, List.getElem_toArray, List.getElem_cons_succ, List.getElem_cons_zero, List.setIfInBounds_toArray, List.set_cons_zero, List.set_cons_succ])
          refine wpAnyH_take (i := 5) (v := ?_) rfl (by kernel_rfl) (by kernel_rfl) (by kernel_rfl) (fun _ _ _ h => h) (Or.inl ⟨by rfl, ?_⟩) (by assumption) ?_
          rotate_left 1
          focus (intro w hSw; (try dsimp only at hSw); obtain ⟨k0, k1, k2, k3, k4, k5, k6⟩ := Bk.c7 hSw; go_simp; (try with_reducible rfl))
          (try simp only [Act.put, List.getElem_toArray, List.getElem_cons_succ, List.getElem_cons_zero, List.setIfInBounds_toArray, List.set_cons_zero, List.set_cons_succ])
          refine wpAnyH_take (i := 6) (v := ?_) rfl (by kernel_rfl) (by kernel_rfl) (by kernel_rfl) (fun _ _ _ h => h) (Or.inl ⟨by rfl, ?_⟩) (by assumption) ?_
          rotate_left 1
          focus (intro w hSw; (try dsimp only at hSw); obtain ⟨k0, k1, k2, k3, k4, k5, k6⟩ := Bk.c7 hSw; go_simp; (try with_reducible rfl))
          (try simp only [Act.put, List.getElem_toArray, List.getElem_cons_succ, List.getElem_cons_zero, List.setIfInBounds_toArray, List.set_cons_zero, List.set_cons_succ])
          refine wpAnyH_take (i := 7) (v := ?_) rfl (by kernel_rfl) (by kernel_rfl) (by kernel_rfl) (fun _ _ _ h => h) (Or.inl ⟨by rfl, ?_⟩) (by assumption) ?_
          rotate_left 1
          focus (intro w hSw; (try dsimp only at hSw); obtain ⟨k0, k1, k2, k3, k4, k5, k6⟩ := Bk.c7 hSw; go_simp; (try with_reducible rfl))
          (try simp only [Act.put, List.getElem_toArray, List.getElem_cons_succ, List.getElem_cons_zero, List.setIfInBounds_toArray, List.set_cons_zero, List.set_cons_succ])
          refine wpAnyH_take (i := 8) (v := ?_) rfl (by kernel_rfl) (by kernel_rfl) (by kernel_rfl) (fun _ _ _ h => h) (Or.inl ⟨by rfl, ?_⟩) (by assumption) ?_
          rotate_left 1
          focus (intro w hSw; (try dsimp only at hSw); obtain ⟨k0, k1, k2, k3, k4, k5, k6⟩ := Bk.c7 hSw; go_simp; (try with_reducible rfl))
          (try simp only [Act.put, List.getElem_toArray, List.getElem_cons_succ, List.getElem_cons_zero, List.setIfInBounds_toArray, List.set_cons_zero, List.set_cons_succ])
          refine wpAnyH_take (i := 9) (v := ?_) rfl (by kernel_rfl) (by kernel_rfl) (by kernel_rfl) (fun _ _ _ h => h) (Or.inl ⟨by rfl, ?_⟩) (by assumption) ?_
          rotate_left 1
          focus (intro w hSw; (try dsimp only at hSw); obtain ⟨k0, k1, k2, k3, k4, k5, k6⟩ := Bk.c7 hSw; go_simp; (try with_reducible rfl))
          (try simp only [Act.put, List.getElem_toArray, List.getElem_cons_succ, List.getElem_cons_zero, List.setIfInBounds_toArray, List.set_cons_zero, List.set_cons_succ])
          refine wpAnyH_take (i := 10) (v := ?_) rfl (by kernel_rfl) (by kernel_rfl) (by kernel_rfl) (fun _ _ _ h => h) (Or.inl ⟨by rfl, ?_⟩) (by assumption) ?_
          rotate_left 1
          focus (intro w hSw; (try dsimp only at hSw); obtain ⟨k0, k1, k2, k3, k4, k5, k6⟩ := Bk.c7 hSw; go_simp; (try with_reducible rfl))
          (try simp only [Act.put, List.getElem_toArray, List.getElem_cons_succ, List.getElem_cons_zero, List.setIfInBounds_toArray, List.set_cons_zero, List.set_cons_succ])
          refine wpAnyH_take (i := 11) (v := ?_) rfl (by kernel_rfl) (by kernel_rfl) (by kernel_rfl) (fun _ _ _ h => h) (Or.inl ⟨by rfl, ?_⟩) (by assumption) ?_
          rotate_left 1
          focus (intro w hSw; (try dsimp only at hSw); obtain ⟨k0, k1, k2, k3, k4, k5, k6⟩ := Bk.c7 hSw; go_simp; (try with_reducible rfl))
          (try simp only [Act.put, List.getElem_toArray, List.getElem_cons_succ, List.getElem_cons_zero, List.setIfInBounds_toArray, List.set_cons_zero, List.set_cons_succ])
          refine wpAnyH_take (i := 12) (v := ?_) rfl (by kernel_rfl) (by kernel_rfl) (by kernel_rfl) (fun _ _ _ h => h) (Or.inl ⟨by rfl, ?_⟩) (by assumption) ?_
          rotate_left 1
          focus (intro w hSw; (try dsimp only at hSw); obtain ⟨k0, k1, k2, k3, k4, k5, k6⟩ := Bk.c7 hSw; go_simp; (try with_reducible rfl))
          (try simp only [Act.put, List.getElem_toArray, List.getElem_cons_succ, List.getElem_cons_zero, List.setIfInBounds_toArray, List.set_cons_zero, List.set_cons_succ])
          refine wpAnyH_take (i := 13) (v := ?_) rfl (by kernel_rfl) (by kernel_rfl) (by kernel_rfl) (fun _ _ _ h => h) (Or.inl ⟨by rfl, ?_⟩) (by assumption) ?_
          rotate_left 1
          focus (intro w hSw; (try dsimp only at hSw); obtain ⟨k0, k1, k2, k3, k4, k5, k6⟩ := Bk.c7 hSw; go_simp; (try with_reducible rfl))
          (try simp only [Act.put, List.getElem_toArray, List.getElem_cons_succ, List.getElem_cons_zero, List.setIfInBounds_toArray, List.set_cons_zero, List.set_cons_succ])
          refine wpAnyH_take (i := 14) (v := ?_) rfl (by kernel_rfl) (by kernel_rfl) (by kernel_rfl) (fun _ _ _ h => h) (Or.inl ⟨by rfl, ?_⟩) (by assumption) ?_
          rotate_left 1
          focus (intro w hSw; (try dsimp only at hSw); obtain ⟨k0, k1, k2, k3, k4, k5, k6⟩ := Bk.c7 hSw; go_simp; (try with_reducible rfl))
          (try simp only [Act.put, List.getElem_toArray, List.getElem_cons_succ, List.getElem_cons_zero, List.setIfInBounds_toArray, List.set_cons_zero, List.set_cons_succ])
          refine wpAnyH_take (i := 15) (v := ?_) rfl (by kernel_rfl) (by kernel_rfl) (by kernel_rfl) (fun _ _ _ h => h) (Or.inl ⟨by rfl, ?_⟩) (by assumption) ?_
          rotate_left 1
          focus (intro w hSw; (try dsimp only at hSw); obtain ⟨k0, k1, k2, k3, k4, k5, k6⟩ := Bk.c7 hSw; go_simp; (try with_reducible rfl))
          (try simp only [Act.put, List.getElem_toArray, List.getElem_cons_succ, List.getElem_cons_zero, List.setIfInBounds_toArray, List.set_cons_zero, List.set_cons_succ])
          refine wpAnyH_take (i := 16) (v := ?_) rfl (by kernel_rfl) (by kernel_rfl) (by kernel_rfl) (fun _ _ _ h => h) (Or.inl ⟨by rfl, ?_⟩) (by assumption) ?_
          rotate_left 1
          focus (intro w hSw; (try dsimp only at hSw); obtain ⟨k0, k1, k2, k3, k4, k5, k6⟩ := Bk.c7 hSw; go_simp; (try with_reducible rfl))
          (try simp only [Act.put, List.getElem_toArray, List.getElem_cons_succ, List.getElem_cons_zero, List.setIfInBounds_toArray, List.set_cons_zero, List.set_cons_succ])
          refine wpAnyH_take (i := 17) (v := ?_) rfl (by kernel_rfl) (by kernel_rfl) (by kernel_rfl) (fun _ _ _ h => h) (Or.inl ⟨by rfl, ?_⟩) (by assumption) ?_
          rotate_left 1
          focus (intro w hSw; (try dsimp only at hSw); obtain ⟨k0, k1, k2, k3, k4, k5, k6⟩ := Bk.c7 hSw; go_simp; (try with_reducible rfl))
          (try simp only [Act.put, List.getElem_toArray, List.getElem_cons_succ, List.getElem_cons_zero, List.setIfInBounds_toArray, List.set_cons_zero, List.set_cons_succ])
          refine wpAnyH_take (i := 18) (v := ?_) rfl (by kernel_rfl) (by kernel_rfl) (by kernel_rfl) (fun _ _ _ h => h) (Or.inl ⟨by rfl, ?_⟩) (by assumption) ?_
          rotate_left 1
          focus (intro w hSw; (try dsimp only at hSw); obtain ⟨k0, k1, k2, k3, k4, k5, k6⟩ := Bk.c7 hSw; go_simp; (try with_reducible rfl))
          (try simp only [Act.put, List.getElem_toArray, List.getElem_cons_succ, List.getElem_cons_zero, List.setIfInBounds_toArray, List.set_cons_zero, List.set_cons_succ])
          refine wpAnyH_take (i := 19) (v := ?_) rfl (by kernel_rfl) (by kernel_rfl) (by kernel_rfl) (fun _ _ _ h => h) (Or.inl ⟨by rfl, ?_⟩) (by assumption) ?_
          rotate_left 1
          focus (intro w hSw; (try dsimp only at hSw); obtain ⟨k0, k1, k2, k3, k4, k5, k6⟩ := Bk.c7 hSw; go_simp; (try with_reducible rfl))
          (try simp only [Act.put, List.getElem_toArray, List.getElem_cons_succ, List.getElem_cons_zero, List.setIfInBounds_toArray, List.set_cons_zero, List.set_cons_succ])
          refine wpAnyH_ready (rs := [4, 20]) (by kernel_rfl) (by simp) ?_
          refine AllReadyH.cons rfl (fun K hK => ?_) (AllReadyH.cons rfl (fun K hK => ?_) AllReadyH.nil)
          · rw [if_pos (by rfl)]
            go_simp
            refine hK.out _ _ (by assumption) (fun hHeld => ?_)
            clear hK K
            (try simp only [Act.put, List.getElem_toArray, List.getElem_cons_succ, List.getElem_cons_zero, List.setIfInBounds_toArray, List.set_cons_zero, List.set_cons_succ])
            refine wpAnyH_ready (rs := [20]) (by kernel_rfl) (by simp) ?_
            refine AllReadyH.cons rfl (fun K hK => ?_) AllReadyH.nil
            rw [if_pos (by rfl)]
            go_simp
            refine hK.out _ _ (Bk.alloc (by assumption) _) (fun hHeld => ?_)
            clear hK K
            (try simp only [Act.put, List.getElem_toArray, List.getElem_cons_succ, List.getElem_cons_zero, List.setIfInBounds_toArray, List.set_cons_zero, List.set_cons_succ])
            refine wpAnyH_ready (rs := [21]) (by kernel_rfl) (by simp) ?_
            refine AllReadyH.cons rfl (fun K hK => ?_) AllReadyH.nil
            refine step_append_sl rfl (.tmp 115) (.tmp 131) rfl Eef (rb + 1) v2 (.slice (some ⟨w7.heap.size, 0, none⟩) 1 1) s.ef.length 1 (s.ef.flatMap Ca.cells) (Ca.cells c) rfl rfl (World.ownsRow.alloc hR2 _) (Sl.new w7 #[.int .i64 c.tenant, .string c.key, .int .i64 c.epoch, .int .i64 c.phase, .int .i64 c.token, .string c.name, .string c.body] 37 1 (by decide) (by omega)) rfl (ca_one c) (by unfold maxLen; omega) (by omega) (by have := HBW.out; simp; omega) ?_
            intro u2 w8 hown8 hf8 hat8
            obtain ⟨g8, cap8, rfl⟩ := owns_form hown8
            have hf8' : Frm (fun k => v2.ownBlock = some k) w7 w8 := Frm.then_ (by first | exact ((Frm.refl _ w7).alloc (.cells #[.int .i64 c.tenant, .string c.key, .int .i64 c.epoch, .int .i64 c.phase, .int .i64 c.token, .string c.name, .string c.body] 37)).drew | exact ((Frm.refl _ w7).drew.alloc (.cells #[.int .i64 c.tenant, .string c.key, .int .i64 c.epoch, .int .i64 c.phase, .int .i64 c.token, .string c.name, .string c.body] 37))) hf8 (fun k hk e => e)
            have hbk8 := hf8'.blk hbk7 (fun e => by have := HVB.out _ e; omega)
            have hcb8 := hf8'.blk hcb7 (fun e => HM.out.hCn.2.1 e)
            refine hK.out _ _ hcb8 (fun hHeld => ?_)
            clear hK K
            (try simp only [Act.put, List.getElem_toArray, List.getElem_cons_succ, List.getElem_cons_zero, List.setIfInBounds_toArray, List.set_cons_zero, List.set_cons_succ])
            refine wpAnyH_take (i := 22) (v := ?_) rfl (by kernel_rfl) (by kernel_rfl) (by kernel_rfl) (fun _ _ _ h => h) (Or.inl ⟨by rfl, ?_⟩) (by assumption) ?_
            rotate_left 1
            focus (intro w hSw; (try dsimp only at hSw); go_simp; (try with_reducible rfl))
            (try simp only [Act.put, List.getElem_toArray, List.getElem_cons_succ, List.getElem_cons_zero, List.setIfInBounds_toArray, List.set_cons_zero, List.set_cons_succ])
            refine wpAnyH_take (i := 23) (v := ?_) rfl (by kernel_rfl) (by kernel_rfl) (by kernel_rfl) (fun _ _ _ h => h) (Or.inl ⟨by rfl, ?_⟩) (by assumption) ?_
            rotate_left 1
            focus (intro w hSw; (try dsimp only at hSw); go_simp; (try with_reducible rfl))
            (try simp only [Act.put, List.getElem_toArray, List.getElem_cons_succ, List.getElem_cons_zero, List.setIfInBounds_toArray, List.set_cons_zero, List.set_cons_succ])
            refine wpAnyH_ready (rs := [24]) (by kernel_rfl) (by simp) ?_
            refine AllReadyH.cons rfl (fun K hK => ?_) AllReadyH.nil
            have f29 := Bk.frozen hbk8 1
            have c29 := (Bk.c3 hbk8).2.1
            rw [if_pos (by rfl)]
            go_simp
            refine hK.out _ _ (Bk.far (by assumption) (p := ⟨rb, 1, none⟩) (show C ≠ rb from HM.out.hCn.2.2) _) (fun hHeld => ?_)
            clear hK K
            (try simp only [Act.put, List.getElem_toArray, List.getElem_cons_succ, List.getElem_cons_zero, List.setIfInBounds_toArray, List.set_cons_zero, List.set_cons_succ])
            refine wpAnyH_done (by kernel_rfl) ?_ _
            go_wp2_with fail
            go_ret
            have hg1 : Frm (fun k => k = rb) w8 (w8.setCell ⟨rb, 1, none⟩ (.slice (some ⟨g8, 0, none⟩) (s.ef.length + 1) cap8)) := (Frm.refl _ w8).set1 1 _
            have hb9 := Bk.set hbk8 1 (.slice (some ⟨g8, 0, none⟩) (s.ef.length + 1) cap8)
            have hR1b := owns_frm (owns_frm hR1 hf8' (fun k hk e => HM.out.sep k hk e)) hg1 (fun k hk e => by cases hk; have h1 := HGB.out; have h2 : g = rb := e; omega)
            have hu2 : ∀ k, (Value.slice (some ⟨g8, 0, none⟩) (s.ef.length + 1) cap8).ownBlock = some k → k ≠ rb ∧ (v2.ownBlock = some k ∨ w7.heap.size ≤ k) := fun k hk => by
              rcases hat8 with e | e
              · rw [e] at hk; exact ⟨by have := HVB.out k hk; omega, .inl hk⟩
              · rw [e] at hk; cases hk; have := HBW.out; constructor
                · simp; omega
                · right; simp
            refine rdo_post HN.out (.slice (some ⟨g, 0, none⟩) ls'.length cap) (.slice (some ⟨g8, 0, none⟩) (s.ef.length + 1) cap8) _ rfl _ ⟨?_, ?_, ?_, ?_⟩ ((hF7.then_ hf8' (fun k hk e => .inr (.inr e))).then_ hg1 (fun k hk e => .inl e)) HM.out.own ?_
            · simpa using hb9
            · rw [HPL.out false] at hR1b ⊢
              exact hR1b
            · have h1 := owns_frm hown8 hg1 (fun k hk e => (hu2 k hk).1 e)
              simpa [List.flatMap_append] using h1
            · intro k hk he
              rcases (hu2 k he).2 with e | e
              · exact HM.out.sep k hk e
              · cases hk; have h1 := HGW.out; have h2 : w7.heap.size ≤ g := e; omega
            · rcases hat8 with e | e
              · exact .inl e
              · refine .inr (fun k hk => ?_)
                rw [e] at hk; cases hk
                have := hF7.size
                simp; omega
          · rw [if_pos (by rfl)]
            go_simp
            refine hK.out _ _ (Bk.alloc (by assumption) _) (fun hHeld => ?_)
            clear hK K
            (try simp only [Act.put, List.getElem_toArray, List.getElem_cons_succ, List.getElem_cons_zero, List.setIfInBounds_toArray, List.set_cons_zero, List.set_cons_succ])
            refine wpAnyH_ready (rs := [4]) (by kernel_rfl) (by simp) ?_
            refine AllReadyH.cons rfl (fun K hK => ?_) AllReadyH.nil
            have a29 := (Bk.c3 (show (w7.alloc (.cells #[.int .i64 c.tenant, .string c.key, .int .i64 c.epoch, .int .i64 c.phase, .int .i64 c.token, .string c.name, .string c.body] 37)).drew.heap[rb]? = _ from Bk.alloc (show w7.drew.heap[rb]? = _ from hbk7) (.cells #[.int .i64 c.tenant, .string c.key, .int .i64 c.epoch, .int .i64 c.phase, .int .i64 c.token, .string c.name, .string c.body] 37))).2.1
            rw [if_pos (by rfl)]
            go_simp
            refine hK.out _ _ (by assumption) (fun hHeld => ?_)
            clear hK K
            (try simp only [Act.put, List.getElem_toArray, List.getElem_cons_succ, List.getElem_cons_zero, List.setIfInBounds_toArray, List.set_cons_zero, List.set_cons_succ])
            refine wpAnyH_ready (rs := [21]) (by kernel_rfl) (by simp) ?_
            refine AllReadyH.cons rfl (fun K hK => ?_) AllReadyH.nil
            refine step_append_sl rfl (.tmp 115) (.tmp 131) rfl Eef (rb + 1) v2 (.slice (some ⟨w7.heap.size, 0, none⟩) 1 1) s.ef.length 1 (s.ef.flatMap Ca.cells) (Ca.cells c) rfl rfl (World.ownsRow.alloc hR2 _) (Sl.new w7 #[.int .i64 c.tenant, .string c.key, .int .i64 c.epoch, .int .i64 c.phase, .int .i64 c.token, .string c.name, .string c.body] 37 1 (by decide) (by omega)) rfl (ca_one c) (by unfold maxLen; omega) (by omega) (by have := HBW.out; simp; omega) ?_
            intro u2 w8 hown8 hf8 hat8
            obtain ⟨g8, cap8, rfl⟩ := owns_form hown8
            have hf8' : Frm (fun k => v2.ownBlock = some k) w7 w8 := Frm.then_ (by first | exact ((Frm.refl _ w7).alloc (.cells #[.int .i64 c.tenant, .string c.key, .int .i64 c.epoch, .int .i64 c.phase, .int .i64 c.token, .string c.name, .string c.body] 37)).drew | exact ((Frm.refl _ w7).drew.alloc (.cells #[.int .i64 c.tenant, .string c.key, .int .i64 c.epoch, .int .i64 c.phase, .int .i64 c.token, .string c.name, .string c.body] 37))) hf8 (fun k hk e => e)
            have hbk8 := hf8'.blk hbk7 (fun e => by have := HVB.out _ e; omega)
            have hcb8 := hf8'.blk hcb7 (fun e => HM.out.hCn.2.1 e)
            refine hK.out _ _ hcb8 (fun hHeld => ?_)
            clear hK K
            (try simp only [Act.put, List.getElem_toArray, List.getElem_cons_succ, List.getElem_cons_zero, List.setIfInBounds_toArray, List.set_cons_zero, List.set_cons_succ])
            refine wpAnyH_take (i := 22) (v := ?_) rfl (by kernel_rfl) (by kernel_rfl) (by kernel_rfl) (fun _ _ _ h => h) (Or.inl ⟨by rfl, ?_⟩) (by assumption) ?_
            rotate_left 1
            focus (intro w hSw; (try dsimp only at hSw); go_simp; (try with_reducible rfl))
            (try simp only [Act.put, List.getElem_toArray, List.getElem_cons_succ, List.getElem_cons_zero, List.setIfInBounds_toArray, List.set_cons_zero, List.set_cons_succ])
            refine wpAnyH_take (i := 23) (v := ?_) rfl (by kernel_rfl) (by kernel_rfl) (by kernel_rfl) (fun _ _ _ h => h) (Or.inl ⟨by rfl, ?_⟩) (by assumption) ?_
            rotate_left 1
            focus (intro w hSw; (try dsimp only at hSw); go_simp; (try with_reducible rfl))
            (try simp only [Act.put, List.getElem_toArray, List.getElem_cons_succ, List.getElem_cons_zero, List.setIfInBounds_toArray, List.set_cons_zero, List.set_cons_succ])
            refine wpAnyH_ready (rs := [24]) (by kernel_rfl) (by simp) ?_
            refine AllReadyH.cons rfl (fun K hK => ?_) AllReadyH.nil
            have f29 := Bk.frozen hbk8 1
            have c29 := (Bk.c3 hbk8).2.1
            rw [if_pos (by rfl)]
            go_simp
            refine hK.out _ _ (Bk.far (by assumption) (p := ⟨rb, 1, none⟩) (show C ≠ rb from HM.out.hCn.2.2) _) (fun hHeld => ?_)
            clear hK K
            (try simp only [Act.put, List.getElem_toArray, List.getElem_cons_succ, List.getElem_cons_zero, List.setIfInBounds_toArray, List.set_cons_zero, List.set_cons_succ])
            refine wpAnyH_done (by kernel_rfl) ?_ _
            go_wp2_with fail
            go_ret
            have hg1 : Frm (fun k => k = rb) w8 (w8.setCell ⟨rb, 1, none⟩ (.slice (some ⟨g8, 0, none⟩) (s.ef.length + 1) cap8)) := (Frm.refl _ w8).set1 1 _
            have hb9 := Bk.set hbk8 1 (.slice (some ⟨g8, 0, none⟩) (s.ef.length + 1) cap8)
            have hR1b := owns_frm (owns_frm hR1 hf8' (fun k hk e => HM.out.sep k hk e)) hg1 (fun k hk e => by cases hk; have h1 := HGB.out; have h2 : g = rb := e; omega)
            have hu2 : ∀ k, (Value.slice (some ⟨g8, 0, none⟩) (s.ef.length + 1) cap8).ownBlock = some k → k ≠ rb ∧ (v2.ownBlock = some k ∨ w7.heap.size ≤ k) := fun k hk => by
              rcases hat8 with e | e
              · rw [e] at hk; exact ⟨by have := HVB.out k hk; omega, .inl hk⟩
              · rw [e] at hk; cases hk; have := HBW.out; constructor
                · simp; omega
                · right; simp
            refine rdo_post HN.out (.slice (some ⟨g, 0, none⟩) ls'.length cap) (.slice (some ⟨g8, 0, none⟩) (s.ef.length + 1) cap8) _ rfl _ ⟨?_, ?_, ?_, ?_⟩ ((hF7.then_ hf8' (fun k hk e => .inr (.inr e))).then_ hg1 (fun k hk e => .inl e)) HM.out.own ?_
            · simpa using hb9
            · rw [HPL.out false] at hR1b ⊢
              exact hR1b
            · have h1 := owns_frm hown8 hg1 (fun k hk e => (hu2 k hk).1 e)
              simpa [List.flatMap_append] using h1
            · intro k hk he
              rcases (hu2 k he).2 with e | e
              · exact HM.out.sep k hk e
              · cases hk; have h1 := HGW.out; have h2 : w7.heap.size ≤ g := e; omega
            · rcases hat8 with e | e
              · exact .inl e
              · refine .inr (fun k hk => ?_)
                rw [e] at hk; cases hk
                have := hF7.size
                simp; omega
      · have HN := Lib.hid (call_met HST HMT.out)
        go_wp2_with fail
        go_ret
        refine rdo_post HN.out (.slice (some ⟨g, 0, none⟩) ls'.length cap) v2 _ rfl _ ⟨hbk7, ?_, hR2, HM.out.sep⟩ hF7 HM.out.own (.inl rfl)
        rw [HPL.out false] at hR1 ⊢
        exact hR1
  · obtain hil : i = s.ls.length := by omega
    rw [if_neg hlti] at hpl
    subst hpl
    obtain ⟨b0, b1, b2⟩ := Bk.c3 hR.blk
    obtain ⟨A1, cp1, hv1⟩ := owns_nil_form' hR.r1
    subst hv1
    have HIL := Lib.hid hil
    clear hil hi hlti
    go_upto_region 4 with (fail)
    have hbl2 := Bk.lt hR.blk
    refine wp_region_held_drew (S := fun w9 => w9.heap[C]? = some (.cells #[.int .i64 c.tenant, .string c.key, .int .i64 c.epoch, .int .i64 c.phase, .int .i64 c.token, .string c.name, .string c.body] 28 (0, 0))) (by kernel_rfl) (hCB) (fun hHeld => ?_)
    refine wpAnyH_take (i := 0) (v := ?_) rfl (by kernel_rfl) (by kernel_rfl) (by kernel_rfl) (fun _ _ _ h => h) (Or.inl ⟨by rfl, ?_⟩) (by assumption) ?_
    rotate_left 1
    focus (intro w hSw; (try dsimp only at hSw); obtain ⟨k0, k1, k2, k3, k4, k5, k6⟩ := Bk.c7 hSw; go_simp; (try with_reducible rfl))
    (try simp only [Act.put, List.getElem_toArray, List.getElem_cons_succ, List.getElem_cons_zero, List.setIfInBounds_toArray, List.set_cons_zero, List.set_cons_succ])
    refine wpAnyH_take (i := 1) (v := ?_) rfl (by kernel_rfl) (by kernel_rfl) (by kernel_rfl) (fun _ _ _ h => h) (Or.inl ⟨by rfl, ?_⟩) (by assumption) ?_
    rotate_left 1
    focus (intro w hSw; (try dsimp only at hSw); obtain ⟨k0, k1, k2, k3, k4, k5, k6⟩ := Bk.c7 hSw; go_simp; (try with_reducible rfl))
    (try simp only [Act.put, List.getElem_toArray, List.getElem_cons_succ, List.getElem_cons_zero, List.setIfInBounds_toArray, List.set_cons_zero, List.set_cons_succ])
    refine wpAnyH_take (i := 2) (v := ?_) rfl (by kernel_rfl) (by kernel_rfl) (by kernel_rfl) (fun _ _ _ h => h) (Or.inl ⟨by rfl, ?_⟩) (by assumption) ?_
    rotate_left 1
    focus (intro w hSw; (try dsimp only at hSw); obtain ⟨k0, k1, k2, k3, k4, k5, k6⟩ := Bk.c7 hSw; go_simp; (try with_reducible rfl))
    (try simp only [Act.put, List.getElem_toArray, List.getElem_cons_succ, List.getElem_cons_zero, List.setIfInBounds_toArray, List.set_cons_zero, List.set_cons_succ])
    refine wpAnyH_take (i := 3) (v := ?_) rfl (by kernel_rfl) (by kernel_rfl) (by kernel_rfl) (fun _ _ _ h => h) (Or.inl ⟨by rfl, ?_⟩) (by assumption) ?_
    rotate_left 1
    focus (intro w hSw; (try dsimp only at hSw); obtain ⟨k0, k1, k2, k3, k4, k5, k6⟩ := Bk.c7 hSw; go_simp; (try with_reducible rfl))
    (try simp only [Act.put, List.getElem_toArray, List.getElem_cons_succ, List.getElem_cons_zero, List.setIfInBounds_toArray, List.set_cons_zero, List.set_cons_succ])
    refine wpAnyH_take (i := 5) (v := ?_) rfl (by kernel_rfl) (by kernel_rfl) (by kernel_rfl) (fun _ _ _ h => h) (Or.inl ⟨by rfl, ?_⟩) (by assumption) ?_
    rotate_left 1
    focus (intro w hSw; (try dsimp only at hSw); obtain ⟨k0, k1, k2, k3, k4, k5, k6⟩ := Bk.c7 hSw; go_simp; (try with_reducible rfl))
    (try simp only [Act.put, List.getElem_toArray, List.getElem_cons_succ, List.getElem_cons_zero, List.setIfInBounds_toArray, List.set_cons_zero, List.set_cons_succ])
    refine wpAnyH_take (i := 6) (v := ?_) rfl (by kernel_rfl) (by kernel_rfl) (by kernel_rfl) (fun _ _ _ h => h) (Or.inl ⟨by rfl, ?_⟩) (by assumption) ?_
    rotate_left 1
    focus (intro w hSw; (try dsimp only at hSw); obtain ⟨k0, k1, k2, k3, k4, k5, k6⟩ := Bk.c7 hSw; go_simp; (try with_reducible rfl))
    (try simp only [Act.put, List.getElem_toArray, List.getElem_cons_succ, List.getElem_cons_zero, List.setIfInBounds_toArray, List.set_cons_zero, List.set_cons_succ])
    refine wpAnyH_take (i := 7) (v := ?_) rfl (by kernel_rfl) (by kernel_rfl) (by kernel_rfl) (fun _ _ _ h => h) (Or.inl ⟨by rfl, ?_⟩) (by assumption) ?_
    rotate_left 1
    focus (intro w hSw; (try dsimp only at hSw); obtain ⟨k0, k1, k2, k3, k4, k5, k6⟩ := Bk.c7 hSw; go_simp; (try with_reducible rfl))
    (try simp only [Act.put, List.getElem_toArray, List.getElem_cons_succ, List.getElem_cons_zero, List.setIfInBounds_toArray, List.set_cons_zero, List.set_cons_succ])
    refine wpAnyH_take (i := 8) (v := ?_) rfl (by kernel_rfl) (by kernel_rfl) (by kernel_rfl) (fun _ _ _ h => h) (Or.inl ⟨by rfl, ?_⟩) (by assumption) ?_
    rotate_left 1
    focus (intro w hSw; (try dsimp only at hSw); obtain ⟨k0, k1, k2, k3, k4, k5, k6⟩ := Bk.c7 hSw; go_simp; (try with_reducible rfl))
    (try simp only [Act.put, List.getElem_toArray, List.getElem_cons_succ, List.getElem_cons_zero, List.setIfInBounds_toArray, List.set_cons_zero, List.set_cons_succ])
    refine wpAnyH_take (i := 9) (v := ?_) rfl (by kernel_rfl) (by kernel_rfl) (by kernel_rfl) (fun _ _ _ h => h) (Or.inl ⟨by rfl, ?_⟩) (by assumption) ?_
    rotate_left 1
    focus (intro w hSw; (try dsimp only at hSw); obtain ⟨k0, k1, k2, k3, k4, k5, k6⟩ := Bk.c7 hSw; go_simp; (try with_reducible rfl))
    (try simp only [Act.put, List.getElem_toArray, List.getElem_cons_succ, List.getElem_cons_zero, List.setIfInBounds_toArray, List.set_cons_zero, List.set_cons_succ])
    refine wpAnyH_take (i := 10) (v := ?_) rfl (by kernel_rfl) (by kernel_rfl) (by kernel_rfl) (fun _ _ _ h => h) (Or.inl ⟨by rfl, ?_⟩) (by assumption) ?_
    rotate_left 1
    focus (intro w hSw; (try dsimp only at hSw); obtain ⟨k0, k1, k2, k3, k4, k5, k6⟩ := Bk.c7 hSw; go_simp; (try with_reducible rfl))
    (try simp only [Act.put, List.getElem_toArray, List.getElem_cons_succ, List.getElem_cons_zero, List.setIfInBounds_toArray, List.set_cons_zero, List.set_cons_succ])
    refine wpAnyH_take (i := 11) (v := ?_) rfl (by kernel_rfl) (by kernel_rfl) (by kernel_rfl) (fun _ _ _ h => h) (Or.inl ⟨by rfl, ?_⟩) (by assumption) ?_
    rotate_left 1
    focus (intro w hSw; (try dsimp only at hSw); obtain ⟨k0, k1, k2, k3, k4, k5, k6⟩ := Bk.c7 hSw; go_simp; (try with_reducible rfl))
    (try simp only [Act.put, List.getElem_toArray, List.getElem_cons_succ, List.getElem_cons_zero, List.setIfInBounds_toArray, List.set_cons_zero, List.set_cons_succ])
    refine wpAnyH_take (i := 12) (v := ?_) rfl (by kernel_rfl) (by kernel_rfl) (by kernel_rfl) (fun _ _ _ h => h) (Or.inl ⟨by rfl, ?_⟩) (by assumption) ?_
    rotate_left 1
    focus (intro w hSw; (try dsimp only at hSw); obtain ⟨k0, k1, k2, k3, k4, k5, k6⟩ := Bk.c7 hSw; go_simp; (try with_reducible rfl))
    (try simp only [Act.put, List.getElem_toArray, List.getElem_cons_succ, List.getElem_cons_zero, List.setIfInBounds_toArray, List.set_cons_zero, List.set_cons_succ])
    refine wpAnyH_take (i := 13) (v := ?_) rfl (by kernel_rfl) (by kernel_rfl) (by kernel_rfl) (fun _ _ _ h => h) (Or.inl ⟨by rfl, ?_⟩) (by assumption) ?_
    rotate_left 1
    focus (intro w hSw; (try dsimp only at hSw); obtain ⟨k0, k1, k2, k3, k4, k5, k6⟩ := Bk.c7 hSw; go_simp; (try with_reducible rfl))
    (try simp only [Act.put, List.getElem_toArray, List.getElem_cons_succ, List.getElem_cons_zero, List.setIfInBounds_toArray, List.set_cons_zero, List.set_cons_succ])
    refine wpAnyH_ready (rs := [4, 14]) (by kernel_rfl) (by simp) ?_
    refine AllReadyH.cons rfl (fun K hK => ?_) (AllReadyH.cons rfl (fun K hK => ?_) AllReadyH.nil)
    · rw [if_pos (by rfl)]
      go_simp
      refine hK.out _ _ (by assumption) (fun hHeld => ?_)
      clear hK K
      (try simp only [Act.put, List.getElem_toArray, List.getElem_cons_succ, List.getElem_cons_zero, List.setIfInBounds_toArray, List.set_cons_zero, List.set_cons_succ])
      refine wpAnyH_ready (rs := [14]) (by kernel_rfl) (by simp) ?_
      refine AllReadyH.cons rfl (fun K hK => ?_) AllReadyH.nil
      rw [if_pos (by rfl)]
      go_simp
      refine hK.out _ _ (Bk.alloc (by assumption) _) (fun hHeld => ?_)
      clear hK K
      (try simp only [Act.put, List.getElem_toArray, List.getElem_cons_succ, List.getElem_cons_zero, List.setIfInBounds_toArray, List.set_cons_zero, List.set_cons_succ])
      refine wpAnyH_ready (rs := [15]) (by kernel_rfl) (by simp) ?_
      refine AllReadyH.cons rfl (fun K hK => ?_) AllReadyH.nil
      refine step_append_sl rfl (.tmp 26) (.tmp 36) rfl Elf (rb + 1) _ (.slice (some ⟨w2.heap.size, 0, none⟩) 1 1) s.ls.length 1 (s.ls.flatMap Lf.cells) (Lf.cells ⟨c.tenant, c.key, c.epoch, c.token, false⟩) rfl rfl (World.ownsRow.alloc hR.r1 _) (Sl.new w2 #[.int .i64 c.tenant, .string c.key, .int .i64 c.epoch, .int .i64 c.token, .bool false] 51 1 (by decide) (by omega)) rfl (by intro u hu; simp only [Lf.cells, List.mem_cons, List.not_mem_nil, or_false] at hu; rcases hu with rfl | rfl | rfl | rfl | rfl <;> rfl) (by unfold maxLen; omega) (by omega) (by simp; omega) ?_
      intro u1 w3 hown3 hf3 hat3
      obtain ⟨g3, cap3, rfl⟩ := owns_form hown3
      have hf3' : Frm (fun k => (Value.slice A1 s.ls.length cp1).ownBlock = some k) w2 w3 := Frm.then_ (by first | exact ((Frm.refl _ w2).alloc (.cells #[.int .i64 c.tenant, .string c.key, .int .i64 c.epoch, .int .i64 c.token, .bool false] 51)).drew | exact ((Frm.refl _ w2).drew.alloc (.cells #[.int .i64 c.tenant, .string c.key, .int .i64 c.epoch, .int .i64 c.token, .bool false] 51))) hf3 (fun k hk e => e)
      have hbk3 := hf3'.blk hR.blk (fun e => by have := (hR.r1.lt _ e).1; omega)
      have hcb3 := hf3'.blk hCB (fun e => by have := (HO.out.1 _ e).2; have := HCC.out; omega)
      refine hK.out _ _ hcb3 (fun hHeld => ?_)
      clear hK K
      (try simp only [Act.put, List.getElem_toArray, List.getElem_cons_succ, List.getElem_cons_zero, List.setIfInBounds_toArray, List.set_cons_zero, List.set_cons_succ])
      refine wpAnyH_take (i := 16) (v := ?_) rfl (by kernel_rfl) (by kernel_rfl) (by kernel_rfl) (fun _ _ _ h => h) (Or.inl ⟨by rfl, ?_⟩) (by assumption) ?_
      rotate_left 1
      focus (intro w hSw; (try dsimp only at hSw); go_simp; (try with_reducible rfl))
      (try simp only [Act.put, List.getElem_toArray, List.getElem_cons_succ, List.getElem_cons_zero, List.setIfInBounds_toArray, List.set_cons_zero, List.set_cons_succ])
      refine wpAnyH_take (i := 17) (v := ?_) rfl (by kernel_rfl) (by kernel_rfl) (by kernel_rfl) (fun _ _ _ h => h) (Or.inl ⟨by rfl, ?_⟩) (by assumption) ?_
      rotate_left 1
      focus (intro w hSw; (try dsimp only at hSw); go_simp; (try with_reducible rfl))
      (try simp only [Act.put, List.getElem_toArray, List.getElem_cons_succ, List.getElem_cons_zero, List.setIfInBounds_toArray, List.set_cons_zero, List.set_cons_succ])
      refine wpAnyH_ready (rs := [18]) (by kernel_rfl) (by simp) ?_
      refine AllReadyH.cons rfl (fun K hK => ?_) AllReadyH.nil
      have f29 := Bk.frozen hbk3 0
      have c29 := (Bk.c3 hbk3).1
      have hCrb : C ≠ rb := by have := HCC.out; omega
      rw [if_pos (by rfl)]
      go_simp
      refine hK.out _ _ (Bk.far (by assumption) (p := ⟨rb, 0, none⟩) hCrb _) (fun hHeld => ?_)
      clear hK K
      (try simp only [Act.put, List.getElem_toArray, List.getElem_cons_succ, List.getElem_cons_zero, List.setIfInBounds_toArray, List.set_cons_zero, List.set_cons_succ])
      refine wpAnyH_done (by kernel_rfl) ?_ _
      have hg3 : Frm (fun k => k = rb) w3 (w3.setCell ⟨rb, 0, none⟩ (.slice (some ⟨g3, 0, none⟩) (s.ls.length + 1) cap3)) := (Frm.refl _ w3).set1 0 _
      have hbk4 := Bk.set hbk3 0 (.slice (some ⟨g3, 0, none⟩) (s.ls.length + 1) cap3)
      have hcb4 := hg3.blk hcb3 hCrb
      have hown4 := owns_frm hown3 hg3 (fun k hk e => by have := (hown3.lt k hk).1; omega)
      have hR24 := owns_frm (owns_frm hR.r2 hf3' (fun k hk e => hR.sep k e hk)) hg3 (fun k hk e => by have := (hR.r2.lt k hk).1; omega)
      have hown : (Value.slice (some ⟨g3, 0, none⟩) (s.ls.length + 1) cap3).ownBlock = (Value.slice A1 s.ls.length cp1).ownBlock ∨ (Value.slice (some ⟨g3, 0, none⟩) (s.ls.length + 1) cap3).ownBlock = some (w2.heap.size + 1) := by
        rcases hat3 with e | e
        · exact .inl e
        · right
          rw [e]
          simp
      have hwC : w.heap.size = C := HCC.out
      have hM : ∃ ls' u1 tok sp, Md w (w3.setCell ⟨rb, 0, none⟩ (.slice (some ⟨g3, 0, none⟩) (s.ls.length + 1) cap3)) rb C (.slice A1 s.ls.length cp1) v2 u1 s c ls' i tok sp := by
        refine ⟨s.ls ++ [⟨c.tenant, c.key, c.epoch, c.token, false⟩], _, c.token, false, ⟨hcb4, by simpa using hbk4, by simpa using hown4, hR24, fun k hk he => ?_, ((hF2.mono (fun _ _ h => h.elim)).then_ hf3' (fun k hk e => .inr (.inl e))).then_ hg3 (fun k hk e => .inl e), ?_, by omega, ⟨fun e => ?_, fun e => ?_, hCrb⟩, by have := HIL.out; simp; omega, ?_, ?_, fun hs => ?_, fun b => ?_⟩⟩
        · rcases hown with e | e
          · rw [e] at hk; exact hR.sep k hk he
          · rw [e] at hk; cases hk; have := (hR.r2.lt _ he).2; omega
        · rcases hown with e | e
          · exact .inl e
          · refine .inr (fun k hk => ?_)
            rw [e] at hk; cases hk
            have := hF2.size; omega
        · rcases hown with e' | e'
          · rw [e'] at e; have := (HO.out.1 C e).2; omega
          · rw [e'] at e; cases e; have := Bk.lt hCB; omega
        · have := (HO.out.2 C e).2; omega
        · rw [List.getElem_append_right (by have := HIL.out; omega)]
          simp
        · have hf := HIF.out.2 HIL.out
          unfold stale
          rw [hf]
          simp
        · have hf := HIF.out.2 HIL.out
          unfold stale at hs
          rw [hf] at hs
          exact hs.elim
        · rw [HS.out.2 b HIL.out, HIL.out, List.set_append_right _ _ (Nat.le_refl _), Nat.sub_self]
          rfl
      have hq0 : True := trivial
      rw [show (s.ls.length : Int) = (i : Int) from by rw [HIL.out]]
      clear hg3 hbk4 hcb4 hown4 hR24 hown hwC hcb3 hbk3 f29 c29 hown3 hf3 hat3 hf3' hCrb b0 b1 b2 hbl2 hR hCB c0 c1 c2 c3 c4 c5 c6 hF2 hs2
      try clear a29
      generalize w3.setCell ⟨rb, 0, none⟩ (.slice (some ⟨g3, 0, none⟩) (s.ls.length + 1) cap3) = w3 at *
      obtain ⟨ls', u1, tok, sp, hM⟩ := hM
      obtain ⟨g, cap, rfl⟩ : ∃ g cap, u1 = .slice (some ⟨g, 0, none⟩) ls'.length cap := by
        rcases hM.r1.2 with ⟨_, h0⟩ | ⟨g, cap, cur, he, _⟩
        · have := hM.hi; omega
        · exact ⟨g, cap, he⟩
      have hrg := owns_range (f := Lf.cells) (l := ls') hM.r1 (fun _ => rfl) rfl i hM.hi
      rw [hM.at_] at hrg
      have hrg : w3.rangeAt g (i * 5) [.int .i64 c.tenant, .string c.key, .int .i64 c.epoch, .int .i64 tok, .bool sp] := hrg
      have hii : (i : Int) < (ls'.length : Int) := by have := hM.hi; omega
      have hi0 : (0 : Int) ≤ (i : Int) := by omega
      have HPL := Lib.hid (show ∀ b, ls'.length = (putL s.ls c.tenant c.key c.epoch c.token b).length from fun b => by rw [← hM.set0 b, List.length_set])
      obtain ⟨b0, b1, b2⟩ := Bk.c3 hM.bk
      have hgl := hM.r1.lt g rfl
      have halx := (Frm.refl (fun _ => False) w3).alloc (.cells #[.int .i64 c.tenant, .string c.key, .int .i64 c.epoch, .int .i64 tok, .bool sp] 51)
      have hX4 := Bk.new w3 (.cells #[.int .i64 c.tenant, .string c.key, .int .i64 c.epoch, .int .i64 tok, .bool sp] 51)
      have HCB := Lib.hid (halx.blk hM.cb (fun h => h))
      have HBK := Lib.hid (halx.blk hM.bk (fun h => h))
      have HR1 := Lib.hid (owns_frm0 hM.r1 halx)
      have HR2 := Lib.hid (owns_frm0 hM.r2 halx)
      have HF4 := Lib.hid (hM.frm.then0 halx)
      have HG := Lib.hid (show ∀ k, k < w.heap.size → k = g → rfp rb (.slice A1 s.ls.length cp1) v2 k from fun k hk e => by
        subst e
        rcases hM.own with h | h
        · exact .inr (.inl (h ▸ rfl))
        · have := h k rfl; omega)
      have HGB := Lib.hid (show g ≠ rb by omega)
      have HCG := Lib.hid (show C ≠ g from fun e => hM.hCn.1 (e ▸ rfl))
      have HVB := Lib.hid (show ∀ k, v2.ownBlock = some k → k ≠ rb from fun k hk => by have := (hM.r2.lt k hk).1; omega)
      have hcl := Bk.lt hM.cb
      have hbl := Bk.lt hM.bk
      have hsx : (w3.alloc (.cells #[.int .i64 c.tenant, .string c.key, .int .i64 c.epoch, .int .i64 tok, .bool sp] 51)).heap.size = w3.heap.size + 1 := by simp
      have HWX := Lib.hid (show w.heap.size ≤ w3.heap.size from hM.frm.size)
      have HVX0 := Lib.hid (show ∀ k, v2.ownBlock = some k → k < w3.heap.size from fun k hk => (hM.r2.lt k hk).2)
      have HM := Lib.hid hM
      clear hM halx
      go_upto_region 6 with (first
        | (refine wpList_load_mid rfl 51 (.tmp 45) rfl g (i * 5) rfl _ _ hrg Try.underlying51 rfl (by rw [iL]; rfl) ?_))
      clear b0 b1 b2
      obtain ⟨X, hX⟩ : ∃ X, w3.heap.size = X := ⟨_, rfl⟩
      generalize w3.alloc (.cells #[.int .i64 c.tenant, .string c.key, .int .i64 c.epoch, .int .i64 tok, .bool sp] 51) = w4 at *
      rw [hX] at hX4 hsx hgl hcl hbl HWX HVX0 ⊢
      have HCX := Lib.hid (show C < X from hcl)
      have HBX := Lib.hid (show rb < X from hbl)
      have HGX := Lib.hid (show g < X from hgl.2)
      have HVX := HVX0
      have hX1 := hsx
      clear hX hrg HVX0 hcl hbl hsx
      obtain ⟨x0, x1, x2, x3, x4⟩ := Bk.c5 hX4
      have f3 := Bk.frozen hX4 3
      have f4 := Bk.frozen hX4 4
      have c0 := (Bk.c7 HCB.out).1
      have c4 := (Bk.c7 HCB.out).2.2.2.2.1
      have HX1 := Lib.hid hX1
      clear hX1 hgl
      rcases Int.lt_trichotomy c.token tok with hlt | heq | hgt
      · have d1 : decide (c.token < tok) = true := decide_eq_true hlt
        go_wp2_with fail
        go_ret
        have hst : stale s c := HM.out.st.2 (.inl hlt)
        have hlseq := HM.out.old hst
        refine rdo_post (call_stale hst) (.slice (some ⟨g, 0, none⟩) ls'.length cap) v2 _ rfl w4 ⟨HBK.out, ?_, HR2.out, HM.out.sep⟩ ?_ HM.out.own (.inl rfl)
        · have := HR1.out
          rw [hlseq] at this
          rw [hlseq]
          exact this
        · exact HF4.out
      · subst heq
        cases sp
        · have HST : ¬ stale s c := fun h => by
            rcases HM.out.st.1 h with h | ⟨_, h⟩
            · omega
            · cases h
          go_upto_region 11 with (fail)
          have hX5 := Bk.set hX4 3 (.int .i64 c.token)
          have hXf : Frm (fun k => k = X) w4 (w4.setCell ⟨X, 3, none⟩ (.int .i64 c.token)) := (Frm.refl _ w4).set1 3 _
          simp at hX5
          have hs5 := hXf.size
          have hcb5 := hXf.blk HCB.out (by have := HCX.out; omega)
          have hbk5 := hXf.blk HBK.out (by have := HBX.out; omega)
          have hR1 := owns_frm HR1.out hXf (fun k hk e => by cases hk; have h1 := HGX.out; have h2 : g = X := e; omega)
          have hR2 := owns_frm HR2.out hXf (fun k hk e => by have := HVX.out k hk; omega)
          have hF5 := HF4.out.then_ hXf (fun k hk e => by have := HWX.out; omega)
          clear hXf
          generalize (w4.setCell ⟨X, 3, none⟩ (.int .i64 c.token)) = w5 at *
          obtain ⟨x0, x1, x2, x3, x4⟩ := Bk.c5 hX5
          obtain ⟨b0, b1, b2⟩ := Bk.c3 hbk5
          refine st_tail 7 (by kernel_rfl) (by kernel_rfl) ?_
          simp only [List.take_succ_cons, List.take_zero, List.drop_succ_cons, List.drop_zero]
          repeat still_step
          refine wpStill_nil ?_
          go_wp2_with (refine wpList_store_row (f := Lf.cells) (l := ls') rfl 51 (.tmp 78) (.tmp 77) rfl ⟨c.tenant, c.key, c.epoch, c.token, false⟩ (owns_drew hR1) (fun _ => rfl) rfl HM.out.hi rfl rfl iL rfl rfl ?_; intro w6 hR6 hf6)
          have hf6' : Frm (fun k => k = g) w5 w6 := ((Frm.refl (fun k => k = g) w5).drew).trans hf6
          rw [HM.out.set0 false] at hR6
          have hcb6 := hf6'.blk hcb5 (by have := HCG.out; omega)
          have hbk6 := hf6'.blk hbk5 (by have := HGB.out; omega)
          have hR2 := owns_frm hR2 hf6' (fun k hk e => by have := HM.out.sep g rfl; subst e; exact this hk)
          have hF6 := hF5.then_ hf6' (fun k hk e => HG.out k hk e)
          have hs6 := hf6'.size
          clear hX5 hcb5 hbk5 hR1 hF5 hf6 hf6' x0 x1 x2 x3 x4 b0 b1 b2 c0 c4
          obtain ⟨b0, b1, b2⟩ := Bk.c3 hbk6
          obtain ⟨c0, c1, c2, c3, c4, c5, c6⟩ := Bk.c7 hcb6
          go_upto_region 12 with (fail)
          refine st_tail 12 (by kernel_rfl) (by kernel_rfl) ?_
          simp only [List.take_succ_cons, List.take_zero, List.drop_succ_cons, List.drop_zero]
          repeat still_step
          refine wpStill_nil ?_
          go_wp2_with fail
          obtain ⟨m, hm⟩ : ∃ m, met s.ef c.tenant c.key c.epoch c.phase = m := ⟨_, rfl⟩
          have HMT := Lib.hid hm
          refine (met_is (Sl.of_own (owns_drew hR2)) hm).mono ?_
          rintro e w7 ⟨rfl, hf7⟩
          have hf7' : Frm0 w6 w7 := ((Frm.refl (fun _ => False) w6).drew).trans hf7
          have hcb7 := hf7'.blk hcb6 (fun h => h)
          have hbk7 := hf7'.blk hbk6 (fun h => h)
          have hR1 := owns_frm0 hR6 hf7'
          have hR2 := owns_frm0 hR2 hf7'
          have hF7 := hF6.then0 hf7'
          have hs7 := hf7'.size
          have HBW := Lib.hid (Bk.lt hbk7)
          have HGW := Lib.hid (hR1.lt g rfl).2
          clear hm hcb6 hbk6 hR6 hF6 hf7 hf7' b0 b1 b2 c0 c1 c2 c3 c4 c5 c6
          obtain ⟨b0, b1, b2⟩ := Bk.c3 hbk7
          obtain ⟨c0, c1, c2, c3, c4, c5, c6⟩ := Bk.c7 hcb7
          have hpl := HPL.out false
          cases m
          · have hmf := HMT.out
            by_cases hlat : 0 < s.later
            · have hw1 : IntKind.i64.wrap (s.later - 1) = s.later - 1 := IntWalk.i64_in _ (by omega)
              have fb2 := Bk.frozen hbk7 2
              have HN := Lib.hid (call_later HST hmf hlat)
              have hc4 := hR1.cellAt (i * 5 + 4) (by have := HM.out.hi; omega)
              have hthere := owns_there hR1 (i * 5 + 4) 1 (by have := HM.out.hi; omega)
              have hfz := (hthere 0 (by omega)).2
              obtain ⟨y, hy⟩ := Option.isSome_iff_exists.1 (hthere 0 (by omega)).1
              rw [Nat.add_zero] at hfz hy
              have HP4 := Lib.hid hpl
              clear hc4 hthere hmf hpl
              go_wp2_with fail
              go_ret
              have hg1 : Frm (fun k => k = rb) w7 (w7.setCell ⟨rb, 2, none⟩ (.int .i64 (s.later - 1))) := (Frm.refl _ w7).set1 2 _
              have hb8 := Bk.set hbk7 2 (.int .i64 (s.later - 1))
              have hR1b := owns_frm hR1 hg1 (fun k hk e => by cases hk; have h1 := HGB.out; have h2 : g = rb := e; omega)
              have hR2b := owns_frm hR2 hg1 (fun k hk e => by have := HVB.out k hk; omega)
              have hst := hR1b.stored (i * 5 + 4) (.bool true)
              have hg2 : Frm (fun k => k = g) (w7.setCell ⟨rb, 2, none⟩ (.int .i64 (s.later - 1))) ((w7.setCell ⟨rb, 2, none⟩ (.int .i64 (s.later - 1))).setCell ⟨g, i * 5 + 4, none⟩ (.bool true)) := (Frm.refl _ _).set1 _ _
              refine rdo_post HN.out (.slice (some ⟨g, 0, none⟩) ls'.length cap) v2 _ rfl _ ⟨?_, ?_, owns_frm hR2b hg2 (fun k hk e => by have := HM.out.sep g rfl; subst e; exact this hk), HM.out.sep⟩ ((hF7.then_ hg1 (fun k hk e => .inl e)).then_ hg2 (fun k hk e => HG.out k hk e)) HM.out.own (.inl rfl)
              · have := hg2.blk hb8 (by have := HGB.out; omega)
                simpa using this
              · have h1 := hst.1
                rw [← HM.out.set0 false, flat_set1 Lf.cells 5 (fun _ => rfl) (ls'.set i ⟨c.tenant, c.key, c.epoch, c.token, false⟩) i 4 (by rw [List.length_set]; exact HM.out.hi) (by omega) ⟨c.tenant, c.key, c.epoch, c.token, true⟩ (.bool true) (by rw [List.getElem_set_self]; rfl), List.set_set, HM.out.set0 true] at h1
                rw [HPL.out true] at h1 ⊢
                exact h1
            · have HN := Lib.hid (call_new HST hmf hlat)
              have fb1 := Bk.frozen hbk7 1
              clear hmf
              go_upto_region 18 with (fail)
              refine wp_region_held_drew (S := fun w9 => w9.heap[C]? = some (.cells #[.int .i64 c.tenant, .string c.key, .int .i64 c.epoch, .int .i64 c.phase, .int .i64 c.token, .string c.name, .string c.body] 28 (0, 0))) (by kernel_rfl) (hcb7) (fun hHeld => ?_)
              refine wpAnyH_take (i := 0) (v := ?_) rfl (by kernel_rfl) (by kernel_rfl) (by kernel_rfl) (fun _ _ _ h => h) (Or.inl ⟨by rfl, ?_⟩) (by assumption) ?_
              rotate_left 1
              focus (intro w hSw; (try dsimp only at hSw); obtain ⟨k0, k1, k2, k3, k4, k5, k6⟩ := Bk.c7 hSw; go_simp; (try with_reducible rfl))
              (try simp only [Act.put, List.getElem_toArray, List.getElem_cons_succ, List.getElem_cons_zero, List.setIfInBounds_toArray, List.set_cons_zero, List.set_cons_succ])
              refine wpAnyH_take (i := 1) (v := ?_) rfl (by kernel_rfl) (by kernel_rfl) (by kernel_rfl) (fun _ _ _ h => h) (Or.inl ⟨by rfl, ?_⟩) (by assumption) ?_
              rotate_left 1
              focus (intro w hSw; (try dsimp only at hSw); obtain ⟨k0, k1, k2, k3, k4, k5, k6⟩ := Bk.c7 hSw; go_simp; (try with_reducible rfl))
              (try simp only [Act.put, List.getElem_toArray, List.getElem_cons_succ, List.getElem_cons_zero, List.setIfInBounds_toArray, List.set_cons_zero, List.set_cons_succ])
              refine wpAnyH_take (i := 2) (v := ?_) rfl (by kernel_rfl) (by kernel_rfl) (by kernel_rfl) (fun _ _ _ h => h) (Or.inl ⟨by rfl, ?_⟩) (by assumption) ?_
              rotate_left 1
              focus (intro w hSw; (try dsimp only at hSw); obtain ⟨k0, k1, k2, k3, k4, k5, k6⟩ := Bk.c7 hSw; go_simp; (try with_reducible rfl))
              (try simp only [Act.put, List.getElem_toArray, List.getElem_cons_succ, List.getElem_cons_zero, List.setIfInBounds_toArray, List.set_cons_zero, List.set_cons_succ])
              refine wpAnyH_take (i := 3) (v := ?_) rfl (by kernel_rfl) (by kernel_rfl) (by kernel_rfl) (fun _ _ _ h => h) (Or.inl ⟨by rfl, ?_⟩) (by assumption) ?_
              rotate_left 1
              focus (intro w hSw; (try dsimp only at hSw); obtain ⟨k0, k1, k2, k3, k4, k5, k6⟩ := Bk.c7 hSw; go_simp; (try with_reducible rfl))
              (try simp only [Act.put, List.getElem_toArray, List.getElem_cons_succ, List.getElem_cons_zero, List.setIfInBounds_toArray, List.set_cons_zero, List.set_cons_succ])
              refine wpAnyH_take (i := 5) (v := ?_) rfl (by kernel_rfl) (by kernel_rfl) (by kernel_rfl) (fun _ _ _ h => h) (Or.inl ⟨by rfl, ?_⟩) (by assumption) ?_
              rotate_left 1
              focus (intro w hSw; (try dsimp only at hSw); obtain ⟨k0, k1, k2, k3, k4, k5, k6⟩ := Bk.c7 hSw; go_simp; (try with_reducible rfl))
              (try simp only [Act.put, List.getElem_toArray, List.getElem_cons_succ, List.getElem_cons_zero, List.setIfInBounds_toArray, List.set_cons_zero, List.set_cons_succ])
              refine wpAnyH_take (i := 6) (v := ?_) rfl (by kernel_rfl) (by kernel_rfl) (by kernel_rfl) (fun _ _ _ h => h) (Or.inl ⟨by rfl, ?_⟩) (by assumption) ?_
              rotate_left 1
              focus (intro w hSw; (try dsimp only at hSw); obtain ⟨k0, k1, k2, k3, k4, k5, k6⟩ := Bk.c7 hSw; go_simp; (try with_reducible rfl))
              (try simp only [Act.put, List.getElem_toArray, List.getElem_cons_succ, List.getElem_cons_zero, List.setIfInBounds_toArray, List.set_cons_zero, List.set_cons_succ])
              refine wpAnyH_take (i := 7) (v := ?_) rfl (by kernel_rfl) (by kernel_rfl) (by kernel_rfl) (fun _ _ _ h => h) (Or.inl ⟨by rfl, ?_⟩) (by assumption) ?_
              rotate_left 1
              focus (intro w hSw; (try dsimp only at hSw); obtain ⟨k0, k1, k2, k3, k4, k5, k6⟩ := Bk.c7 hSw; go_simp; (try with_reducible rfl))
              (try simp only [Act.put, List.getElem_toArray, List.getElem_cons_succ, List.getElem_cons_zero, List.setIfInBounds_toArray, List.set_cons_zero, List.set_cons_succ])
              refine wpAnyH_take (i := 8) (v := ?_) rfl (by kernel_rfl) (by kernel_rfl) (by kernel_rfl) (fun _ _ _ h => h) (Or.inl ⟨by rfl, ?_⟩) (by assumption) ?_
              rotate_left 1
              focus (intro w hSw; (try dsimp only at hSw); obtain ⟨k0, k1, k2, k3, k4, k5, k6⟩ := Bk.c7 hSw; go_simp; (try with_reducible rfl))
              (try simp only [Act.put, List.getElem_toArray, List.getElem_cons_succ, List.getElem_cons_zero, List.setIfInBounds_toArray, List.set_cons_zero, List.set_cons_succ])
              refine wpAnyH_take (i := 9) (v := ?_) rfl (by kernel_rfl) (by kernel_rfl) (by kernel_rfl) (fun _ _ _ h => h) (Or.inl ⟨by rfl, ?_⟩) (by assumption) ?_
              rotate_left 1
              focus (intro w hSw; (try dsimp only at hSw); obtain ⟨k0, k1, k2, k3, k4, k5, k6⟩ := Bk.c7 hSw; go_simp; (try with_reducible rfl))
              (try simp only [Act.put, List.getElem_toArray, List.getElem_cons_succ, List.getElem_cons_zero, List.setIfInBounds_toArray, List.set_cons_zero, List.set_cons_succ])
              refine wpAnyH_take (i := 10) (v := ?_) rfl (by kernel_rfl) (by kernel_rfl) (by kernel_rfl) (fun _ _ _ h => h) (Or.inl ⟨by rfl, ?_⟩) (by assumption) ?_
              rotate_left 1
              focus (intro w hSw; (try dsimp only at hSw); obtain ⟨k0, k1, k2, k3, k4, k5, k6⟩ := Bk.c7 hSw; go_simp; (try with_reducible rfl))
              (try simp only [Act.put, List.getElem_toArray, List.getElem_cons_succ, List.getElem_cons_zero, List.setIfInBounds_toArray, List.set_cons_zero, List.set_cons_succ])
              refine wpAnyH_take (i := 11) (v := ?_) rfl (by kernel_rfl) (by kernel_rfl) (by kernel_rfl) (fun _ _ _ h => h) (Or.inl ⟨by rfl, ?_⟩) (by assumption) ?_
              rotate_left 1
              focus (intro w hSw; (try dsimp only at hSw); obtain ⟨k0, k1, k2, k3, k4, k5, k6⟩ := Bk.c7 hSw; go_simp; (try with_reducible rfl))
              (try simp only [Act.put, List.getElem_toArray, List.getElem_cons_succ, List.getElem_cons_zero, List.setIfInBounds_toArray, List.set_cons_zero, List.set_cons_succ])
              refine wpAnyH_take (i := 12) (v := ?_) rfl (by kernel_rfl) (by kernel_rfl) (by kernel_rfl) (fun _ _ _ h => h) (Or.inl ⟨by rfl, ?_⟩) (by assumption) ?_
              rotate_left 1
              focus (intro w hSw; (try dsimp only at hSw); obtain ⟨k0, k1, k2, k3, k4, k5, k6⟩ := Bk.c7 hSw; go_simp; (try with_reducible rfl))
              (try simp only [Act.put, List.getElem_toArray, List.getElem_cons_succ, List.getElem_cons_zero, List.setIfInBounds_toArray, List.set_cons_zero, List.set_cons_succ])
              refine wpAnyH_take (i := 13) (v := ?_) rfl (by kernel_rfl) (by kernel_rfl) (by kernel_rfl) (fun _ _ _ h => h) (Or.inl ⟨by rfl, ?_⟩) (by assumption) ?_
              rotate_left 1
              focus (intro w hSw; (try dsimp only at hSw); obtain ⟨k0, k1, k2, k3, k4, k5, k6⟩ := Bk.c7 hSw; go_simp; (try with_reducible rfl))
              (try simp only [Act.put, List.getElem_toArray, List.getElem_cons_succ, List.getElem_cons_zero, List.setIfInBounds_toArray, List.set_cons_zero, List.set_cons_succ])
              refine wpAnyH_take (i := 14) (v := ?_) rfl (by kernel_rfl) (by kernel_rfl) (by kernel_rfl) (fun _ _ _ h => h) (Or.inl ⟨by rfl, ?_⟩) (by assumption) ?_
              rotate_left 1
              focus (intro w hSw; (try dsimp only at hSw); obtain ⟨k0, k1, k2, k3, k4, k5, k6⟩ := Bk.c7 hSw; go_simp; (try with_reducible rfl))
              (try simp only [Act.put, List.getElem_toArray, List.getElem_cons_succ, List.getElem_cons_zero, List.setIfInBounds_toArray, List.set_cons_zero, List.set_cons_succ])
              refine wpAnyH_take (i := 15) (v := ?_) rfl (by kernel_rfl) (by kernel_rfl) (by kernel_rfl) (fun _ _ _ h => h) (Or.inl ⟨by rfl, ?_⟩) (by assumption) ?_
              rotate_left 1
              focus (intro w hSw; (try dsimp only at hSw); obtain ⟨k0, k1, k2, k3, k4, k5, k6⟩ := Bk.c7 hSw; go_simp; (try with_reducible rfl))
              (try simp only [Act.put, List.getElem_toArray, List.getElem_cons_succ, List.getElem_cons_zero, List.setIfInBounds_toArray, List.set_cons_zero, List.set_cons_succ])
              refine wpAnyH_take (i := 16) (v := ?_) rfl (by kernel_rfl) (by kernel_rfl) (by kernel_rfl) (fun _ _ _ h => h) (Or.inl ⟨by rfl, ?_⟩) (by assumption) ?_
              rotate_left 1
              focus (intro w hSw; (try dsimp only at hSw); obtain ⟨k0, k1, k2, k3, k4, k5, k6⟩ := Bk.c7 hSw; go_simp; (try with_reducible rfl))
              (try simp only [Act.put, List.getElem_toArray, List.getElem_cons_succ, List.getElem_cons_zero, List.setIfInBounds_toArray, List.set_cons_zero, List.set_cons_succ])
              refine wpAnyH_take (i := 17) (v := ?_) rfl (by kernel_rfl) (by kernel_rfl) (by kernel_rfl) (fun _ _ _ h => h) (Or.inl ⟨by rfl, ?_⟩) (by assumption) ?_
              rotate_left 1
              focus (intro w hSw; (try dsimp only at hSw); obtain ⟨k0, k1, k2, k3, k4, k5, k6⟩ := Bk.c7 hSw; go_simp; (try with_reducible rfl))
              (try simp only [Act.put, List.getElem_toArray, List.getElem_cons_succ, List.getElem_cons_zero, List.setIfInBounds_toArray, List.set_cons_zero, List.set_cons_succ])
              refine wpAnyH_take (i := 18) (v := ?_) rfl (by kernel_rfl) (by kernel_rfl) (by kernel_rfl) (fun _ _ _ h => h) (Or.inl ⟨by rfl, ?_⟩) (by assumption) ?_
              rotate_left 1
              focus (intro w hSw; (try dsimp only at hSw); obtain ⟨k0, k1, k2, k3, k4, k5, k6⟩ := Bk.c7 hSw; go_simp; (try with_reducible rfl))
              (try simp only [Act.put, List.getElem_toArray, List.getElem_cons_succ, List.getElem_cons_zero, List.setIfInBounds_toArray, List.set_cons_zero, List.set_cons_succ])
              refine wpAnyH_take (i := 19) (v := ?_) rfl (by kernel_rfl) (by kernel_rfl) (by kernel_rfl) (fun _ _ _ h => h) (Or.inl ⟨by rfl, ?_⟩) (by assumption) ?_
              rotate_left 1
              focus (intro w hSw; (try dsimp only at hSw); obtain ⟨k0, k1, k2, k3, k4, k5, k6⟩ := Bk.c7 hSw; go_simp; (try with_reducible rfl))
              (try simp only [Act.put, List.getElem_toArray, List.getElem_cons_succ, List.getElem_cons_zero, List.setIfInBounds_toArray, List.set_cons_zero, List.set_cons_succ])
              refine wpAnyH_ready (rs := [4, 20]) (by kernel_rfl) (by simp) ?_
              refine AllReadyH.cons rfl (fun K hK => ?_) (AllReadyH.cons rfl (fun K hK => ?_) AllReadyH.nil)
              · rw [if_pos (by rfl)]
                go_simp
                refine hK.out _ _ (by assumption) (fun hHeld => ?_)
                clear hK K
                (try simp only [Act.put, List.getElem_toArray, List.getElem_cons_succ, List.getElem_cons_zero, List.setIfInBounds_toArray, List.set_cons_zero, List.set_cons_succ])
                refine wpAnyH_ready (rs := [20]) (by kernel_rfl) (by simp) ?_
                refine AllReadyH.cons rfl (fun K hK => ?_) AllReadyH.nil
                rw [if_pos (by rfl)]
                go_simp
                refine hK.out _ _ (Bk.alloc (by assumption) _) (fun hHeld => ?_)
                clear hK K
                (try simp only [Act.put, List.getElem_toArray, List.getElem_cons_succ, List.getElem_cons_zero, List.setIfInBounds_toArray, List.set_cons_zero, List.set_cons_succ])
                refine wpAnyH_ready (rs := [21]) (by kernel_rfl) (by simp) ?_
                refine AllReadyH.cons rfl (fun K hK => ?_) AllReadyH.nil
                refine step_append_sl rfl (.tmp 115) (.tmp 131) rfl Eef (rb + 1) v2 (.slice (some ⟨w7.heap.size, 0, none⟩) 1 1) s.ef.length 1 (s.ef.flatMap Ca.cells) (Ca.cells c) rfl rfl (World.ownsRow.alloc hR2 _) (Sl.new w7 #[.int .i64 c.tenant, .string c.key, .int .i64 c.epoch, .int .i64 c.phase, .int .i64 c.token, .string c.name, .string c.body] 37 1 (by decide) (by omega)) rfl (ca_one c) (by unfold maxLen; omega) (by omega) (by have := HBW.out; simp; omega) ?_
                intro u2 w8 hown8 hf8 hat8
                obtain ⟨g8, cap8, rfl⟩ := owns_form hown8
                have hf8' : Frm (fun k => v2.ownBlock = some k) w7 w8 := Frm.then_ (by first | exact ((Frm.refl _ w7).alloc (.cells #[.int .i64 c.tenant, .string c.key, .int .i64 c.epoch, .int .i64 c.phase, .int .i64 c.token, .string c.name, .string c.body] 37)).drew | exact ((Frm.refl _ w7).drew.alloc (.cells #[.int .i64 c.tenant, .string c.key, .int .i64 c.epoch, .int .i64 c.phase, .int .i64 c.token, .string c.name, .string c.body] 37))) hf8 (fun k hk e => e)
                have hbk8 := hf8'.blk hbk7 (fun e => by have := HVB.out _ e; omega)
                have hcb8 := hf8'.blk hcb7 (fun e => HM.out.hCn.2.1 e)
                refine hK.out _ _ hcb8 (fun hHeld => ?_)
                clear hK K
                (try simp only [Act.put, List.getElem_toArray, List.getElem_cons_succ, List.getElem_cons_zero, List.setIfInBounds_toArray, List.set_cons_zero, List.set_cons_succ])
                refine wpAnyH_take (i := 22) (v := ?_) rfl (by kernel_rfl) (by kernel_rfl) (by kernel_rfl) (fun _ _ _ h => h) (Or.inl ⟨by rfl, ?_⟩) (by assumption) ?_
                rotate_left 1
                focus (intro w hSw; (try dsimp only at hSw); go_simp; (try with_reducible rfl))
                (try simp only [Act.put, List.getElem_toArray, List.getElem_cons_succ, List.getElem_cons_zero, List.setIfInBounds_toArray, List.set_cons_zero, List.set_cons_succ])
                refine wpAnyH_take (i := 23) (v := ?_) rfl (by kernel_rfl) (by kernel_rfl) (by kernel_rfl) (fun _ _ _ h => h) (Or.inl ⟨by rfl, ?_⟩) (by assumption) ?_
                rotate_left 1
                focus (intro w hSw; (try dsimp only at hSw); go_simp; (try with_reducible rfl))
                (try simp only [Act.put, List.getElem_toArray, List.getElem_cons_succ, List.getElem_cons_zero, List.setIfInBounds_toArray, List.set_cons_zero, List.set_cons_succ])
                refine wpAnyH_ready (rs := [24]) (by kernel_rfl) (by simp) ?_
                refine AllReadyH.cons rfl (fun K hK => ?_) AllReadyH.nil
                have f29 := Bk.frozen hbk8 1
                have c29 := (Bk.c3 hbk8).2.1
                rw [if_pos (by rfl)]
                go_simp
                refine hK.out _ _ (Bk.far (by assumption) (p := ⟨rb, 1, none⟩) (show C ≠ rb from HM.out.hCn.2.2) _) (fun hHeld => ?_)
                clear hK K
                (try simp only [Act.put, List.getElem_toArray, List.getElem_cons_succ, List.getElem_cons_zero, List.setIfInBounds_toArray, List.set_cons_zero, List.set_cons_succ])
                refine wpAnyH_done (by kernel_rfl) ?_ _
                go_wp2_with fail
                go_ret
                have hg1 : Frm (fun k => k = rb) w8 (w8.setCell ⟨rb, 1, none⟩ (.slice (some ⟨g8, 0, none⟩) (s.ef.length + 1) cap8)) := (Frm.refl _ w8).set1 1 _
                have hb9 := Bk.set hbk8 1 (.slice (some ⟨g8, 0, none⟩) (s.ef.length + 1) cap8)
                have hR1b := owns_frm (owns_frm hR1 hf8' (fun k hk e => HM.out.sep k hk e)) hg1 (fun k hk e => by cases hk; have h1 := HGB.out; have h2 : g = rb := e; omega)
                have hu2 : ∀ k, (Value.slice (some ⟨g8, 0, none⟩) (s.ef.length + 1) cap8).ownBlock = some k → k ≠ rb ∧ (v2.ownBlock = some k ∨ w7.heap.size ≤ k) := fun k hk => by
                  rcases hat8 with e | e
                  · rw [e] at hk; exact ⟨by have := HVB.out k hk; omega, .inl hk⟩
                  · rw [e] at hk; cases hk; have := HBW.out; constructor
                    · simp; omega
                    · right; simp
                refine rdo_post HN.out (.slice (some ⟨g, 0, none⟩) ls'.length cap) (.slice (some ⟨g8, 0, none⟩) (s.ef.length + 1) cap8) _ rfl _ ⟨?_, ?_, ?_, ?_⟩ ((hF7.then_ hf8' (fun k hk e => .inr (.inr e))).then_ hg1 (fun k hk e => .inl e)) HM.out.own ?_
                · simpa using hb9
                · rw [HPL.out false] at hR1b ⊢
                  exact hR1b
                · have h1 := owns_frm hown8 hg1 (fun k hk e => (hu2 k hk).1 e)
                  simpa [List.flatMap_append] using h1
                · intro k hk he
                  rcases (hu2 k he).2 with e | e
                  · exact HM.out.sep k hk e
                  · cases hk; have h1 := HGW.out; have h2 : w7.heap.size ≤ g := e; omega
                · rcases hat8 with e | e
                  · exact .inl e
                  · refine .inr (fun k hk => ?_)
                    rw [e] at hk; cases hk
                    have := hF7.size
                    simp; omega
              · rw [if_pos (by rfl)]
                go_simp
                refine hK.out _ _ (Bk.alloc (by assumption) _) (fun hHeld => ?_)
                clear hK K
                (try simp only [Act.put, List.getElem_toArray, List.getElem_cons_succ, List.getElem_cons_zero, List.setIfInBounds_toArray, List.set_cons_zero, List.set_cons_succ])
                refine wpAnyH_ready (rs := [4]) (by kernel_rfl) (by simp) ?_
                refine AllReadyH.cons rfl (fun K hK => ?_) AllReadyH.nil
                have a29 := (Bk.c3 (show (w7.alloc (.cells #[.int .i64 c.tenant, .string c.key, .int .i64 c.epoch, .int .i64 c.phase, .int .i64 c.token, .string c.name, .string c.body] 37)).drew.heap[rb]? = _ from Bk.alloc (show w7.drew.heap[rb]? = _ from hbk7) (.cells #[.int .i64 c.tenant, .string c.key, .int .i64 c.epoch, .int .i64 c.phase, .int .i64 c.token, .string c.name, .string c.body] 37))).2.1
                rw [if_pos (by rfl)]
                go_simp
                refine hK.out _ _ (by assumption) (fun hHeld => ?_)
                clear hK K
                (try simp only [Act.put, List.getElem_toArray, List.getElem_cons_succ, List.getElem_cons_zero, List.setIfInBounds_toArray, List.set_cons_zero, List.set_cons_succ])
                refine wpAnyH_ready (rs := [21]) (by kernel_rfl) (by simp) ?_
                refine AllReadyH.cons rfl (fun K hK => ?_) AllReadyH.nil
                refine step_append_sl rfl (.tmp 115) (.tmp 131) rfl Eef (rb + 1) v2 (.slice (some ⟨w7.heap.size, 0, none⟩) 1 1) s.ef.length 1 (s.ef.flatMap Ca.cells) (Ca.cells c) rfl rfl (World.ownsRow.alloc hR2 _) (Sl.new w7 #[.int .i64 c.tenant, .string c.key, .int .i64 c.epoch, .int .i64 c.phase, .int .i64 c.token, .string c.name, .string c.body] 37 1 (by decide) (by omega)) rfl (ca_one c) (by unfold maxLen; omega) (by omega) (by have := HBW.out; simp; omega) ?_
                intro u2 w8 hown8 hf8 hat8
                obtain ⟨g8, cap8, rfl⟩ := owns_form hown8
                have hf8' : Frm (fun k => v2.ownBlock = some k) w7 w8 := Frm.then_ (by first | exact ((Frm.refl _ w7).alloc (.cells #[.int .i64 c.tenant, .string c.key, .int .i64 c.epoch, .int .i64 c.phase, .int .i64 c.token, .string c.name, .string c.body] 37)).drew | exact ((Frm.refl _ w7).drew.alloc (.cells #[.int .i64 c.tenant, .string c.key, .int .i64 c.epoch, .int .i64 c.phase, .int .i64 c.token, .string c.name, .string c.body] 37))) hf8 (fun k hk e => e)
                have hbk8 := hf8'.blk hbk7 (fun e => by have := HVB.out _ e; omega)
                have hcb8 := hf8'.blk hcb7 (fun e => HM.out.hCn.2.1 e)
                refine hK.out _ _ hcb8 (fun hHeld => ?_)
                clear hK K
                (try simp only [Act.put, List.getElem_toArray, List.getElem_cons_succ, List.getElem_cons_zero, List.setIfInBounds_toArray, List.set_cons_zero, List.set_cons_succ])
                refine wpAnyH_take (i := 22) (v := ?_) rfl (by kernel_rfl) (by kernel_rfl) (by kernel_rfl) (fun _ _ _ h => h) (Or.inl ⟨by rfl, ?_⟩) (by assumption) ?_
                rotate_left 1
                focus (intro w hSw; (try dsimp only at hSw); go_simp; (try with_reducible rfl))
                (try simp only [Act.put, List.getElem_toArray, List.getElem_cons_succ, List.getElem_cons_zero, List.setIfInBounds_toArray, List.set_cons_zero, List.set_cons_succ])
                refine wpAnyH_take (i := 23) (v := ?_) rfl (by kernel_rfl) (by kernel_rfl) (by kernel_rfl) (fun _ _ _ h => h) (Or.inl ⟨by rfl, ?_⟩) (by assumption) ?_
                rotate_left 1
                focus (intro w hSw; (try dsimp only at hSw); go_simp; (try with_reducible rfl))
                (try simp only [Act.put, List.getElem_toArray, List.getElem_cons_succ, List.getElem_cons_zero, List.setIfInBounds_toArray, List.set_cons_zero, List.set_cons_succ])
                refine wpAnyH_ready (rs := [24]) (by kernel_rfl) (by simp) ?_
                refine AllReadyH.cons rfl (fun K hK => ?_) AllReadyH.nil
                have f29 := Bk.frozen hbk8 1
                have c29 := (Bk.c3 hbk8).2.1
                rw [if_pos (by rfl)]
                go_simp
                refine hK.out _ _ (Bk.far (by assumption) (p := ⟨rb, 1, none⟩) (show C ≠ rb from HM.out.hCn.2.2) _) (fun hHeld => ?_)
                clear hK K
                (try simp only [Act.put, List.getElem_toArray, List.getElem_cons_succ, List.getElem_cons_zero, List.setIfInBounds_toArray, List.set_cons_zero, List.set_cons_succ])
                refine wpAnyH_done (by kernel_rfl) ?_ _
                go_wp2_with fail
                go_ret
                have hg1 : Frm (fun k => k = rb) w8 (w8.setCell ⟨rb, 1, none⟩ (.slice (some ⟨g8, 0, none⟩) (s.ef.length + 1) cap8)) := (Frm.refl _ w8).set1 1 _
                have hb9 := Bk.set hbk8 1 (.slice (some ⟨g8, 0, none⟩) (s.ef.length + 1) cap8)
                have hR1b := owns_frm (owns_frm hR1 hf8' (fun k hk e => HM.out.sep k hk e)) hg1 (fun k hk e => by cases hk; have h1 := HGB.out; have h2 : g = rb := e; omega)
                have hu2 : ∀ k, (Value.slice (some ⟨g8, 0, none⟩) (s.ef.length + 1) cap8).ownBlock = some k → k ≠ rb ∧ (v2.ownBlock = some k ∨ w7.heap.size ≤ k) := fun k hk => by
                  rcases hat8 with e | e
                  · rw [e] at hk; exact ⟨by have := HVB.out k hk; omega, .inl hk⟩
                  · rw [e] at hk; cases hk; have := HBW.out; constructor
                    · simp; omega
                    · right; simp
                refine rdo_post HN.out (.slice (some ⟨g, 0, none⟩) ls'.length cap) (.slice (some ⟨g8, 0, none⟩) (s.ef.length + 1) cap8) _ rfl _ ⟨?_, ?_, ?_, ?_⟩ ((hF7.then_ hf8' (fun k hk e => .inr (.inr e))).then_ hg1 (fun k hk e => .inl e)) HM.out.own ?_
                · simpa using hb9
                · rw [HPL.out false] at hR1b ⊢
                  exact hR1b
                · have h1 := owns_frm hown8 hg1 (fun k hk e => (hu2 k hk).1 e)
                  simpa [List.flatMap_append] using h1
                · intro k hk he
                  rcases (hu2 k he).2 with e | e
                  · exact HM.out.sep k hk e
                  · cases hk; have h1 := HGW.out; have h2 : w7.heap.size ≤ g := e; omega
                · rcases hat8 with e | e
                  · exact .inl e
                  · refine .inr (fun k hk => ?_)
                    rw [e] at hk; cases hk
                    have := hF7.size
                    simp; omega
          · have HN := Lib.hid (call_met HST HMT.out)
            go_wp2_with fail
            go_ret
            refine rdo_post HN.out (.slice (some ⟨g, 0, none⟩) ls'.length cap) v2 _ rfl _ ⟨hbk7, ?_, hR2, HM.out.sep⟩ hF7 HM.out.own (.inl rfl)
            rw [HPL.out false] at hR1 ⊢
            exact hR1
        · go_wp2_with fail
          go_ret
          have hst : stale s c := HM.out.st.2 (.inr ⟨rfl, rfl⟩)
          have hlseq := HM.out.old hst
          refine rdo_post (call_stale hst) (.slice (some ⟨g, 0, none⟩) ls'.length cap) v2 _ rfl w4 ⟨HBK.out, ?_, HR2.out, HM.out.sep⟩ ?_ HM.out.own (.inl rfl)
          · have := HR1.out
            rw [hlseq] at this
            rw [hlseq]
            exact this
          · exact HF4.out
      · have d1 : decide (c.token < tok) = false := decide_eq_false (by omega)
        have d1' : ¬ c.token < tok := by omega
        have d2 : (tok == c.token) = false := beq_eq_false_iff_ne.2 (by omega)
        have d3 : decide (tok < c.token) = true := decide_eq_true hgt
        have HST : ¬ stale s c := fun h => by
          rcases HM.out.st.1 h with h | ⟨h, _⟩ <;> omega
        have hCne : ¬ C = X := by have := HCX.out; omega
        have hCne' : ¬ X = C := by have := HCX.out; omega
        go_upto_region 11 with (fail)
        have hX5 := Bk.set (Bk.set hX4 4 (.bool false)) 3 (.int .i64 c.token)
        have hXf : Frm (fun k => k = X) w4 ((w4.setCell ⟨X, 4, none⟩ (.bool false)).setCell ⟨X, 3, none⟩ (.int .i64 c.token)) := ((Frm.refl _ w4).set1 4 _).set1 3 _
        simp at hX5
        have hs5 := hXf.size
        have hcb5 := hXf.blk HCB.out (by have := HCX.out; omega)
        have hbk5 := hXf.blk HBK.out (by have := HBX.out; omega)
        have hR1 := owns_frm HR1.out hXf (fun k hk e => by cases hk; have h1 := HGX.out; have h2 : g = X := e; omega)
        have hR2 := owns_frm HR2.out hXf (fun k hk e => by have := HVX.out k hk; omega)
        have hF5 := HF4.out.then_ hXf (fun k hk e => by have := HWX.out; omega)
        clear hXf
        generalize ((w4.setCell ⟨X, 4, none⟩ (.bool false)).setCell ⟨X, 3, none⟩ (.int .i64 c.token)) = w5 at *
        obtain ⟨x0, x1, x2, x3, x4⟩ := Bk.c5 hX5
        obtain ⟨b0, b1, b2⟩ := Bk.c3 hbk5
        refine st_tail 7 (by kernel_rfl) (by kernel_rfl) ?_
        simp only [List.take_succ_cons, List.take_zero, List.drop_succ_cons, List.drop_zero]
        repeat still_step
        refine wpStill_nil ?_
        go_wp2_with (refine wpList_store_row (f := Lf.cells) (l := ls') rfl 51 (.tmp 78) (.tmp 77) rfl ⟨c.tenant, c.key, c.epoch, c.token, false⟩ (owns_drew hR1) (fun _ => rfl) rfl HM.out.hi rfl rfl iL rfl rfl ?_; intro w6 hR6 hf6)
        have hf6' : Frm (fun k => k = g) w5 w6 := ((Frm.refl (fun k => k = g) w5).drew).trans hf6
        rw [HM.out.set0 false] at hR6
        have hcb6 := hf6'.blk hcb5 (by have := HCG.out; omega)
        have hbk6 := hf6'.blk hbk5 (by have := HGB.out; omega)
        have hR2 := owns_frm hR2 hf6' (fun k hk e => by have := HM.out.sep g rfl; subst e; exact this hk)
        have hF6 := hF5.then_ hf6' (fun k hk e => HG.out k hk e)
        have hs6 := hf6'.size
        clear hX5 hcb5 hbk5 hR1 hF5 hf6 hf6' x0 x1 x2 x3 x4 b0 b1 b2 c0 c4
        obtain ⟨b0, b1, b2⟩ := Bk.c3 hbk6
        obtain ⟨c0, c1, c2, c3, c4, c5, c6⟩ := Bk.c7 hcb6
        go_upto_region 12 with (fail)
        refine st_tail 12 (by kernel_rfl) (by kernel_rfl) ?_
        simp only [List.take_succ_cons, List.take_zero, List.drop_succ_cons, List.drop_zero]
        repeat still_step
        refine wpStill_nil ?_
        go_wp2_with fail
        obtain ⟨m, hm⟩ : ∃ m, met s.ef c.tenant c.key c.epoch c.phase = m := ⟨_, rfl⟩
        have HMT := Lib.hid hm
        refine (met_is (Sl.of_own (owns_drew hR2)) hm).mono ?_
        rintro e w7 ⟨rfl, hf7⟩
        have hf7' : Frm0 w6 w7 := ((Frm.refl (fun _ => False) w6).drew).trans hf7
        have hcb7 := hf7'.blk hcb6 (fun h => h)
        have hbk7 := hf7'.blk hbk6 (fun h => h)
        have hR1 := owns_frm0 hR6 hf7'
        have hR2 := owns_frm0 hR2 hf7'
        have hF7 := hF6.then0 hf7'
        have hs7 := hf7'.size
        have HBW := Lib.hid (Bk.lt hbk7)
        have HGW := Lib.hid (hR1.lt g rfl).2
        clear hm hcb6 hbk6 hR6 hF6 hf7 hf7' b0 b1 b2 c0 c1 c2 c3 c4 c5 c6
        obtain ⟨b0, b1, b2⟩ := Bk.c3 hbk7
        obtain ⟨c0, c1, c2, c3, c4, c5, c6⟩ := Bk.c7 hcb7
        have hpl := HPL.out false
        cases m
        · have hmf := HMT.out
          by_cases hlat : 0 < s.later
          · have hw1 : IntKind.i64.wrap (s.later - 1) = s.later - 1 := IntWalk.i64_in _ (by omega)
            have fb2 := Bk.frozen hbk7 2
            have HN := Lib.hid (call_later HST hmf hlat)
            have hc4 := hR1.cellAt (i * 5 + 4) (by have := HM.out.hi; omega)
            have hthere := owns_there hR1 (i * 5 + 4) 1 (by have := HM.out.hi; omega)
            have hfz := (hthere 0 (by omega)).2
            obtain ⟨y, hy⟩ := Option.isSome_iff_exists.1 (hthere 0 (by omega)).1
            rw [Nat.add_zero] at hfz hy
            have HP4 := Lib.hid hpl
            clear hc4 hthere hmf hpl
            go_wp2_with fail
            go_ret
            have hg1 : Frm (fun k => k = rb) w7 (w7.setCell ⟨rb, 2, none⟩ (.int .i64 (s.later - 1))) := (Frm.refl _ w7).set1 2 _
            have hb8 := Bk.set hbk7 2 (.int .i64 (s.later - 1))
            have hR1b := owns_frm hR1 hg1 (fun k hk e => by cases hk; have h1 := HGB.out; have h2 : g = rb := e; omega)
            have hR2b := owns_frm hR2 hg1 (fun k hk e => by have := HVB.out k hk; omega)
            have hst := hR1b.stored (i * 5 + 4) (.bool true)
            have hg2 : Frm (fun k => k = g) (w7.setCell ⟨rb, 2, none⟩ (.int .i64 (s.later - 1))) ((w7.setCell ⟨rb, 2, none⟩ (.int .i64 (s.later - 1))).setCell ⟨g, i * 5 + 4, none⟩ (.bool true)) := (Frm.refl _ _).set1 _ _
            refine rdo_post HN.out (.slice (some ⟨g, 0, none⟩) ls'.length cap) v2 _ rfl _ ⟨?_, ?_, owns_frm hR2b hg2 (fun k hk e => by have := HM.out.sep g rfl; subst e; exact this hk), HM.out.sep⟩ ((hF7.then_ hg1 (fun k hk e => .inl e)).then_ hg2 (fun k hk e => HG.out k hk e)) HM.out.own (.inl rfl)
            · have := hg2.blk hb8 (by have := HGB.out; omega)
              simpa using this
            · have h1 := hst.1
              rw [← HM.out.set0 false, flat_set1 Lf.cells 5 (fun _ => rfl) (ls'.set i ⟨c.tenant, c.key, c.epoch, c.token, false⟩) i 4 (by rw [List.length_set]; exact HM.out.hi) (by omega) ⟨c.tenant, c.key, c.epoch, c.token, true⟩ (.bool true) (by rw [List.getElem_set_self]; rfl), List.set_set, HM.out.set0 true] at h1
              rw [HPL.out true] at h1 ⊢
              exact h1
          · have HN := Lib.hid (call_new HST hmf hlat)
            have fb1 := Bk.frozen hbk7 1
            clear hmf
            go_upto_region 18 with (fail)
            refine wp_region_held_drew (S := fun w9 => w9.heap[C]? = some (.cells #[.int .i64 c.tenant, .string c.key, .int .i64 c.epoch, .int .i64 c.phase, .int .i64 c.token, .string c.name, .string c.body] 28 (0, 0))) (by kernel_rfl) (hcb7) (fun hHeld => ?_)
            refine wpAnyH_take (i := 0) (v := ?_) rfl (by kernel_rfl) (by kernel_rfl) (by kernel_rfl) (fun _ _ _ h => h) (Or.inl ⟨by rfl, ?_⟩) (by assumption) ?_
            rotate_left 1
            focus (intro w hSw; (try dsimp only at hSw); obtain ⟨k0, k1, k2, k3, k4, k5, k6⟩ := Bk.c7 hSw; go_simp; (try with_reducible rfl))
            (try simp only [Act.put, List.getElem_toArray, List.getElem_cons_succ, List.getElem_cons_zero, List.setIfInBounds_toArray, List.set_cons_zero, List.set_cons_succ])
            refine wpAnyH_take (i := 1) (v := ?_) rfl (by kernel_rfl) (by kernel_rfl) (by kernel_rfl) (fun _ _ _ h => h) (Or.inl ⟨by rfl, ?_⟩) (by assumption) ?_
            rotate_left 1
            focus (intro w hSw; (try dsimp only at hSw); obtain ⟨k0, k1, k2, k3, k4, k5, k6⟩ := Bk.c7 hSw; go_simp; (try with_reducible rfl))
            (try simp only [Act.put, List.getElem_toArray, List.getElem_cons_succ, List.getElem_cons_zero, List.setIfInBounds_toArray, List.set_cons_zero, List.set_cons_succ])
            refine wpAnyH_take (i := 2) (v := ?_) rfl (by kernel_rfl) (by kernel_rfl) (by kernel_rfl) (fun _ _ _ h => h) (Or.inl ⟨by rfl, ?_⟩) (by assumption) ?_
            rotate_left 1
            focus (intro w hSw; (try dsimp only at hSw); obtain ⟨k0, k1, k2, k3, k4, k5, k6⟩ := Bk.c7 hSw; go_simp; (try with_reducible rfl))
            (try simp only [Act.put, List.getElem_toArray, List.getElem_cons_succ, List.getElem_cons_zero, List.setIfInBounds_toArray, List.set_cons_zero, List.set_cons_succ])
            refine wpAnyH_take (i := 3) (v := ?_) rfl (by kernel_rfl) (by kernel_rfl) (by kernel_rfl) (fun _ _ _ h => h) (Or.inl ⟨by rfl, ?_⟩) (by assumption) ?_
            rotate_left 1
            focus (intro w hSw; (try dsimp only at hSw); obtain ⟨k0, k1, k2, k3, k4, k5, k6⟩ := Bk.c7 hSw; go_simp; (try with_reducible rfl))
            (try simp only [Act.put, List.getElem_toArray, List.getElem_cons_succ, List.getElem_cons_zero, List.setIfInBounds_toArray, List.set_cons_zero, List.set_cons_succ])
            refine wpAnyH_take (i := 5) (v := ?_) rfl (by kernel_rfl) (by kernel_rfl) (by kernel_rfl) (fun _ _ _ h => h) (Or.inl ⟨by rfl, ?_⟩) (by assumption) ?_
            rotate_left 1
            focus (intro w hSw; (try dsimp only at hSw); obtain ⟨k0, k1, k2, k3, k4, k5, k6⟩ := Bk.c7 hSw; go_simp; (try with_reducible rfl))
            (try simp only [Act.put, List.getElem_toArray, List.getElem_cons_succ, List.getElem_cons_zero, List.setIfInBounds_toArray, List.set_cons_zero, List.set_cons_succ])
            refine wpAnyH_take (i := 6) (v := ?_) rfl (by kernel_rfl) (by kernel_rfl) (by kernel_rfl) (fun _ _ _ h => h) (Or.inl ⟨by rfl, ?_⟩) (by assumption) ?_
            rotate_left 1
            focus (intro w hSw; (try dsimp only at hSw); obtain ⟨k0, k1, k2, k3, k4, k5, k6⟩ := Bk.c7 hSw; go_simp; (try with_reducible rfl))
            (try simp only [Act.put, List.getElem_toArray, List.getElem_cons_succ, List.getElem_cons_zero, List.setIfInBounds_toArray, List.set_cons_zero, List.set_cons_succ])
            refine wpAnyH_take (i := 7) (v := ?_) rfl (by kernel_rfl) (by kernel_rfl) (by kernel_rfl) (fun _ _ _ h => h) (Or.inl ⟨by rfl, ?_⟩) (by assumption) ?_
            rotate_left 1
            focus (intro w hSw; (try dsimp only at hSw); obtain ⟨k0, k1, k2, k3, k4, k5, k6⟩ := Bk.c7 hSw; go_simp; (try with_reducible rfl))
            (try simp only [Act.put, List.getElem_toArray, List.getElem_cons_succ, List.getElem_cons_zero, List.setIfInBounds_toArray, List.set_cons_zero, List.set_cons_succ])
            refine wpAnyH_take (i := 8) (v := ?_) rfl (by kernel_rfl) (by kernel_rfl) (by kernel_rfl) (fun _ _ _ h => h) (Or.inl ⟨by rfl, ?_⟩) (by assumption) ?_
            rotate_left 1
            focus (intro w hSw; (try dsimp only at hSw); obtain ⟨k0, k1, k2, k3, k4, k5, k6⟩ := Bk.c7 hSw; go_simp; (try with_reducible rfl))
            (try simp only [Act.put, List.getElem_toArray, List.getElem_cons_succ, List.getElem_cons_zero, List.setIfInBounds_toArray, List.set_cons_zero, List.set_cons_succ])
            refine wpAnyH_take (i := 9) (v := ?_) rfl (by kernel_rfl) (by kernel_rfl) (by kernel_rfl) (fun _ _ _ h => h) (Or.inl ⟨by rfl, ?_⟩) (by assumption) ?_
            rotate_left 1
            focus (intro w hSw; (try dsimp only at hSw); obtain ⟨k0, k1, k2, k3, k4, k5, k6⟩ := Bk.c7 hSw; go_simp; (try with_reducible rfl))
            (try simp only [Act.put, List.getElem_toArray, List.getElem_cons_succ, List.getElem_cons_zero, List.setIfInBounds_toArray, List.set_cons_zero, List.set_cons_succ])
            refine wpAnyH_take (i := 10) (v := ?_) rfl (by kernel_rfl) (by kernel_rfl) (by kernel_rfl) (fun _ _ _ h => h) (Or.inl ⟨by rfl, ?_⟩) (by assumption) ?_
            rotate_left 1
            focus (intro w hSw; (try dsimp only at hSw); obtain ⟨k0, k1, k2, k3, k4, k5, k6⟩ := Bk.c7 hSw; go_simp; (try with_reducible rfl))
            (try simp only [Act.put, List.getElem_toArray, List.getElem_cons_succ, List.getElem_cons_zero, List.setIfInBounds_toArray, List.set_cons_zero, List.set_cons_succ])
            refine wpAnyH_take (i := 11) (v := ?_) rfl (by kernel_rfl) (by kernel_rfl) (by kernel_rfl) (fun _ _ _ h => h) (Or.inl ⟨by rfl, ?_⟩) (by assumption) ?_
            rotate_left 1
            focus (intro w hSw; (try dsimp only at hSw); obtain ⟨k0, k1, k2, k3, k4, k5, k6⟩ := Bk.c7 hSw; go_simp; (try with_reducible rfl))
            (try simp only [Act.put, List.getElem_toArray, List.getElem_cons_succ, List.getElem_cons_zero, List.setIfInBounds_toArray, List.set_cons_zero, List.set_cons_succ])
            refine wpAnyH_take (i := 12) (v := ?_) rfl (by kernel_rfl) (by kernel_rfl) (by kernel_rfl) (fun _ _ _ h => h) (Or.inl ⟨by rfl, ?_⟩) (by assumption) ?_
            rotate_left 1
            focus (intro w hSw; (try dsimp only at hSw); obtain ⟨k0, k1, k2, k3, k4, k5, k6⟩ := Bk.c7 hSw; go_simp; (try with_reducible rfl))
            (try simp only [Act.put, List.getElem_toArray, List.getElem_cons_succ, List.getElem_cons_zero, List.setIfInBounds_toArray, List.set_cons_zero, List.set_cons_succ])
            refine wpAnyH_take (i := 13) (v := ?_) rfl (by kernel_rfl) (by kernel_rfl) (by kernel_rfl) (fun _ _ _ h => h) (Or.inl ⟨by rfl, ?_⟩) (by assumption) ?_
            rotate_left 1
            focus (intro w hSw; (try dsimp only at hSw); obtain ⟨k0, k1, k2, k3, k4, k5, k6⟩ := Bk.c7 hSw; go_simp; (try with_reducible rfl))
            (try simp only [Act.put, List.getElem_toArray, List.getElem_cons_succ, List.getElem_cons_zero, List.setIfInBounds_toArray, List.set_cons_zero, List.set_cons_succ])
            refine wpAnyH_take (i := 14) (v := ?_) rfl (by kernel_rfl) (by kernel_rfl) (by kernel_rfl) (fun _ _ _ h => h) (Or.inl ⟨by rfl, ?_⟩) (by assumption) ?_
            rotate_left 1
            focus (intro w hSw; (try dsimp only at hSw); obtain ⟨k0, k1, k2, k3, k4, k5, k6⟩ := Bk.c7 hSw; go_simp; (try with_reducible rfl))
            (try simp only [Act.put, List.getElem_toArray, List.getElem_cons_succ, List.getElem_cons_zero, List.setIfInBounds_toArray, List.set_cons_zero, List.set_cons_succ])
            refine wpAnyH_take (i := 15) (v := ?_) rfl (by kernel_rfl) (by kernel_rfl) (by kernel_rfl) (fun _ _ _ h => h) (Or.inl ⟨by rfl, ?_⟩) (by assumption) ?_
            rotate_left 1
            focus (intro w hSw; (try dsimp only at hSw); obtain ⟨k0, k1, k2, k3, k4, k5, k6⟩ := Bk.c7 hSw; go_simp; (try with_reducible rfl))
            (try simp only [Act.put, List.getElem_toArray, List.getElem_cons_succ, List.getElem_cons_zero, List.setIfInBounds_toArray, List.set_cons_zero, List.set_cons_succ])
            refine wpAnyH_take (i := 16) (v := ?_) rfl (by kernel_rfl) (by kernel_rfl) (by kernel_rfl) (fun _ _ _ h => h) (Or.inl ⟨by rfl, ?_⟩) (by assumption) ?_
            rotate_left 1
            focus (intro w hSw; (try dsimp only at hSw); obtain ⟨k0, k1, k2, k3, k4, k5, k6⟩ := Bk.c7 hSw; go_simp; (try with_reducible rfl))
            (try simp only [Act.put, List.getElem_toArray, List.getElem_cons_succ, List.getElem_cons_zero, List.setIfInBounds_toArray, List.set_cons_zero, List.set_cons_succ])
            refine wpAnyH_take (i := 17) (v := ?_) rfl (by kernel_rfl) (by kernel_rfl) (by kernel_rfl) (fun _ _ _ h => h) (Or.inl ⟨by rfl, ?_⟩) (by assumption) ?_
            rotate_left 1
            focus (intro w hSw; (try dsimp only at hSw); obtain ⟨k0, k1, k2, k3, k4, k5, k6⟩ := Bk.c7 hSw; go_simp; (try with_reducible rfl))
            (try simp only [Act.put, List.getElem_toArray, List.getElem_cons_succ, List.getElem_cons_zero, List.setIfInBounds_toArray, List.set_cons_zero, List.set_cons_succ])
            refine wpAnyH_take (i := 18) (v := ?_) rfl (by kernel_rfl) (by kernel_rfl) (by kernel_rfl) (fun _ _ _ h => h) (Or.inl ⟨by rfl, ?_⟩) (by assumption) ?_
            rotate_left 1
            focus (intro w hSw; (try dsimp only at hSw); obtain ⟨k0, k1, k2, k3, k4, k5, k6⟩ := Bk.c7 hSw; go_simp; (try with_reducible rfl))
            (try simp only [Act.put, List.getElem_toArray, List.getElem_cons_succ, List.getElem_cons_zero, List.setIfInBounds_toArray, List.set_cons_zero, List.set_cons_succ])
            refine wpAnyH_take (i := 19) (v := ?_) rfl (by kernel_rfl) (by kernel_rfl) (by kernel_rfl) (fun _ _ _ h => h) (Or.inl ⟨by rfl, ?_⟩) (by assumption) ?_
            rotate_left 1
            focus (intro w hSw; (try dsimp only at hSw); obtain ⟨k0, k1, k2, k3, k4, k5, k6⟩ := Bk.c7 hSw; go_simp; (try with_reducible rfl))
            (try simp only [Act.put, List.getElem_toArray, List.getElem_cons_succ, List.getElem_cons_zero, List.setIfInBounds_toArray, List.set_cons_zero, List.set_cons_succ])
            refine wpAnyH_ready (rs := [4, 20]) (by kernel_rfl) (by simp) ?_
            refine AllReadyH.cons rfl (fun K hK => ?_) (AllReadyH.cons rfl (fun K hK => ?_) AllReadyH.nil)
            · rw [if_pos (by rfl)]
              go_simp
              refine hK.out _ _ (by assumption) (fun hHeld => ?_)
              clear hK K
              (try simp only [Act.put, List.getElem_toArray, List.getElem_cons_succ, List.getElem_cons_zero, List.setIfInBounds_toArray, List.set_cons_zero, List.set_cons_succ])
              refine wpAnyH_ready (rs := [20]) (by kernel_rfl) (by simp) ?_
              refine AllReadyH.cons rfl (fun K hK => ?_) AllReadyH.nil
              rw [if_pos (by rfl)]
              go_simp
              refine hK.out _ _ (Bk.alloc (by assumption) _) (fun hHeld => ?_)
              clear hK K
              (try simp only [Act.put, List.getElem_toArray, List.getElem_cons_succ, List.getElem_cons_zero, List.setIfInBounds_toArray, List.set_cons_zero, List.set_cons_succ])
              refine wpAnyH_ready (rs := [21]) (by kernel_rfl) (by simp) ?_
              refine AllReadyH.cons rfl (fun K hK => ?_) AllReadyH.nil
              refine step_append_sl rfl (.tmp 115) (.tmp 131) rfl Eef (rb + 1) v2 (.slice (some ⟨w7.heap.size, 0, none⟩) 1 1) s.ef.length 1 (s.ef.flatMap Ca.cells) (Ca.cells c) rfl rfl (World.ownsRow.alloc hR2 _) (Sl.new w7 #[.int .i64 c.tenant, .string c.key, .int .i64 c.epoch, .int .i64 c.phase, .int .i64 c.token, .string c.name, .string c.body] 37 1 (by decide) (by omega)) rfl (ca_one c) (by unfold maxLen; omega) (by omega) (by have := HBW.out; simp; omega) ?_
              intro u2 w8 hown8 hf8 hat8
              obtain ⟨g8, cap8, rfl⟩ := owns_form hown8
              have hf8' : Frm (fun k => v2.ownBlock = some k) w7 w8 := Frm.then_ (by first | exact ((Frm.refl _ w7).alloc (.cells #[.int .i64 c.tenant, .string c.key, .int .i64 c.epoch, .int .i64 c.phase, .int .i64 c.token, .string c.name, .string c.body] 37)).drew | exact ((Frm.refl _ w7).drew.alloc (.cells #[.int .i64 c.tenant, .string c.key, .int .i64 c.epoch, .int .i64 c.phase, .int .i64 c.token, .string c.name, .string c.body] 37))) hf8 (fun k hk e => e)
              have hbk8 := hf8'.blk hbk7 (fun e => by have := HVB.out _ e; omega)
              have hcb8 := hf8'.blk hcb7 (fun e => HM.out.hCn.2.1 e)
              refine hK.out _ _ hcb8 (fun hHeld => ?_)
              clear hK K
              (try simp only [Act.put, List.getElem_toArray, List.getElem_cons_succ, List.getElem_cons_zero, List.setIfInBounds_toArray, List.set_cons_zero, List.set_cons_succ])
              refine wpAnyH_take (i := 22) (v := ?_) rfl (by kernel_rfl) (by kernel_rfl) (by kernel_rfl) (fun _ _ _ h => h) (Or.inl ⟨by rfl, ?_⟩) (by assumption) ?_
              rotate_left 1
              focus (intro w hSw; (try dsimp only at hSw); go_simp; (try with_reducible rfl))
              (try simp only [Act.put, List.getElem_toArray, List.getElem_cons_succ, List.getElem_cons_zero, List.setIfInBounds_toArray, List.set_cons_zero, List.set_cons_succ])
              refine wpAnyH_take (i := 23) (v := ?_) rfl (by kernel_rfl) (by kernel_rfl) (by kernel_rfl) (fun _ _ _ h => h) (Or.inl ⟨by rfl, ?_⟩) (by assumption) ?_
              rotate_left 1
              focus (intro w hSw; (try dsimp only at hSw); go_simp; (try with_reducible rfl))
              (try simp only [Act.put, List.getElem_toArray, List.getElem_cons_succ, List.getElem_cons_zero, List.setIfInBounds_toArray, List.set_cons_zero, List.set_cons_succ])
              refine wpAnyH_ready (rs := [24]) (by kernel_rfl) (by simp) ?_
              refine AllReadyH.cons rfl (fun K hK => ?_) AllReadyH.nil
              have f29 := Bk.frozen hbk8 1
              have c29 := (Bk.c3 hbk8).2.1
              rw [if_pos (by rfl)]
              go_simp
              refine hK.out _ _ (Bk.far (by assumption) (p := ⟨rb, 1, none⟩) (show C ≠ rb from HM.out.hCn.2.2) _) (fun hHeld => ?_)
              clear hK K
              (try simp only [Act.put, List.getElem_toArray, List.getElem_cons_succ, List.getElem_cons_zero, List.setIfInBounds_toArray, List.set_cons_zero, List.set_cons_succ])
              refine wpAnyH_done (by kernel_rfl) ?_ _
              go_wp2_with fail
              go_ret
              have hg1 : Frm (fun k => k = rb) w8 (w8.setCell ⟨rb, 1, none⟩ (.slice (some ⟨g8, 0, none⟩) (s.ef.length + 1) cap8)) := (Frm.refl _ w8).set1 1 _
              have hb9 := Bk.set hbk8 1 (.slice (some ⟨g8, 0, none⟩) (s.ef.length + 1) cap8)
              have hR1b := owns_frm (owns_frm hR1 hf8' (fun k hk e => HM.out.sep k hk e)) hg1 (fun k hk e => by cases hk; have h1 := HGB.out; have h2 : g = rb := e; omega)
              have hu2 : ∀ k, (Value.slice (some ⟨g8, 0, none⟩) (s.ef.length + 1) cap8).ownBlock = some k → k ≠ rb ∧ (v2.ownBlock = some k ∨ w7.heap.size ≤ k) := fun k hk => by
                rcases hat8 with e | e
                · rw [e] at hk; exact ⟨by have := HVB.out k hk; omega, .inl hk⟩
                · rw [e] at hk; cases hk; have := HBW.out; constructor
                  · simp; omega
                  · right; simp
              refine rdo_post HN.out (.slice (some ⟨g, 0, none⟩) ls'.length cap) (.slice (some ⟨g8, 0, none⟩) (s.ef.length + 1) cap8) _ rfl _ ⟨?_, ?_, ?_, ?_⟩ ((hF7.then_ hf8' (fun k hk e => .inr (.inr e))).then_ hg1 (fun k hk e => .inl e)) HM.out.own ?_
              · simpa using hb9
              · rw [HPL.out false] at hR1b ⊢
                exact hR1b
              · have h1 := owns_frm hown8 hg1 (fun k hk e => (hu2 k hk).1 e)
                simpa [List.flatMap_append] using h1
              · intro k hk he
                rcases (hu2 k he).2 with e | e
                · exact HM.out.sep k hk e
                · cases hk; have h1 := HGW.out; have h2 : w7.heap.size ≤ g := e; omega
              · rcases hat8 with e | e
                · exact .inl e
                · refine .inr (fun k hk => ?_)
                  rw [e] at hk; cases hk
                  have := hF7.size
                  simp; omega
            · rw [if_pos (by rfl)]
              go_simp
              refine hK.out _ _ (Bk.alloc (by assumption) _) (fun hHeld => ?_)
              clear hK K
              (try simp only [Act.put, List.getElem_toArray, List.getElem_cons_succ, List.getElem_cons_zero, List.setIfInBounds_toArray, List.set_cons_zero, List.set_cons_succ])
              refine wpAnyH_ready (rs := [4]) (by kernel_rfl) (by simp) ?_
              refine AllReadyH.cons rfl (fun K hK => ?_) AllReadyH.nil
              have a29 := (Bk.c3 (show (w7.alloc (.cells #[.int .i64 c.tenant, .string c.key, .int .i64 c.epoch, .int .i64 c.phase, .int .i64 c.token, .string c.name, .string c.body] 37)).drew.heap[rb]? = _ from Bk.alloc (show w7.drew.heap[rb]? = _ from hbk7) (.cells #[.int .i64 c.tenant, .string c.key, .int .i64 c.epoch, .int .i64 c.phase, .int .i64 c.token, .string c.name, .string c.body] 37))).2.1
              rw [if_pos (by rfl)]
              go_simp
              refine hK.out _ _ (by assumption) (fun hHeld => ?_)
              clear hK K
              (try simp only [Act.put, List.getElem_toArray, List.getElem_cons_succ, List.getElem_cons_zero, List.setIfInBounds_toArray, List.set_cons_zero, List.set_cons_succ])
              refine wpAnyH_ready (rs := [21]) (by kernel_rfl) (by simp) ?_
              refine AllReadyH.cons rfl (fun K hK => ?_) AllReadyH.nil
              refine step_append_sl rfl (.tmp 115) (.tmp 131) rfl Eef (rb + 1) v2 (.slice (some ⟨w7.heap.size, 0, none⟩) 1 1) s.ef.length 1 (s.ef.flatMap Ca.cells) (Ca.cells c) rfl rfl (World.ownsRow.alloc hR2 _) (Sl.new w7 #[.int .i64 c.tenant, .string c.key, .int .i64 c.epoch, .int .i64 c.phase, .int .i64 c.token, .string c.name, .string c.body] 37 1 (by decide) (by omega)) rfl (ca_one c) (by unfold maxLen; omega) (by omega) (by have := HBW.out; simp; omega) ?_
              intro u2 w8 hown8 hf8 hat8
              obtain ⟨g8, cap8, rfl⟩ := owns_form hown8
              have hf8' : Frm (fun k => v2.ownBlock = some k) w7 w8 := Frm.then_ (by first | exact ((Frm.refl _ w7).alloc (.cells #[.int .i64 c.tenant, .string c.key, .int .i64 c.epoch, .int .i64 c.phase, .int .i64 c.token, .string c.name, .string c.body] 37)).drew | exact ((Frm.refl _ w7).drew.alloc (.cells #[.int .i64 c.tenant, .string c.key, .int .i64 c.epoch, .int .i64 c.phase, .int .i64 c.token, .string c.name, .string c.body] 37))) hf8 (fun k hk e => e)
              have hbk8 := hf8'.blk hbk7 (fun e => by have := HVB.out _ e; omega)
              have hcb8 := hf8'.blk hcb7 (fun e => HM.out.hCn.2.1 e)
              refine hK.out _ _ hcb8 (fun hHeld => ?_)
              clear hK K
              (try simp only [Act.put, List.getElem_toArray, List.getElem_cons_succ, List.getElem_cons_zero, List.setIfInBounds_toArray, List.set_cons_zero, List.set_cons_succ])
              refine wpAnyH_take (i := 22) (v := ?_) rfl (by kernel_rfl) (by kernel_rfl) (by kernel_rfl) (fun _ _ _ h => h) (Or.inl ⟨by rfl, ?_⟩) (by assumption) ?_
              rotate_left 1
              focus (intro w hSw; (try dsimp only at hSw); go_simp; (try with_reducible rfl))
              (try simp only [Act.put, List.getElem_toArray, List.getElem_cons_succ, List.getElem_cons_zero, List.setIfInBounds_toArray, List.set_cons_zero, List.set_cons_succ])
              refine wpAnyH_take (i := 23) (v := ?_) rfl (by kernel_rfl) (by kernel_rfl) (by kernel_rfl) (fun _ _ _ h => h) (Or.inl ⟨by rfl, ?_⟩) (by assumption) ?_
              rotate_left 1
              focus (intro w hSw; (try dsimp only at hSw); go_simp; (try with_reducible rfl))
              (try simp only [Act.put, List.getElem_toArray, List.getElem_cons_succ, List.getElem_cons_zero, List.setIfInBounds_toArray, List.set_cons_zero, List.set_cons_succ])
              refine wpAnyH_ready (rs := [24]) (by kernel_rfl) (by simp) ?_
              refine AllReadyH.cons rfl (fun K hK => ?_) AllReadyH.nil
              have f29 := Bk.frozen hbk8 1
              have c29 := (Bk.c3 hbk8).2.1
              rw [if_pos (by rfl)]
              go_simp
              refine hK.out _ _ (Bk.far (by assumption) (p := ⟨rb, 1, none⟩) (show C ≠ rb from HM.out.hCn.2.2) _) (fun hHeld => ?_)
              clear hK K
              (try simp only [Act.put, List.getElem_toArray, List.getElem_cons_succ, List.getElem_cons_zero, List.setIfInBounds_toArray, List.set_cons_zero, List.set_cons_succ])
              refine wpAnyH_done (by kernel_rfl) ?_ _
              go_wp2_with fail
              go_ret
              have hg1 : Frm (fun k => k = rb) w8 (w8.setCell ⟨rb, 1, none⟩ (.slice (some ⟨g8, 0, none⟩) (s.ef.length + 1) cap8)) := (Frm.refl _ w8).set1 1 _
              have hb9 := Bk.set hbk8 1 (.slice (some ⟨g8, 0, none⟩) (s.ef.length + 1) cap8)
              have hR1b := owns_frm (owns_frm hR1 hf8' (fun k hk e => HM.out.sep k hk e)) hg1 (fun k hk e => by cases hk; have h1 := HGB.out; have h2 : g = rb := e; omega)
              have hu2 : ∀ k, (Value.slice (some ⟨g8, 0, none⟩) (s.ef.length + 1) cap8).ownBlock = some k → k ≠ rb ∧ (v2.ownBlock = some k ∨ w7.heap.size ≤ k) := fun k hk => by
                rcases hat8 with e | e
                · rw [e] at hk; exact ⟨by have := HVB.out k hk; omega, .inl hk⟩
                · rw [e] at hk; cases hk; have := HBW.out; constructor
                  · simp; omega
                  · right; simp
              refine rdo_post HN.out (.slice (some ⟨g, 0, none⟩) ls'.length cap) (.slice (some ⟨g8, 0, none⟩) (s.ef.length + 1) cap8) _ rfl _ ⟨?_, ?_, ?_, ?_⟩ ((hF7.then_ hf8' (fun k hk e => .inr (.inr e))).then_ hg1 (fun k hk e => .inl e)) HM.out.own ?_
              · simpa using hb9
              · rw [HPL.out false] at hR1b ⊢
                exact hR1b
              · have h1 := owns_frm hown8 hg1 (fun k hk e => (hu2 k hk).1 e)
                simpa [List.flatMap_append] using h1
              · intro k hk he
                rcases (hu2 k he).2 with e | e
                · exact HM.out.sep k hk e
                · cases hk; have h1 := HGW.out; have h2 : w7.heap.size ≤ g := e; omega
              · rcases hat8 with e | e
                · exact .inl e
                · refine .inr (fun k hk => ?_)
                  rw [e] at hk; cases hk
                  have := hF7.size
                  simp; omega
        · have HN := Lib.hid (call_met HST HMT.out)
          go_wp2_with fail
          go_ret
          refine rdo_post HN.out (.slice (some ⟨g, 0, none⟩) ls'.length cap) v2 _ rfl _ ⟨hbk7, ?_, hR2, HM.out.sep⟩ hF7 HM.out.own (.inl rfl)
          rw [HPL.out false] at hR1 ⊢
          exact hR1
    · rw [if_pos (by rfl)]
      go_simp
      refine hK.out _ _ (Bk.alloc (by assumption) _) (fun hHeld => ?_)
      clear hK K
      (try simp only [Act.put, List.getElem_toArray, List.getElem_cons_succ, List.getElem_cons_zero, List.setIfInBounds_toArray, List.set_cons_zero, List.set_cons_succ])
      refine wpAnyH_ready (rs := [4]) (by kernel_rfl) (by simp) ?_
      refine AllReadyH.cons rfl (fun K hK => ?_) AllReadyH.nil
      have a29 := (Bk.c3 (show (w2.alloc (.cells #[.int .i64 c.tenant, .string c.key, .int .i64 c.epoch, .int .i64 c.token, .bool false] 51)).drew.heap[rb]? = _ from Bk.alloc (show w2.drew.heap[rb]? = _ from hR.blk) (.cells #[.int .i64 c.tenant, .string c.key, .int .i64 c.epoch, .int .i64 c.token, .bool false] 51))).1
      rw [if_pos (by rfl)]
      go_simp
      refine hK.out _ _ (by assumption) (fun hHeld => ?_)
      clear hK K
      (try simp only [Act.put, List.getElem_toArray, List.getElem_cons_succ, List.getElem_cons_zero, List.setIfInBounds_toArray, List.set_cons_zero, List.set_cons_succ])
      refine wpAnyH_ready (rs := [15]) (by kernel_rfl) (by simp) ?_
      refine AllReadyH.cons rfl (fun K hK => ?_) AllReadyH.nil
      refine step_append_sl rfl (.tmp 26) (.tmp 36) rfl Elf (rb + 1) _ (.slice (some ⟨w2.heap.size, 0, none⟩) 1 1) s.ls.length 1 (s.ls.flatMap Lf.cells) (Lf.cells ⟨c.tenant, c.key, c.epoch, c.token, false⟩) rfl rfl (World.ownsRow.alloc hR.r1 _) (Sl.new w2 #[.int .i64 c.tenant, .string c.key, .int .i64 c.epoch, .int .i64 c.token, .bool false] 51 1 (by decide) (by omega)) rfl (by intro u hu; simp only [Lf.cells, List.mem_cons, List.not_mem_nil, or_false] at hu; rcases hu with rfl | rfl | rfl | rfl | rfl <;> rfl) (by unfold maxLen; omega) (by omega) (by simp; omega) ?_
      intro u1 w3 hown3 hf3 hat3
      obtain ⟨g3, cap3, rfl⟩ := owns_form hown3
      have hf3' : Frm (fun k => (Value.slice A1 s.ls.length cp1).ownBlock = some k) w2 w3 := Frm.then_ (by first | exact ((Frm.refl _ w2).alloc (.cells #[.int .i64 c.tenant, .string c.key, .int .i64 c.epoch, .int .i64 c.token, .bool false] 51)).drew | exact ((Frm.refl _ w2).drew.alloc (.cells #[.int .i64 c.tenant, .string c.key, .int .i64 c.epoch, .int .i64 c.token, .bool false] 51))) hf3 (fun k hk e => e)
      have hbk3 := hf3'.blk hR.blk (fun e => by have := (hR.r1.lt _ e).1; omega)
      have hcb3 := hf3'.blk hCB (fun e => by have := (HO.out.1 _ e).2; have := HCC.out; omega)
      refine hK.out _ _ hcb3 (fun hHeld => ?_)
      clear hK K
      (try simp only [Act.put, List.getElem_toArray, List.getElem_cons_succ, List.getElem_cons_zero, List.setIfInBounds_toArray, List.set_cons_zero, List.set_cons_succ])
      refine wpAnyH_take (i := 16) (v := ?_) rfl (by kernel_rfl) (by kernel_rfl) (by kernel_rfl) (fun _ _ _ h => h) (Or.inl ⟨by rfl, ?_⟩) (by assumption) ?_
      rotate_left 1
      focus (intro w hSw; (try dsimp only at hSw); go_simp; (try with_reducible rfl))
      (try simp only [Act.put, List.getElem_toArray, List.getElem_cons_succ, List.getElem_cons_zero, List.setIfInBounds_toArray, List.set_cons_zero, List.set_cons_succ])
      refine wpAnyH_take (i := 17) (v := ?_) rfl (by kernel_rfl) (by kernel_rfl) (by kernel_rfl) (fun _ _ _ h => h) (Or.inl ⟨by rfl, ?_⟩) (by assumption) ?_
      rotate_left 1
      focus (intro w hSw; (try dsimp only at hSw); go_simp; (try with_reducible rfl))
      (try simp only [Act.put, List.getElem_toArray, List.getElem_cons_succ, List.getElem_cons_zero, List.setIfInBounds_toArray, List.set_cons_zero, List.set_cons_succ])
      refine wpAnyH_ready (rs := [18]) (by kernel_rfl) (by simp) ?_
      refine AllReadyH.cons rfl (fun K hK => ?_) AllReadyH.nil
      have f29 := Bk.frozen hbk3 0
      have c29 := (Bk.c3 hbk3).1
      have hCrb : C ≠ rb := by have := HCC.out; omega
      rw [if_pos (by rfl)]
      go_simp
      refine hK.out _ _ (Bk.far (by assumption) (p := ⟨rb, 0, none⟩) hCrb _) (fun hHeld => ?_)
      clear hK K
      (try simp only [Act.put, List.getElem_toArray, List.getElem_cons_succ, List.getElem_cons_zero, List.setIfInBounds_toArray, List.set_cons_zero, List.set_cons_succ])
      refine wpAnyH_done (by kernel_rfl) ?_ _
      have hg3 : Frm (fun k => k = rb) w3 (w3.setCell ⟨rb, 0, none⟩ (.slice (some ⟨g3, 0, none⟩) (s.ls.length + 1) cap3)) := (Frm.refl _ w3).set1 0 _
      have hbk4 := Bk.set hbk3 0 (.slice (some ⟨g3, 0, none⟩) (s.ls.length + 1) cap3)
      have hcb4 := hg3.blk hcb3 hCrb
      have hown4 := owns_frm hown3 hg3 (fun k hk e => by have := (hown3.lt k hk).1; omega)
      have hR24 := owns_frm (owns_frm hR.r2 hf3' (fun k hk e => hR.sep k e hk)) hg3 (fun k hk e => by have := (hR.r2.lt k hk).1; omega)
      have hown : (Value.slice (some ⟨g3, 0, none⟩) (s.ls.length + 1) cap3).ownBlock = (Value.slice A1 s.ls.length cp1).ownBlock ∨ (Value.slice (some ⟨g3, 0, none⟩) (s.ls.length + 1) cap3).ownBlock = some (w2.heap.size + 1) := by
        rcases hat3 with e | e
        · exact .inl e
        · right
          rw [e]
          simp
      have hwC : w.heap.size = C := HCC.out
      have hM : ∃ ls' u1 tok sp, Md w (w3.setCell ⟨rb, 0, none⟩ (.slice (some ⟨g3, 0, none⟩) (s.ls.length + 1) cap3)) rb C (.slice A1 s.ls.length cp1) v2 u1 s c ls' i tok sp := by
        refine ⟨s.ls ++ [⟨c.tenant, c.key, c.epoch, c.token, false⟩], _, c.token, false, ⟨hcb4, by simpa using hbk4, by simpa using hown4, hR24, fun k hk he => ?_, ((hF2.mono (fun _ _ h => h.elim)).then_ hf3' (fun k hk e => .inr (.inl e))).then_ hg3 (fun k hk e => .inl e), ?_, by omega, ⟨fun e => ?_, fun e => ?_, hCrb⟩, by have := HIL.out; simp; omega, ?_, ?_, fun hs => ?_, fun b => ?_⟩⟩
        · rcases hown with e | e
          · rw [e] at hk; exact hR.sep k hk he
          · rw [e] at hk; cases hk; have := (hR.r2.lt _ he).2; omega
        · rcases hown with e | e
          · exact .inl e
          · refine .inr (fun k hk => ?_)
            rw [e] at hk; cases hk
            have := hF2.size; omega
        · rcases hown with e' | e'
          · rw [e'] at e; have := (HO.out.1 C e).2; omega
          · rw [e'] at e; cases e; have := Bk.lt hCB; omega
        · have := (HO.out.2 C e).2; omega
        · rw [List.getElem_append_right (by have := HIL.out; omega)]
          simp
        · have hf := HIF.out.2 HIL.out
          unfold stale
          rw [hf]
          simp
        · have hf := HIF.out.2 HIL.out
          unfold stale at hs
          rw [hf] at hs
          exact hs.elim
        · rw [HS.out.2 b HIL.out, HIL.out, List.set_append_right _ _ (Nat.le_refl _), Nat.sub_self]
          rfl
      have hq0 : True := trivial
      rw [show (s.ls.length : Int) = (i : Int) from by rw [HIL.out]]
      clear hg3 hbk4 hcb4 hown4 hR24 hown hwC hcb3 hbk3 f29 c29 hown3 hf3 hat3 hf3' hCrb b0 b1 b2 hbl2 hR hCB c0 c1 c2 c3 c4 c5 c6 hF2 hs2
      try clear a29
      generalize w3.setCell ⟨rb, 0, none⟩ (.slice (some ⟨g3, 0, none⟩) (s.ls.length + 1) cap3) = w3 at *
      obtain ⟨ls', u1, tok, sp, hM⟩ := hM
      obtain ⟨g, cap, rfl⟩ : ∃ g cap, u1 = .slice (some ⟨g, 0, none⟩) ls'.length cap := by
        rcases hM.r1.2 with ⟨_, h0⟩ | ⟨g, cap, cur, he, _⟩
        · have := hM.hi; omega
        · exact ⟨g, cap, he⟩
      have hrg := owns_range (f := Lf.cells) (l := ls') hM.r1 (fun _ => rfl) rfl i hM.hi
      rw [hM.at_] at hrg
      have hrg : w3.rangeAt g (i * 5) [.int .i64 c.tenant, .string c.key, .int .i64 c.epoch, .int .i64 tok, .bool sp] := hrg
      have hii : (i : Int) < (ls'.length : Int) := by have := hM.hi; omega
      have hi0 : (0 : Int) ≤ (i : Int) := by omega
      have HPL := Lib.hid (show ∀ b, ls'.length = (putL s.ls c.tenant c.key c.epoch c.token b).length from fun b => by rw [← hM.set0 b, List.length_set])
      obtain ⟨b0, b1, b2⟩ := Bk.c3 hM.bk
      have hgl := hM.r1.lt g rfl
      have halx := (Frm.refl (fun _ => False) w3).alloc (.cells #[.int .i64 c.tenant, .string c.key, .int .i64 c.epoch, .int .i64 tok, .bool sp] 51)
      have hX4 := Bk.new w3 (.cells #[.int .i64 c.tenant, .string c.key, .int .i64 c.epoch, .int .i64 tok, .bool sp] 51)
      have HCB := Lib.hid (halx.blk hM.cb (fun h => h))
      have HBK := Lib.hid (halx.blk hM.bk (fun h => h))
      have HR1 := Lib.hid (owns_frm0 hM.r1 halx)
      have HR2 := Lib.hid (owns_frm0 hM.r2 halx)
      have HF4 := Lib.hid (hM.frm.then0 halx)
      have HG := Lib.hid (show ∀ k, k < w.heap.size → k = g → rfp rb (.slice A1 s.ls.length cp1) v2 k from fun k hk e => by
        subst e
        rcases hM.own with h | h
        · exact .inr (.inl (h ▸ rfl))
        · have := h k rfl; omega)
      have HGB := Lib.hid (show g ≠ rb by omega)
      have HCG := Lib.hid (show C ≠ g from fun e => hM.hCn.1 (e ▸ rfl))
      have HVB := Lib.hid (show ∀ k, v2.ownBlock = some k → k ≠ rb from fun k hk => by have := (hM.r2.lt k hk).1; omega)
      have hcl := Bk.lt hM.cb
      have hbl := Bk.lt hM.bk
      have hsx : (w3.alloc (.cells #[.int .i64 c.tenant, .string c.key, .int .i64 c.epoch, .int .i64 tok, .bool sp] 51)).heap.size = w3.heap.size + 1 := by simp
      have HWX := Lib.hid (show w.heap.size ≤ w3.heap.size from hM.frm.size)
      have HVX0 := Lib.hid (show ∀ k, v2.ownBlock = some k → k < w3.heap.size from fun k hk => (hM.r2.lt k hk).2)
      have HM := Lib.hid hM
      clear hM halx
      go_upto_region 6 with (first
        | (refine wpList_load_mid rfl 51 (.tmp 45) rfl g (i * 5) rfl _ _ hrg Try.underlying51 rfl (by rw [iL]; rfl) ?_))
      clear b0 b1 b2
      obtain ⟨X, hX⟩ : ∃ X, w3.heap.size = X := ⟨_, rfl⟩
      generalize w3.alloc (.cells #[.int .i64 c.tenant, .string c.key, .int .i64 c.epoch, .int .i64 tok, .bool sp] 51) = w4 at *
      rw [hX] at hX4 hsx hgl hcl hbl HWX HVX0 ⊢
      have HCX := Lib.hid (show C < X from hcl)
      have HBX := Lib.hid (show rb < X from hbl)
      have HGX := Lib.hid (show g < X from hgl.2)
      have HVX := HVX0
      have hX1 := hsx
      clear hX hrg HVX0 hcl hbl hsx
      obtain ⟨x0, x1, x2, x3, x4⟩ := Bk.c5 hX4
      have f3 := Bk.frozen hX4 3
      have f4 := Bk.frozen hX4 4
      have c0 := (Bk.c7 HCB.out).1
      have c4 := (Bk.c7 HCB.out).2.2.2.2.1
      have HX1 := Lib.hid hX1
      clear hX1 hgl
      rcases Int.lt_trichotomy c.token tok with hlt | heq | hgt
      · have d1 : decide (c.token < tok) = true := decide_eq_true hlt
        go_wp2_with fail
        go_ret
        have hst : stale s c := HM.out.st.2 (.inl hlt)
        have hlseq := HM.out.old hst
        refine rdo_post (call_stale hst) (.slice (some ⟨g, 0, none⟩) ls'.length cap) v2 _ rfl w4 ⟨HBK.out, ?_, HR2.out, HM.out.sep⟩ ?_ HM.out.own (.inl rfl)
        · have := HR1.out
          rw [hlseq] at this
          rw [hlseq]
          exact this
        · exact HF4.out
      · subst heq
        cases sp
        · have HST : ¬ stale s c := fun h => by
            rcases HM.out.st.1 h with h | ⟨_, h⟩
            · omega
            · cases h
          go_upto_region 11 with (fail)
          have hX5 := Bk.set hX4 3 (.int .i64 c.token)
          have hXf : Frm (fun k => k = X) w4 (w4.setCell ⟨X, 3, none⟩ (.int .i64 c.token)) := (Frm.refl _ w4).set1 3 _
          simp at hX5
          have hs5 := hXf.size
          have hcb5 := hXf.blk HCB.out (by have := HCX.out; omega)
          have hbk5 := hXf.blk HBK.out (by have := HBX.out; omega)
          have hR1 := owns_frm HR1.out hXf (fun k hk e => by cases hk; have h1 := HGX.out; have h2 : g = X := e; omega)
          have hR2 := owns_frm HR2.out hXf (fun k hk e => by have := HVX.out k hk; omega)
          have hF5 := HF4.out.then_ hXf (fun k hk e => by have := HWX.out; omega)
          clear hXf
          generalize (w4.setCell ⟨X, 3, none⟩ (.int .i64 c.token)) = w5 at *
          obtain ⟨x0, x1, x2, x3, x4⟩ := Bk.c5 hX5
          obtain ⟨b0, b1, b2⟩ := Bk.c3 hbk5
          refine st_tail 7 (by kernel_rfl) (by kernel_rfl) ?_
          simp only [List.take_succ_cons, List.take_zero, List.drop_succ_cons, List.drop_zero]
          repeat still_step
          refine wpStill_nil ?_
          go_wp2_with (refine wpList_store_row (f := Lf.cells) (l := ls') rfl 51 (.tmp 78) (.tmp 77) rfl ⟨c.tenant, c.key, c.epoch, c.token, false⟩ (owns_drew hR1) (fun _ => rfl) rfl HM.out.hi rfl rfl iL rfl rfl ?_; intro w6 hR6 hf6)
          have hf6' : Frm (fun k => k = g) w5 w6 := ((Frm.refl (fun k => k = g) w5).drew).trans hf6
          rw [HM.out.set0 false] at hR6
          have hcb6 := hf6'.blk hcb5 (by have := HCG.out; omega)
          have hbk6 := hf6'.blk hbk5 (by have := HGB.out; omega)
          have hR2 := owns_frm hR2 hf6' (fun k hk e => by have := HM.out.sep g rfl; subst e; exact this hk)
          have hF6 := hF5.then_ hf6' (fun k hk e => HG.out k hk e)
          have hs6 := hf6'.size
          clear hX5 hcb5 hbk5 hR1 hF5 hf6 hf6' x0 x1 x2 x3 x4 b0 b1 b2 c0 c4
          obtain ⟨b0, b1, b2⟩ := Bk.c3 hbk6
          obtain ⟨c0, c1, c2, c3, c4, c5, c6⟩ := Bk.c7 hcb6
          go_upto_region 12 with (fail)
          refine st_tail 12 (by kernel_rfl) (by kernel_rfl) ?_
          simp only [List.take_succ_cons, List.take_zero, List.drop_succ_cons, List.drop_zero]
          repeat still_step
          refine wpStill_nil ?_
          go_wp2_with fail
          obtain ⟨m, hm⟩ : ∃ m, met s.ef c.tenant c.key c.epoch c.phase = m := ⟨_, rfl⟩
          have HMT := Lib.hid hm
          refine (met_is (Sl.of_own (owns_drew hR2)) hm).mono ?_
          rintro e w7 ⟨rfl, hf7⟩
          have hf7' : Frm0 w6 w7 := ((Frm.refl (fun _ => False) w6).drew).trans hf7
          have hcb7 := hf7'.blk hcb6 (fun h => h)
          have hbk7 := hf7'.blk hbk6 (fun h => h)
          have hR1 := owns_frm0 hR6 hf7'
          have hR2 := owns_frm0 hR2 hf7'
          have hF7 := hF6.then0 hf7'
          have hs7 := hf7'.size
          have HBW := Lib.hid (Bk.lt hbk7)
          have HGW := Lib.hid (hR1.lt g rfl).2
          clear hm hcb6 hbk6 hR6 hF6 hf7 hf7' b0 b1 b2 c0 c1 c2 c3 c4 c5 c6
          obtain ⟨b0, b1, b2⟩ := Bk.c3 hbk7
          obtain ⟨c0, c1, c2, c3, c4, c5, c6⟩ := Bk.c7 hcb7
          have hpl := HPL.out false
          cases m
          · have hmf := HMT.out
            by_cases hlat : 0 < s.later
            · have hw1 : IntKind.i64.wrap (s.later - 1) = s.later - 1 := IntWalk.i64_in _ (by omega)
              have fb2 := Bk.frozen hbk7 2
              have HN := Lib.hid (call_later HST hmf hlat)
              have hc4 := hR1.cellAt (i * 5 + 4) (by have := HM.out.hi; omega)
              have hthere := owns_there hR1 (i * 5 + 4) 1 (by have := HM.out.hi; omega)
              have hfz := (hthere 0 (by omega)).2
              obtain ⟨y, hy⟩ := Option.isSome_iff_exists.1 (hthere 0 (by omega)).1
              rw [Nat.add_zero] at hfz hy
              have HP4 := Lib.hid hpl
              clear hc4 hthere hmf hpl
              go_wp2_with fail
              go_ret
              have hg1 : Frm (fun k => k = rb) w7 (w7.setCell ⟨rb, 2, none⟩ (.int .i64 (s.later - 1))) := (Frm.refl _ w7).set1 2 _
              have hb8 := Bk.set hbk7 2 (.int .i64 (s.later - 1))
              have hR1b := owns_frm hR1 hg1 (fun k hk e => by cases hk; have h1 := HGB.out; have h2 : g = rb := e; omega)
              have hR2b := owns_frm hR2 hg1 (fun k hk e => by have := HVB.out k hk; omega)
              have hst := hR1b.stored (i * 5 + 4) (.bool true)
              have hg2 : Frm (fun k => k = g) (w7.setCell ⟨rb, 2, none⟩ (.int .i64 (s.later - 1))) ((w7.setCell ⟨rb, 2, none⟩ (.int .i64 (s.later - 1))).setCell ⟨g, i * 5 + 4, none⟩ (.bool true)) := (Frm.refl _ _).set1 _ _
              refine rdo_post HN.out (.slice (some ⟨g, 0, none⟩) ls'.length cap) v2 _ rfl _ ⟨?_, ?_, owns_frm hR2b hg2 (fun k hk e => by have := HM.out.sep g rfl; subst e; exact this hk), HM.out.sep⟩ ((hF7.then_ hg1 (fun k hk e => .inl e)).then_ hg2 (fun k hk e => HG.out k hk e)) HM.out.own (.inl rfl)
              · have := hg2.blk hb8 (by have := HGB.out; omega)
                simpa using this
              · have h1 := hst.1
                rw [← HM.out.set0 false, flat_set1 Lf.cells 5 (fun _ => rfl) (ls'.set i ⟨c.tenant, c.key, c.epoch, c.token, false⟩) i 4 (by rw [List.length_set]; exact HM.out.hi) (by omega) ⟨c.tenant, c.key, c.epoch, c.token, true⟩ (.bool true) (by rw [List.getElem_set_self]; rfl), List.set_set, HM.out.set0 true] at h1
                rw [HPL.out true] at h1 ⊢
                exact h1
            · have HN := Lib.hid (call_new HST hmf hlat)
              have fb1 := Bk.frozen hbk7 1
              clear hmf
              go_upto_region 18 with (fail)
              refine wp_region_held_drew (S := fun w9 => w9.heap[C]? = some (.cells #[.int .i64 c.tenant, .string c.key, .int .i64 c.epoch, .int .i64 c.phase, .int .i64 c.token, .string c.name, .string c.body] 28 (0, 0))) (by kernel_rfl) (hcb7) (fun hHeld => ?_)
              refine wpAnyH_take (i := 0) (v := ?_) rfl (by kernel_rfl) (by kernel_rfl) (by kernel_rfl) (fun _ _ _ h => h) (Or.inl ⟨by rfl, ?_⟩) (by assumption) ?_
              rotate_left 1
              focus (intro w hSw; (try dsimp only at hSw); obtain ⟨k0, k1, k2, k3, k4, k5, k6⟩ := Bk.c7 hSw; go_simp; (try with_reducible rfl))
              (try simp only [Act.put, List.getElem_toArray, List.getElem_cons_succ, List.getElem_cons_zero, List.setIfInBounds_toArray, List.set_cons_zero, List.set_cons_succ])
              refine wpAnyH_take (i := 1) (v := ?_) rfl (by kernel_rfl) (by kernel_rfl) (by kernel_rfl) (fun _ _ _ h => h) (Or.inl ⟨by rfl, ?_⟩) (by assumption) ?_
              rotate_left 1
              focus (intro w hSw; (try dsimp only at hSw); obtain ⟨k0, k1, k2, k3, k4, k5, k6⟩ := Bk.c7 hSw; go_simp; (try with_reducible rfl))
              (try simp only [Act.put, List.getElem_toArray, List.getElem_cons_succ, List.getElem_cons_zero, List.setIfInBounds_toArray, List.set_cons_zero, List.set_cons_succ])
              refine wpAnyH_take (i := 2) (v := ?_) rfl (by kernel_rfl) (by kernel_rfl) (by kernel_rfl) (fun _ _ _ h => h) (Or.inl ⟨by rfl, ?_⟩) (by assumption) ?_
              rotate_left 1
              focus (intro w hSw; (try dsimp only at hSw); obtain ⟨k0, k1, k2, k3, k4, k5, k6⟩ := Bk.c7 hSw; go_simp; (try with_reducible rfl))
              (try simp only [Act.put, List.getElem_toArray, List.getElem_cons_succ, List.getElem_cons_zero, List.setIfInBounds_toArray, List.set_cons_zero, List.set_cons_succ])
              refine wpAnyH_take (i := 3) (v := ?_) rfl (by kernel_rfl) (by kernel_rfl) (by kernel_rfl) (fun _ _ _ h => h) (Or.inl ⟨by rfl, ?_⟩) (by assumption) ?_
              rotate_left 1
              focus (intro w hSw; (try dsimp only at hSw); obtain ⟨k0, k1, k2, k3, k4, k5, k6⟩ := Bk.c7 hSw; go_simp; (try with_reducible rfl))
              (try simp only [Act.put, List.getElem_toArray, List.getElem_cons_succ, List.getElem_cons_zero, List.setIfInBounds_toArray, List.set_cons_zero, List.set_cons_succ])
              refine wpAnyH_take (i := 5) (v := ?_) rfl (by kernel_rfl) (by kernel_rfl) (by kernel_rfl) (fun _ _ _ h => h) (Or.inl ⟨by rfl, ?_⟩) (by assumption) ?_
              rotate_left 1
              focus (intro w hSw; (try dsimp only at hSw); obtain ⟨k0, k1, k2, k3, k4, k5, k6⟩ := Bk.c7 hSw; go_simp; (try with_reducible rfl))
              (try simp only [Act.put, List.getElem_toArray, List.getElem_cons_succ, List.getElem_cons_zero, List.setIfInBounds_toArray, List.set_cons_zero, List.set_cons_succ])
              refine wpAnyH_take (i := 6) (v := ?_) rfl (by kernel_rfl) (by kernel_rfl) (by kernel_rfl) (fun _ _ _ h => h) (Or.inl ⟨by rfl, ?_⟩) (by assumption) ?_
              rotate_left 1
              focus (intro w hSw; (try dsimp only at hSw); obtain ⟨k0, k1, k2, k3, k4, k5, k6⟩ := Bk.c7 hSw; go_simp; (try with_reducible rfl))
              (try simp only [Act.put, List.getElem_toArray, List.getElem_cons_succ, List.getElem_cons_zero, List.setIfInBounds_toArray, List.set_cons_zero, List.set_cons_succ])
              refine wpAnyH_take (i := 7) (v := ?_) rfl (by kernel_rfl) (by kernel_rfl) (by kernel_rfl) (fun _ _ _ h => h) (Or.inl ⟨by rfl, ?_⟩) (by assumption) ?_
              rotate_left 1
              focus (intro w hSw; (try dsimp only at hSw); obtain ⟨k0, k1, k2, k3, k4, k5, k6⟩ := Bk.c7 hSw; go_simp; (try with_reducible rfl))
              (try simp only [Act.put, List.getElem_toArray, List.getElem_cons_succ, List.getElem_cons_zero, List.setIfInBounds_toArray, List.set_cons_zero, List.set_cons_succ])
              refine wpAnyH_take (i := 8) (v := ?_) rfl (by kernel_rfl) (by kernel_rfl) (by kernel_rfl) (fun _ _ _ h => h) (Or.inl ⟨by rfl, ?_⟩) (by assumption) ?_
              rotate_left 1
              focus (intro w hSw; (try dsimp only at hSw); obtain ⟨k0, k1, k2, k3, k4, k5, k6⟩ := Bk.c7 hSw; go_simp; (try with_reducible rfl))
              (try simp only [Act.put, List.getElem_toArray, List.getElem_cons_succ, List.getElem_cons_zero, List.setIfInBounds_toArray, List.set_cons_zero, List.set_cons_succ])
              refine wpAnyH_take (i := 9) (v := ?_) rfl (by kernel_rfl) (by kernel_rfl) (by kernel_rfl) (fun _ _ _ h => h) (Or.inl ⟨by rfl, ?_⟩) (by assumption) ?_
              rotate_left 1
              focus (intro w hSw; (try dsimp only at hSw); obtain ⟨k0, k1, k2, k3, k4, k5, k6⟩ := Bk.c7 hSw; go_simp; (try with_reducible rfl))
              (try simp only [Act.put, List.getElem_toArray, List.getElem_cons_succ, List.getElem_cons_zero, List.setIfInBounds_toArray, List.set_cons_zero, List.set_cons_succ])
              refine wpAnyH_take (i := 10) (v := ?_) rfl (by kernel_rfl) (by kernel_rfl) (by kernel_rfl) (fun _ _ _ h => h) (Or.inl ⟨by rfl, ?_⟩) (by assumption) ?_
              rotate_left 1
              focus (intro w hSw; (try dsimp only at hSw); obtain ⟨k0, k1, k2, k3, k4, k5, k6⟩ := Bk.c7 hSw; go_simp; (try with_reducible rfl))
              (try simp only [Act.put, List.getElem_toArray, List.getElem_cons_succ, List.getElem_cons_zero, List.setIfInBounds_toArray, List.set_cons_zero, List.set_cons_succ])
              refine wpAnyH_take (i := 11) (v := ?_) rfl (by kernel_rfl) (by kernel_rfl) (by kernel_rfl) (fun _ _ _ h => h) (Or.inl ⟨by rfl, ?_⟩) (by assumption) ?_
              rotate_left 1
              focus (intro w hSw; (try dsimp only at hSw); obtain ⟨k0, k1, k2, k3, k4, k5, k6⟩ := Bk.c7 hSw; go_simp; (try with_reducible rfl))
              (try simp only [Act.put, List.getElem_toArray, List.getElem_cons_succ, List.getElem_cons_zero, List.setIfInBounds_toArray, List.set_cons_zero, List.set_cons_succ])
              refine wpAnyH_take (i := 12) (v := ?_) rfl (by kernel_rfl) (by kernel_rfl) (by kernel_rfl) (fun _ _ _ h => h) (Or.inl ⟨by rfl, ?_⟩) (by assumption) ?_
              rotate_left 1
              focus (intro w hSw; (try dsimp only at hSw); obtain ⟨k0, k1, k2, k3, k4, k5, k6⟩ := Bk.c7 hSw; go_simp; (try with_reducible rfl))
              (try simp only [Act.put, List.getElem_toArray, List.getElem_cons_succ, List.getElem_cons_zero, List.setIfInBounds_toArray, List.set_cons_zero, List.set_cons_succ])
              refine wpAnyH_take (i := 13) (v := ?_) rfl (by kernel_rfl) (by kernel_rfl) (by kernel_rfl) (fun _ _ _ h => h) (Or.inl ⟨by rfl, ?_⟩) (by assumption) ?_
              rotate_left 1
              focus (intro w hSw; (try dsimp only at hSw); obtain ⟨k0, k1, k2, k3, k4, k5, k6⟩ := Bk.c7 hSw; go_simp; (try with_reducible rfl))
              (try simp only [Act.put, List.getElem_toArray, List.getElem_cons_succ, List.getElem_cons_zero, List.setIfInBounds_toArray, List.set_cons_zero, List.set_cons_succ])
              refine wpAnyH_take (i := 14) (v := ?_) rfl (by kernel_rfl) (by kernel_rfl) (by kernel_rfl) (fun _ _ _ h => h) (Or.inl ⟨by rfl, ?_⟩) (by assumption) ?_
              rotate_left 1
              focus (intro w hSw; (try dsimp only at hSw); obtain ⟨k0, k1, k2, k3, k4, k5, k6⟩ := Bk.c7 hSw; go_simp; (try with_reducible rfl))
              (try simp only [Act.put, List.getElem_toArray, List.getElem_cons_succ, List.getElem_cons_zero, List.setIfInBounds_toArray, List.set_cons_zero, List.set_cons_succ])
              refine wpAnyH_take (i := 15) (v := ?_) rfl (by kernel_rfl) (by kernel_rfl) (by kernel_rfl) (fun _ _ _ h => h) (Or.inl ⟨by rfl, ?_⟩) (by assumption) ?_
              rotate_left 1
              focus (intro w hSw; (try dsimp only at hSw); obtain ⟨k0, k1, k2, k3, k4, k5, k6⟩ := Bk.c7 hSw; go_simp; (try with_reducible rfl))
              (try simp only [Act.put, List.getElem_toArray, List.getElem_cons_succ, List.getElem_cons_zero, List.setIfInBounds_toArray, List.set_cons_zero, List.set_cons_succ])
              refine wpAnyH_take (i := 16) (v := ?_) rfl (by kernel_rfl) (by kernel_rfl) (by kernel_rfl) (fun _ _ _ h => h) (Or.inl ⟨by rfl, ?_⟩) (by assumption) ?_
              rotate_left 1
              focus (intro w hSw; (try dsimp only at hSw); obtain ⟨k0, k1, k2, k3, k4, k5, k6⟩ := Bk.c7 hSw; go_simp; (try with_reducible rfl))
              (try simp only [Act.put, List.getElem_toArray, List.getElem_cons_succ, List.getElem_cons_zero, List.setIfInBounds_toArray, List.set_cons_zero, List.set_cons_succ])
              refine wpAnyH_take (i := 17) (v := ?_) rfl (by kernel_rfl) (by kernel_rfl) (by kernel_rfl) (fun _ _ _ h => h) (Or.inl ⟨by rfl, ?_⟩) (by assumption) ?_
              rotate_left 1
              focus (intro w hSw; (try dsimp only at hSw); obtain ⟨k0, k1, k2, k3, k4, k5, k6⟩ := Bk.c7 hSw; go_simp; (try with_reducible rfl))
              (try simp only [Act.put, List.getElem_toArray, List.getElem_cons_succ, List.getElem_cons_zero, List.setIfInBounds_toArray, List.set_cons_zero, List.set_cons_succ])
              refine wpAnyH_take (i := 18) (v := ?_) rfl (by kernel_rfl) (by kernel_rfl) (by kernel_rfl) (fun _ _ _ h => h) (Or.inl ⟨by rfl, ?_⟩) (by assumption) ?_
              rotate_left 1
              focus (intro w hSw; (try dsimp only at hSw); obtain ⟨k0, k1, k2, k3, k4, k5, k6⟩ := Bk.c7 hSw; go_simp; (try with_reducible rfl))
              (try simp only [Act.put, List.getElem_toArray, List.getElem_cons_succ, List.getElem_cons_zero, List.setIfInBounds_toArray, List.set_cons_zero, List.set_cons_succ])
              refine wpAnyH_take (i := 19) (v := ?_) rfl (by kernel_rfl) (by kernel_rfl) (by kernel_rfl) (fun _ _ _ h => h) (Or.inl ⟨by rfl, ?_⟩) (by assumption) ?_
              rotate_left 1
              focus (intro w hSw; (try dsimp only at hSw); obtain ⟨k0, k1, k2, k3, k4, k5, k6⟩ := Bk.c7 hSw; go_simp; (try with_reducible rfl))
              (try simp only [Act.put, List.getElem_toArray, List.getElem_cons_succ, List.getElem_cons_zero, List.setIfInBounds_toArray, List.set_cons_zero, List.set_cons_succ])
              refine wpAnyH_ready (rs := [4, 20]) (by kernel_rfl) (by simp) ?_
              refine AllReadyH.cons rfl (fun K hK => ?_) (AllReadyH.cons rfl (fun K hK => ?_) AllReadyH.nil)
              · rw [if_pos (by rfl)]
                go_simp
                refine hK.out _ _ (by assumption) (fun hHeld => ?_)
                clear hK K
                (try simp only [Act.put, List.getElem_toArray, List.getElem_cons_succ, List.getElem_cons_zero, List.setIfInBounds_toArray, List.set_cons_zero, List.set_cons_succ])
                refine wpAnyH_ready (rs := [20]) (by kernel_rfl) (by simp) ?_
                refine AllReadyH.cons rfl (fun K hK => ?_) AllReadyH.nil
                rw [if_pos (by rfl)]
                go_simp
                refine hK.out _ _ (Bk.alloc (by assumption) _) (fun hHeld => ?_)
                clear hK K
                (try simp only [Act.put, List.getElem_toArray, List.getElem_cons_succ, List.getElem_cons_zero, List.setIfInBounds_toArray, List.set_cons_zero, List.set_cons_succ])
                refine wpAnyH_ready (rs := [21]) (by kernel_rfl) (by simp) ?_
                refine AllReadyH.cons rfl (fun K hK => ?_) AllReadyH.nil
                refine step_append_sl rfl (.tmp 115) (.tmp 131) rfl Eef (rb + 1) v2 (.slice (some ⟨w7.heap.size, 0, none⟩) 1 1) s.ef.length 1 (s.ef.flatMap Ca.cells) (Ca.cells c) rfl rfl (World.ownsRow.alloc hR2 _) (Sl.new w7 #[.int .i64 c.tenant, .string c.key, .int .i64 c.epoch, .int .i64 c.phase, .int .i64 c.token, .string c.name, .string c.body] 37 1 (by decide) (by omega)) rfl (ca_one c) (by unfold maxLen; omega) (by omega) (by have := HBW.out; simp; omega) ?_
                intro u2 w8 hown8 hf8 hat8
                obtain ⟨g8, cap8, rfl⟩ := owns_form hown8
                have hf8' : Frm (fun k => v2.ownBlock = some k) w7 w8 := Frm.then_ (by first | exact ((Frm.refl _ w7).alloc (.cells #[.int .i64 c.tenant, .string c.key, .int .i64 c.epoch, .int .i64 c.phase, .int .i64 c.token, .string c.name, .string c.body] 37)).drew | exact ((Frm.refl _ w7).drew.alloc (.cells #[.int .i64 c.tenant, .string c.key, .int .i64 c.epoch, .int .i64 c.phase, .int .i64 c.token, .string c.name, .string c.body] 37))) hf8 (fun k hk e => e)
                have hbk8 := hf8'.blk hbk7 (fun e => by have := HVB.out _ e; omega)
                have hcb8 := hf8'.blk hcb7 (fun e => HM.out.hCn.2.1 e)
                refine hK.out _ _ hcb8 (fun hHeld => ?_)
                clear hK K
                (try simp only [Act.put, List.getElem_toArray, List.getElem_cons_succ, List.getElem_cons_zero, List.setIfInBounds_toArray, List.set_cons_zero, List.set_cons_succ])
                refine wpAnyH_take (i := 22) (v := ?_) rfl (by kernel_rfl) (by kernel_rfl) (by kernel_rfl) (fun _ _ _ h => h) (Or.inl ⟨by rfl, ?_⟩) (by assumption) ?_
                rotate_left 1
                focus (intro w hSw; (try dsimp only at hSw); go_simp; (try with_reducible rfl))
                (try simp only [Act.put, List.getElem_toArray, List.getElem_cons_succ, List.getElem_cons_zero, List.setIfInBounds_toArray, List.set_cons_zero, List.set_cons_succ])
                refine wpAnyH_take (i := 23) (v := ?_) rfl (by kernel_rfl) (by kernel_rfl) (by kernel_rfl) (fun _ _ _ h => h) (Or.inl ⟨by rfl, ?_⟩) (by assumption) ?_
                rotate_left 1
                focus (intro w hSw; (try dsimp only at hSw); go_simp; (try with_reducible rfl))
                (try simp only [Act.put, List.getElem_toArray, List.getElem_cons_succ, List.getElem_cons_zero, List.setIfInBounds_toArray, List.set_cons_zero, List.set_cons_succ])
                refine wpAnyH_ready (rs := [24]) (by kernel_rfl) (by simp) ?_
                refine AllReadyH.cons rfl (fun K hK => ?_) AllReadyH.nil
                have f29 := Bk.frozen hbk8 1
                have c29 := (Bk.c3 hbk8).2.1
                rw [if_pos (by rfl)]
                go_simp
                refine hK.out _ _ (Bk.far (by assumption) (p := ⟨rb, 1, none⟩) (show C ≠ rb from HM.out.hCn.2.2) _) (fun hHeld => ?_)
                clear hK K
                (try simp only [Act.put, List.getElem_toArray, List.getElem_cons_succ, List.getElem_cons_zero, List.setIfInBounds_toArray, List.set_cons_zero, List.set_cons_succ])
                refine wpAnyH_done (by kernel_rfl) ?_ _
                go_wp2_with fail
                go_ret
                have hg1 : Frm (fun k => k = rb) w8 (w8.setCell ⟨rb, 1, none⟩ (.slice (some ⟨g8, 0, none⟩) (s.ef.length + 1) cap8)) := (Frm.refl _ w8).set1 1 _
                have hb9 := Bk.set hbk8 1 (.slice (some ⟨g8, 0, none⟩) (s.ef.length + 1) cap8)
                have hR1b := owns_frm (owns_frm hR1 hf8' (fun k hk e => HM.out.sep k hk e)) hg1 (fun k hk e => by cases hk; have h1 := HGB.out; have h2 : g = rb := e; omega)
                have hu2 : ∀ k, (Value.slice (some ⟨g8, 0, none⟩) (s.ef.length + 1) cap8).ownBlock = some k → k ≠ rb ∧ (v2.ownBlock = some k ∨ w7.heap.size ≤ k) := fun k hk => by
                  rcases hat8 with e | e
                  · rw [e] at hk; exact ⟨by have := HVB.out k hk; omega, .inl hk⟩
                  · rw [e] at hk; cases hk; have := HBW.out; constructor
                    · simp; omega
                    · right; simp
                refine rdo_post HN.out (.slice (some ⟨g, 0, none⟩) ls'.length cap) (.slice (some ⟨g8, 0, none⟩) (s.ef.length + 1) cap8) _ rfl _ ⟨?_, ?_, ?_, ?_⟩ ((hF7.then_ hf8' (fun k hk e => .inr (.inr e))).then_ hg1 (fun k hk e => .inl e)) HM.out.own ?_
                · simpa using hb9
                · rw [HPL.out false] at hR1b ⊢
                  exact hR1b
                · have h1 := owns_frm hown8 hg1 (fun k hk e => (hu2 k hk).1 e)
                  simpa [List.flatMap_append] using h1
                · intro k hk he
                  rcases (hu2 k he).2 with e | e
                  · exact HM.out.sep k hk e
                  · cases hk; have h1 := HGW.out; have h2 : w7.heap.size ≤ g := e; omega
                · rcases hat8 with e | e
                  · exact .inl e
                  · refine .inr (fun k hk => ?_)
                    rw [e] at hk; cases hk
                    have := hF7.size
                    simp; omega
              · rw [if_pos (by rfl)]
                go_simp
                refine hK.out _ _ (Bk.alloc (by assumption) _) (fun hHeld => ?_)
                clear hK K
                (try simp only [Act.put, List.getElem_toArray, List.getElem_cons_succ, List.getElem_cons_zero, List.setIfInBounds_toArray, List.set_cons_zero, List.set_cons_succ])
                refine wpAnyH_ready (rs := [4]) (by kernel_rfl) (by simp) ?_
                refine AllReadyH.cons rfl (fun K hK => ?_) AllReadyH.nil
                have a29 := (Bk.c3 (show (w7.alloc (.cells #[.int .i64 c.tenant, .string c.key, .int .i64 c.epoch, .int .i64 c.phase, .int .i64 c.token, .string c.name, .string c.body] 37)).drew.heap[rb]? = _ from Bk.alloc (show w7.drew.heap[rb]? = _ from hbk7) (.cells #[.int .i64 c.tenant, .string c.key, .int .i64 c.epoch, .int .i64 c.phase, .int .i64 c.token, .string c.name, .string c.body] 37))).2.1
                rw [if_pos (by rfl)]
                go_simp
                refine hK.out _ _ (by assumption) (fun hHeld => ?_)
                clear hK K
                (try simp only [Act.put, List.getElem_toArray, List.getElem_cons_succ, List.getElem_cons_zero, List.setIfInBounds_toArray, List.set_cons_zero, List.set_cons_succ])
                refine wpAnyH_ready (rs := [21]) (by kernel_rfl) (by simp) ?_
                refine AllReadyH.cons rfl (fun K hK => ?_) AllReadyH.nil
                refine step_append_sl rfl (.tmp 115) (.tmp 131) rfl Eef (rb + 1) v2 (.slice (some ⟨w7.heap.size, 0, none⟩) 1 1) s.ef.length 1 (s.ef.flatMap Ca.cells) (Ca.cells c) rfl rfl (World.ownsRow.alloc hR2 _) (Sl.new w7 #[.int .i64 c.tenant, .string c.key, .int .i64 c.epoch, .int .i64 c.phase, .int .i64 c.token, .string c.name, .string c.body] 37 1 (by decide) (by omega)) rfl (ca_one c) (by unfold maxLen; omega) (by omega) (by have := HBW.out; simp; omega) ?_
                intro u2 w8 hown8 hf8 hat8
                obtain ⟨g8, cap8, rfl⟩ := owns_form hown8
                have hf8' : Frm (fun k => v2.ownBlock = some k) w7 w8 := Frm.then_ (by first | exact ((Frm.refl _ w7).alloc (.cells #[.int .i64 c.tenant, .string c.key, .int .i64 c.epoch, .int .i64 c.phase, .int .i64 c.token, .string c.name, .string c.body] 37)).drew | exact ((Frm.refl _ w7).drew.alloc (.cells #[.int .i64 c.tenant, .string c.key, .int .i64 c.epoch, .int .i64 c.phase, .int .i64 c.token, .string c.name, .string c.body] 37))) hf8 (fun k hk e => e)
                have hbk8 := hf8'.blk hbk7 (fun e => by have := HVB.out _ e; omega)
                have hcb8 := hf8'.blk hcb7 (fun e => HM.out.hCn.2.1 e)
                refine hK.out _ _ hcb8 (fun hHeld => ?_)
                clear hK K
                (try simp only [Act.put, List.getElem_toArray, List.getElem_cons_succ, List.getElem_cons_zero, List.setIfInBounds_toArray, List.set_cons_zero, List.set_cons_succ])
                refine wpAnyH_take (i := 22) (v := ?_) rfl (by kernel_rfl) (by kernel_rfl) (by kernel_rfl) (fun _ _ _ h => h) (Or.inl ⟨by rfl, ?_⟩) (by assumption) ?_
                rotate_left 1
                focus (intro w hSw; (try dsimp only at hSw); go_simp; (try with_reducible rfl))
                (try simp only [Act.put, List.getElem_toArray, List.getElem_cons_succ, List.getElem_cons_zero, List.setIfInBounds_toArray, List.set_cons_zero, List.set_cons_succ])
                refine wpAnyH_take (i := 23) (v := ?_) rfl (by kernel_rfl) (by kernel_rfl) (by kernel_rfl) (fun _ _ _ h => h) (Or.inl ⟨by rfl, ?_⟩) (by assumption) ?_
                rotate_left 1
                focus (intro w hSw; (try dsimp only at hSw); go_simp; (try with_reducible rfl))
                (try simp only [Act.put, List.getElem_toArray, List.getElem_cons_succ, List.getElem_cons_zero, List.setIfInBounds_toArray, List.set_cons_zero, List.set_cons_succ])
                refine wpAnyH_ready (rs := [24]) (by kernel_rfl) (by simp) ?_
                refine AllReadyH.cons rfl (fun K hK => ?_) AllReadyH.nil
                have f29 := Bk.frozen hbk8 1
                have c29 := (Bk.c3 hbk8).2.1
                rw [if_pos (by rfl)]
                go_simp
                refine hK.out _ _ (Bk.far (by assumption) (p := ⟨rb, 1, none⟩) (show C ≠ rb from HM.out.hCn.2.2) _) (fun hHeld => ?_)
                clear hK K
                (try simp only [Act.put, List.getElem_toArray, List.getElem_cons_succ, List.getElem_cons_zero, List.setIfInBounds_toArray, List.set_cons_zero, List.set_cons_succ])
                refine wpAnyH_done (by kernel_rfl) ?_ _
                go_wp2_with fail
                go_ret
                have hg1 : Frm (fun k => k = rb) w8 (w8.setCell ⟨rb, 1, none⟩ (.slice (some ⟨g8, 0, none⟩) (s.ef.length + 1) cap8)) := (Frm.refl _ w8).set1 1 _
                have hb9 := Bk.set hbk8 1 (.slice (some ⟨g8, 0, none⟩) (s.ef.length + 1) cap8)
                have hR1b := owns_frm (owns_frm hR1 hf8' (fun k hk e => HM.out.sep k hk e)) hg1 (fun k hk e => by cases hk; have h1 := HGB.out; have h2 : g = rb := e; omega)
                have hu2 : ∀ k, (Value.slice (some ⟨g8, 0, none⟩) (s.ef.length + 1) cap8).ownBlock = some k → k ≠ rb ∧ (v2.ownBlock = some k ∨ w7.heap.size ≤ k) := fun k hk => by
                  rcases hat8 with e | e
                  · rw [e] at hk; exact ⟨by have := HVB.out k hk; omega, .inl hk⟩
                  · rw [e] at hk; cases hk; have := HBW.out; constructor
                    · simp; omega
                    · right; simp
                refine rdo_post HN.out (.slice (some ⟨g, 0, none⟩) ls'.length cap) (.slice (some ⟨g8, 0, none⟩) (s.ef.length + 1) cap8) _ rfl _ ⟨?_, ?_, ?_, ?_⟩ ((hF7.then_ hf8' (fun k hk e => .inr (.inr e))).then_ hg1 (fun k hk e => .inl e)) HM.out.own ?_
                · simpa using hb9
                · rw [HPL.out false] at hR1b ⊢
                  exact hR1b
                · have h1 := owns_frm hown8 hg1 (fun k hk e => (hu2 k hk).1 e)
                  simpa [List.flatMap_append] using h1
                · intro k hk he
                  rcases (hu2 k he).2 with e | e
                  · exact HM.out.sep k hk e
                  · cases hk; have h1 := HGW.out; have h2 : w7.heap.size ≤ g := e; omega
                · rcases hat8 with e | e
                  · exact .inl e
                  · refine .inr (fun k hk => ?_)
                    rw [e] at hk; cases hk
                    have := hF7.size
                    simp; omega
          · have HN := Lib.hid (call_met HST HMT.out)
            go_wp2_with fail
            go_ret
            refine rdo_post HN.out (.slice (some ⟨g, 0, none⟩) ls'.length cap) v2 _ rfl _ ⟨hbk7, ?_, hR2, HM.out.sep⟩ hF7 HM.out.own (.inl rfl)
            rw [HPL.out false] at hR1 ⊢
            exact hR1
        · go_wp2_with fail
          go_ret
          have hst : stale s c := HM.out.st.2 (.inr ⟨rfl, rfl⟩)
          have hlseq := HM.out.old hst
          refine rdo_post (call_stale hst) (.slice (some ⟨g, 0, none⟩) ls'.length cap) v2 _ rfl w4 ⟨HBK.out, ?_, HR2.out, HM.out.sep⟩ ?_ HM.out.own (.inl rfl)
          · have := HR1.out
            rw [hlseq] at this
            rw [hlseq]
            exact this
          · exact HF4.out
      · have d1 : decide (c.token < tok) = false := decide_eq_false (by omega)
        have d1' : ¬ c.token < tok := by omega
        have d2 : (tok == c.token) = false := beq_eq_false_iff_ne.2 (by omega)
        have d3 : decide (tok < c.token) = true := decide_eq_true hgt
        have HST : ¬ stale s c := fun h => by
          rcases HM.out.st.1 h with h | ⟨h, _⟩ <;> omega
        have hCne : ¬ C = X := by have := HCX.out; omega
        have hCne' : ¬ X = C := by have := HCX.out; omega
        go_upto_region 11 with (fail)
        have hX5 := Bk.set (Bk.set hX4 4 (.bool false)) 3 (.int .i64 c.token)
        have hXf : Frm (fun k => k = X) w4 ((w4.setCell ⟨X, 4, none⟩ (.bool false)).setCell ⟨X, 3, none⟩ (.int .i64 c.token)) := ((Frm.refl _ w4).set1 4 _).set1 3 _
        simp at hX5
        have hs5 := hXf.size
        have hcb5 := hXf.blk HCB.out (by have := HCX.out; omega)
        have hbk5 := hXf.blk HBK.out (by have := HBX.out; omega)
        have hR1 := owns_frm HR1.out hXf (fun k hk e => by cases hk; have h1 := HGX.out; have h2 : g = X := e; omega)
        have hR2 := owns_frm HR2.out hXf (fun k hk e => by have := HVX.out k hk; omega)
        have hF5 := HF4.out.then_ hXf (fun k hk e => by have := HWX.out; omega)
        clear hXf
        generalize ((w4.setCell ⟨X, 4, none⟩ (.bool false)).setCell ⟨X, 3, none⟩ (.int .i64 c.token)) = w5 at *
        obtain ⟨x0, x1, x2, x3, x4⟩ := Bk.c5 hX5
        obtain ⟨b0, b1, b2⟩ := Bk.c3 hbk5
        refine st_tail 7 (by kernel_rfl) (by kernel_rfl) ?_
        simp only [List.take_succ_cons, List.take_zero, List.drop_succ_cons, List.drop_zero]
        repeat still_step
        refine wpStill_nil ?_
        go_wp2_with (refine wpList_store_row (f := Lf.cells) (l := ls') rfl 51 (.tmp 78) (.tmp 77) rfl ⟨c.tenant, c.key, c.epoch, c.token, false⟩ (owns_drew hR1) (fun _ => rfl) rfl HM.out.hi rfl rfl iL rfl rfl ?_; intro w6 hR6 hf6)
        have hf6' : Frm (fun k => k = g) w5 w6 := ((Frm.refl (fun k => k = g) w5).drew).trans hf6
        rw [HM.out.set0 false] at hR6
        have hcb6 := hf6'.blk hcb5 (by have := HCG.out; omega)
        have hbk6 := hf6'.blk hbk5 (by have := HGB.out; omega)
        have hR2 := owns_frm hR2 hf6' (fun k hk e => by have := HM.out.sep g rfl; subst e; exact this hk)
        have hF6 := hF5.then_ hf6' (fun k hk e => HG.out k hk e)
        have hs6 := hf6'.size
        clear hX5 hcb5 hbk5 hR1 hF5 hf6 hf6' x0 x1 x2 x3 x4 b0 b1 b2 c0 c4
        obtain ⟨b0, b1, b2⟩ := Bk.c3 hbk6
        obtain ⟨c0, c1, c2, c3, c4, c5, c6⟩ := Bk.c7 hcb6
        go_upto_region 12 with (fail)
        refine st_tail 12 (by kernel_rfl) (by kernel_rfl) ?_
        simp only [List.take_succ_cons, List.take_zero, List.drop_succ_cons, List.drop_zero]
        repeat still_step
        refine wpStill_nil ?_
        go_wp2_with fail
        obtain ⟨m, hm⟩ : ∃ m, met s.ef c.tenant c.key c.epoch c.phase = m := ⟨_, rfl⟩
        have HMT := Lib.hid hm
        refine (met_is (Sl.of_own (owns_drew hR2)) hm).mono ?_
        rintro e w7 ⟨rfl, hf7⟩
        have hf7' : Frm0 w6 w7 := ((Frm.refl (fun _ => False) w6).drew).trans hf7
        have hcb7 := hf7'.blk hcb6 (fun h => h)
        have hbk7 := hf7'.blk hbk6 (fun h => h)
        have hR1 := owns_frm0 hR6 hf7'
        have hR2 := owns_frm0 hR2 hf7'
        have hF7 := hF6.then0 hf7'
        have hs7 := hf7'.size
        have HBW := Lib.hid (Bk.lt hbk7)
        have HGW := Lib.hid (hR1.lt g rfl).2
        clear hm hcb6 hbk6 hR6 hF6 hf7 hf7' b0 b1 b2 c0 c1 c2 c3 c4 c5 c6
        obtain ⟨b0, b1, b2⟩ := Bk.c3 hbk7
        obtain ⟨c0, c1, c2, c3, c4, c5, c6⟩ := Bk.c7 hcb7
        have hpl := HPL.out false
        cases m
        · have hmf := HMT.out
          by_cases hlat : 0 < s.later
          · have hw1 : IntKind.i64.wrap (s.later - 1) = s.later - 1 := IntWalk.i64_in _ (by omega)
            have fb2 := Bk.frozen hbk7 2
            have HN := Lib.hid (call_later HST hmf hlat)
            have hc4 := hR1.cellAt (i * 5 + 4) (by have := HM.out.hi; omega)
            have hthere := owns_there hR1 (i * 5 + 4) 1 (by have := HM.out.hi; omega)
            have hfz := (hthere 0 (by omega)).2
            obtain ⟨y, hy⟩ := Option.isSome_iff_exists.1 (hthere 0 (by omega)).1
            rw [Nat.add_zero] at hfz hy
            have HP4 := Lib.hid hpl
            clear hc4 hthere hmf hpl
            go_wp2_with fail
            go_ret
            have hg1 : Frm (fun k => k = rb) w7 (w7.setCell ⟨rb, 2, none⟩ (.int .i64 (s.later - 1))) := (Frm.refl _ w7).set1 2 _
            have hb8 := Bk.set hbk7 2 (.int .i64 (s.later - 1))
            have hR1b := owns_frm hR1 hg1 (fun k hk e => by cases hk; have h1 := HGB.out; have h2 : g = rb := e; omega)
            have hR2b := owns_frm hR2 hg1 (fun k hk e => by have := HVB.out k hk; omega)
            have hst := hR1b.stored (i * 5 + 4) (.bool true)
            have hg2 : Frm (fun k => k = g) (w7.setCell ⟨rb, 2, none⟩ (.int .i64 (s.later - 1))) ((w7.setCell ⟨rb, 2, none⟩ (.int .i64 (s.later - 1))).setCell ⟨g, i * 5 + 4, none⟩ (.bool true)) := (Frm.refl _ _).set1 _ _
            refine rdo_post HN.out (.slice (some ⟨g, 0, none⟩) ls'.length cap) v2 _ rfl _ ⟨?_, ?_, owns_frm hR2b hg2 (fun k hk e => by have := HM.out.sep g rfl; subst e; exact this hk), HM.out.sep⟩ ((hF7.then_ hg1 (fun k hk e => .inl e)).then_ hg2 (fun k hk e => HG.out k hk e)) HM.out.own (.inl rfl)
            · have := hg2.blk hb8 (by have := HGB.out; omega)
              simpa using this
            · have h1 := hst.1
              rw [← HM.out.set0 false, flat_set1 Lf.cells 5 (fun _ => rfl) (ls'.set i ⟨c.tenant, c.key, c.epoch, c.token, false⟩) i 4 (by rw [List.length_set]; exact HM.out.hi) (by omega) ⟨c.tenant, c.key, c.epoch, c.token, true⟩ (.bool true) (by rw [List.getElem_set_self]; rfl), List.set_set, HM.out.set0 true] at h1
              rw [HPL.out true] at h1 ⊢
              exact h1
          · have HN := Lib.hid (call_new HST hmf hlat)
            have fb1 := Bk.frozen hbk7 1
            clear hmf
            go_upto_region 18 with (fail)
            refine wp_region_held_drew (S := fun w9 => w9.heap[C]? = some (.cells #[.int .i64 c.tenant, .string c.key, .int .i64 c.epoch, .int .i64 c.phase, .int .i64 c.token, .string c.name, .string c.body] 28 (0, 0))) (by kernel_rfl) (hcb7) (fun hHeld => ?_)
            refine wpAnyH_take (i := 0) (v := ?_) rfl (by kernel_rfl) (by kernel_rfl) (by kernel_rfl) (fun _ _ _ h => h) (Or.inl ⟨by rfl, ?_⟩) (by assumption) ?_
            rotate_left 1
            focus (intro w hSw; (try dsimp only at hSw); obtain ⟨k0, k1, k2, k3, k4, k5, k6⟩ := Bk.c7 hSw; go_simp; (try with_reducible rfl))
            (try simp only [Act.put, List.getElem_toArray, List.getElem_cons_succ, List.getElem_cons_zero, List.setIfInBounds_toArray, List.set_cons_zero, List.set_cons_succ])
            refine wpAnyH_take (i := 1) (v := ?_) rfl (by kernel_rfl) (by kernel_rfl) (by kernel_rfl) (fun _ _ _ h => h) (Or.inl ⟨by rfl, ?_⟩) (by assumption) ?_
            rotate_left 1
            focus (intro w hSw; (try dsimp only at hSw); obtain ⟨k0, k1, k2, k3, k4, k5, k6⟩ := Bk.c7 hSw; go_simp; (try with_reducible rfl))
            (try simp only [Act.put, List.getElem_toArray, List.getElem_cons_succ, List.getElem_cons_zero, List.setIfInBounds_toArray, List.set_cons_zero, List.set_cons_succ])
            refine wpAnyH_take (i := 2) (v := ?_) rfl (by kernel_rfl) (by kernel_rfl) (by kernel_rfl) (fun _ _ _ h => h) (Or.inl ⟨by rfl, ?_⟩) (by assumption) ?_
            rotate_left 1
            focus (intro w hSw; (try dsimp only at hSw); obtain ⟨k0, k1, k2, k3, k4, k5, k6⟩ := Bk.c7 hSw; go_simp; (try with_reducible rfl))
            (try simp only [Act.put, List.getElem_toArray, List.getElem_cons_succ, List.getElem_cons_zero, List.setIfInBounds_toArray, List.set_cons_zero, List.set_cons_succ])
            refine wpAnyH_take (i := 3) (v := ?_) rfl (by kernel_rfl) (by kernel_rfl) (by kernel_rfl) (fun _ _ _ h => h) (Or.inl ⟨by rfl, ?_⟩) (by assumption) ?_
            rotate_left 1
            focus (intro w hSw; (try dsimp only at hSw); obtain ⟨k0, k1, k2, k3, k4, k5, k6⟩ := Bk.c7 hSw; go_simp; (try with_reducible rfl))
            (try simp only [Act.put, List.getElem_toArray, List.getElem_cons_succ, List.getElem_cons_zero, List.setIfInBounds_toArray, List.set_cons_zero, List.set_cons_succ])
            refine wpAnyH_take (i := 5) (v := ?_) rfl (by kernel_rfl) (by kernel_rfl) (by kernel_rfl) (fun _ _ _ h => h) (Or.inl ⟨by rfl, ?_⟩) (by assumption) ?_
            rotate_left 1
            focus (intro w hSw; (try dsimp only at hSw); obtain ⟨k0, k1, k2, k3, k4, k5, k6⟩ := Bk.c7 hSw; go_simp; (try with_reducible rfl))
            (try simp only [Act.put, List.getElem_toArray, List.getElem_cons_succ, List.getElem_cons_zero, List.setIfInBounds_toArray, List.set_cons_zero, List.set_cons_succ])
            refine wpAnyH_take (i := 6) (v := ?_) rfl (by kernel_rfl) (by kernel_rfl) (by kernel_rfl) (fun _ _ _ h => h) (Or.inl ⟨by rfl, ?_⟩) (by assumption) ?_
            rotate_left 1
            focus (intro w hSw; (try dsimp only at hSw); obtain ⟨k0, k1, k2, k3, k4, k5, k6⟩ := Bk.c7 hSw; go_simp; (try with_reducible rfl))
            (try simp only [Act.put, List.getElem_toArray, List.getElem_cons_succ, List.getElem_cons_zero, List.setIfInBounds_toArray, List.set_cons_zero, List.set_cons_succ])
            refine wpAnyH_take (i := 7) (v := ?_) rfl (by kernel_rfl) (by kernel_rfl) (by kernel_rfl) (fun _ _ _ h => h) (Or.inl ⟨by rfl, ?_⟩) (by assumption) ?_
            rotate_left 1
            focus (intro w hSw; (try dsimp only at hSw); obtain ⟨k0, k1, k2, k3, k4, k5, k6⟩ := Bk.c7 hSw; go_simp; (try with_reducible rfl))
            (try simp only [Act.put, List.getElem_toArray, List.getElem_cons_succ, List.getElem_cons_zero, List.setIfInBounds_toArray, List.set_cons_zero, List.set_cons_succ])
            refine wpAnyH_take (i := 8) (v := ?_) rfl (by kernel_rfl) (by kernel_rfl) (by kernel_rfl) (fun _ _ _ h => h) (Or.inl ⟨by rfl, ?_⟩) (by assumption) ?_
            rotate_left 1
            focus (intro w hSw; (try dsimp only at hSw); obtain ⟨k0, k1, k2, k3, k4, k5, k6⟩ := Bk.c7 hSw; go_simp; (try with_reducible rfl))
            (try simp only [Act.put, List.getElem_toArray, List.getElem_cons_succ, List.getElem_cons_zero, List.setIfInBounds_toArray, List.set_cons_zero, List.set_cons_succ])
            refine wpAnyH_take (i := 9) (v := ?_) rfl (by kernel_rfl) (by kernel_rfl) (by kernel_rfl) (fun _ _ _ h => h) (Or.inl ⟨by rfl, ?_⟩) (by assumption) ?_
            rotate_left 1
            focus (intro w hSw; (try dsimp only at hSw); obtain ⟨k0, k1, k2, k3, k4, k5, k6⟩ := Bk.c7 hSw; go_simp; (try with_reducible rfl))
            (try simp only [Act.put, List.getElem_toArray, List.getElem_cons_succ, List.getElem_cons_zero, List.setIfInBounds_toArray, List.set_cons_zero, List.set_cons_succ])
            refine wpAnyH_take (i := 10) (v := ?_) rfl (by kernel_rfl) (by kernel_rfl) (by kernel_rfl) (fun _ _ _ h => h) (Or.inl ⟨by rfl, ?_⟩) (by assumption) ?_
            rotate_left 1
            focus (intro w hSw; (try dsimp only at hSw); obtain ⟨k0, k1, k2, k3, k4, k5, k6⟩ := Bk.c7 hSw; go_simp; (try with_reducible rfl))
            (try simp only [Act.put, List.getElem_toArray, List.getElem_cons_succ, List.getElem_cons_zero, List.setIfInBounds_toArray, List.set_cons_zero, List.set_cons_succ])
            refine wpAnyH_take (i := 11) (v := ?_) rfl (by kernel_rfl) (by kernel_rfl) (by kernel_rfl) (fun _ _ _ h => h) (Or.inl ⟨by rfl, ?_⟩) (by assumption) ?_
            rotate_left 1
            focus (intro w hSw; (try dsimp only at hSw); obtain ⟨k0, k1, k2, k3, k4, k5, k6⟩ := Bk.c7 hSw; go_simp; (try with_reducible rfl))
            (try simp only [Act.put, List.getElem_toArray, List.getElem_cons_succ, List.getElem_cons_zero, List.setIfInBounds_toArray, List.set_cons_zero, List.set_cons_succ])
            refine wpAnyH_take (i := 12) (v := ?_) rfl (by kernel_rfl) (by kernel_rfl) (by kernel_rfl) (fun _ _ _ h => h) (Or.inl ⟨by rfl, ?_⟩) (by assumption) ?_
            rotate_left 1
            focus (intro w hSw; (try dsimp only at hSw); obtain ⟨k0, k1, k2, k3, k4, k5, k6⟩ := Bk.c7 hSw; go_simp; (try with_reducible rfl))
            (try simp only [Act.put, List.getElem_toArray, List.getElem_cons_succ, List.getElem_cons_zero, List.setIfInBounds_toArray, List.set_cons_zero, List.set_cons_succ])
            refine wpAnyH_take (i := 13) (v := ?_) rfl (by kernel_rfl) (by kernel_rfl) (by kernel_rfl) (fun _ _ _ h => h) (Or.inl ⟨by rfl, ?_⟩) (by assumption) ?_
            rotate_left 1
            focus (intro w hSw; (try dsimp only at hSw); obtain ⟨k0, k1, k2, k3, k4, k5, k6⟩ := Bk.c7 hSw; go_simp; (try with_reducible rfl))
            (try simp only [Act.put, List.getElem_toArray, List.getElem_cons_succ, List.getElem_cons_zero, List.setIfInBounds_toArray, List.set_cons_zero, List.set_cons_succ])
            refine wpAnyH_take (i := 14) (v := ?_) rfl (by kernel_rfl) (by kernel_rfl) (by kernel_rfl) (fun _ _ _ h => h) (Or.inl ⟨by rfl, ?_⟩) (by assumption) ?_
            rotate_left 1
            focus (intro w hSw; (try dsimp only at hSw); obtain ⟨k0, k1, k2, k3, k4, k5, k6⟩ := Bk.c7 hSw; go_simp; (try with_reducible rfl))
            (try simp only [Act.put, List.getElem_toArray, List.getElem_cons_succ, List.getElem_cons_zero, List.setIfInBounds_toArray, List.set_cons_zero, List.set_cons_succ])
            refine wpAnyH_take (i := 15) (v := ?_) rfl (by kernel_rfl) (by kernel_rfl) (by kernel_rfl) (fun _ _ _ h => h) (Or.inl ⟨by rfl, ?_⟩) (by assumption) ?_
            rotate_left 1
            focus (intro w hSw; (try dsimp only at hSw); obtain ⟨k0, k1, k2, k3, k4, k5, k6⟩ := Bk.c7 hSw; go_simp; (try with_reducible rfl))
            (try simp only [Act.put, List.getElem_toArray, List.getElem_cons_succ, List.getElem_cons_zero, List.setIfInBounds_toArray, List.set_cons_zero, List.set_cons_succ])
            refine wpAnyH_take (i := 16) (v := ?_) rfl (by kernel_rfl) (by kernel_rfl) (by kernel_rfl) (fun _ _ _ h => h) (Or.inl ⟨by rfl, ?_⟩) (by assumption) ?_
            rotate_left 1
            focus (intro w hSw; (try dsimp only at hSw); obtain ⟨k0, k1, k2, k3, k4, k5, k6⟩ := Bk.c7 hSw; go_simp; (try with_reducible rfl))
            (try simp only [Act.put, List.getElem_toArray, List.getElem_cons_succ, List.getElem_cons_zero, List.setIfInBounds_toArray, List.set_cons_zero, List.set_cons_succ])
            refine wpAnyH_take (i := 17) (v := ?_) rfl (by kernel_rfl) (by kernel_rfl) (by kernel_rfl) (fun _ _ _ h => h) (Or.inl ⟨by rfl, ?_⟩) (by assumption) ?_
            rotate_left 1
            focus (intro w hSw; (try dsimp only at hSw); obtain ⟨k0, k1, k2, k3, k4, k5, k6⟩ := Bk.c7 hSw; go_simp; (try with_reducible rfl))
            (try simp only [Act.put, List.getElem_toArray, List.getElem_cons_succ, List.getElem_cons_zero, List.setIfInBounds_toArray, List.set_cons_zero, List.set_cons_succ])
            refine wpAnyH_take (i := 18) (v := ?_) rfl (by kernel_rfl) (by kernel_rfl) (by kernel_rfl) (fun _ _ _ h => h) (Or.inl ⟨by rfl, ?_⟩) (by assumption) ?_
            rotate_left 1
            focus (intro w hSw; (try dsimp only at hSw); obtain ⟨k0, k1, k2, k3, k4, k5, k6⟩ := Bk.c7 hSw; go_simp; (try with_reducible rfl))
            (try simp only [Act.put, List.getElem_toArray, List.getElem_cons_succ, List.getElem_cons_zero, List.setIfInBounds_toArray, List.set_cons_zero, List.set_cons_succ])
            refine wpAnyH_take (i := 19) (v := ?_) rfl (by kernel_rfl) (by kernel_rfl) (by kernel_rfl) (fun _ _ _ h => h) (Or.inl ⟨by rfl, ?_⟩) (by assumption) ?_
            rotate_left 1
            focus (intro w hSw; (try dsimp only at hSw); obtain ⟨k0, k1, k2, k3, k4, k5, k6⟩ := Bk.c7 hSw; go_simp; (try with_reducible rfl))
            (try simp only [Act.put, List.getElem_toArray, List.getElem_cons_succ, List.getElem_cons_zero, List.setIfInBounds_toArray, List.set_cons_zero, List.set_cons_succ])
            refine wpAnyH_ready (rs := [4, 20]) (by kernel_rfl) (by simp) ?_
            refine AllReadyH.cons rfl (fun K hK => ?_) (AllReadyH.cons rfl (fun K hK => ?_) AllReadyH.nil)
            · rw [if_pos (by rfl)]
              go_simp
              refine hK.out _ _ (by assumption) (fun hHeld => ?_)
              clear hK K
              (try simp only [Act.put, List.getElem_toArray, List.getElem_cons_succ, List.getElem_cons_zero, List.setIfInBounds_toArray, List.set_cons_zero, List.set_cons_succ])
              refine wpAnyH_ready (rs := [20]) (by kernel_rfl) (by simp) ?_
              refine AllReadyH.cons rfl (fun K hK => ?_) AllReadyH.nil
              rw [if_pos (by rfl)]
              go_simp
              refine hK.out _ _ (Bk.alloc (by assumption) _) (fun hHeld => ?_)
              clear hK K
              (try simp only [Act.put, List.getElem_toArray, List.getElem_cons_succ, List.getElem_cons_zero, List.setIfInBounds_toArray, List.set_cons_zero, List.set_cons_succ])
              refine wpAnyH_ready (rs := [21]) (by kernel_rfl) (by simp) ?_
              refine AllReadyH.cons rfl (fun K hK => ?_) AllReadyH.nil
              refine step_append_sl rfl (.tmp 115) (.tmp 131) rfl Eef (rb + 1) v2 (.slice (some ⟨w7.heap.size, 0, none⟩) 1 1) s.ef.length 1 (s.ef.flatMap Ca.cells) (Ca.cells c) rfl rfl (World.ownsRow.alloc hR2 _) (Sl.new w7 #[.int .i64 c.tenant, .string c.key, .int .i64 c.epoch, .int .i64 c.phase, .int .i64 c.token, .string c.name, .string c.body] 37 1 (by decide) (by omega)) rfl (ca_one c) (by unfold maxLen; omega) (by omega) (by have := HBW.out; simp; omega) ?_
              intro u2 w8 hown8 hf8 hat8
              obtain ⟨g8, cap8, rfl⟩ := owns_form hown8
              have hf8' : Frm (fun k => v2.ownBlock = some k) w7 w8 := Frm.then_ (by first | exact ((Frm.refl _ w7).alloc (.cells #[.int .i64 c.tenant, .string c.key, .int .i64 c.epoch, .int .i64 c.phase, .int .i64 c.token, .string c.name, .string c.body] 37)).drew | exact ((Frm.refl _ w7).drew.alloc (.cells #[.int .i64 c.tenant, .string c.key, .int .i64 c.epoch, .int .i64 c.phase, .int .i64 c.token, .string c.name, .string c.body] 37))) hf8 (fun k hk e => e)
              have hbk8 := hf8'.blk hbk7 (fun e => by have := HVB.out _ e; omega)
              have hcb8 := hf8'.blk hcb7 (fun e => HM.out.hCn.2.1 e)
              refine hK.out _ _ hcb8 (fun hHeld => ?_)
              clear hK K
              (try simp only [Act.put, List.getElem_toArray, List.getElem_cons_succ, List.getElem_cons_zero, List.setIfInBounds_toArray, List.set_cons_zero, List.set_cons_succ])
              refine wpAnyH_take (i := 22) (v := ?_) rfl (by kernel_rfl) (by kernel_rfl) (by kernel_rfl) (fun _ _ _ h => h) (Or.inl ⟨by rfl, ?_⟩) (by assumption) ?_
              rotate_left 1
              focus (intro w hSw; (try dsimp only at hSw); go_simp; (try with_reducible rfl))
              (try simp only [Act.put, List.getElem_toArray, List.getElem_cons_succ, List.getElem_cons_zero, List.setIfInBounds_toArray, List.set_cons_zero, List.set_cons_succ])
              refine wpAnyH_take (i := 23) (v := ?_) rfl (by kernel_rfl) (by kernel_rfl) (by kernel_rfl) (fun _ _ _ h => h) (Or.inl ⟨by rfl, ?_⟩) (by assumption) ?_
              rotate_left 1
              focus (intro w hSw; (try dsimp only at hSw); go_simp; (try with_reducible rfl))
              (try simp only [Act.put, List.getElem_toArray, List.getElem_cons_succ, List.getElem_cons_zero, List.setIfInBounds_toArray, List.set_cons_zero, List.set_cons_succ])
              refine wpAnyH_ready (rs := [24]) (by kernel_rfl) (by simp) ?_
              refine AllReadyH.cons rfl (fun K hK => ?_) AllReadyH.nil
              have f29 := Bk.frozen hbk8 1
              have c29 := (Bk.c3 hbk8).2.1
              rw [if_pos (by rfl)]
              go_simp
              refine hK.out _ _ (Bk.far (by assumption) (p := ⟨rb, 1, none⟩) (show C ≠ rb from HM.out.hCn.2.2) _) (fun hHeld => ?_)
              clear hK K
              (try simp only [Act.put, List.getElem_toArray, List.getElem_cons_succ, List.getElem_cons_zero, List.setIfInBounds_toArray, List.set_cons_zero, List.set_cons_succ])
              refine wpAnyH_done (by kernel_rfl) ?_ _
              go_wp2_with fail
              go_ret
              have hg1 : Frm (fun k => k = rb) w8 (w8.setCell ⟨rb, 1, none⟩ (.slice (some ⟨g8, 0, none⟩) (s.ef.length + 1) cap8)) := (Frm.refl _ w8).set1 1 _
              have hb9 := Bk.set hbk8 1 (.slice (some ⟨g8, 0, none⟩) (s.ef.length + 1) cap8)
              have hR1b := owns_frm (owns_frm hR1 hf8' (fun k hk e => HM.out.sep k hk e)) hg1 (fun k hk e => by cases hk; have h1 := HGB.out; have h2 : g = rb := e; omega)
              have hu2 : ∀ k, (Value.slice (some ⟨g8, 0, none⟩) (s.ef.length + 1) cap8).ownBlock = some k → k ≠ rb ∧ (v2.ownBlock = some k ∨ w7.heap.size ≤ k) := fun k hk => by
                rcases hat8 with e | e
                · rw [e] at hk; exact ⟨by have := HVB.out k hk; omega, .inl hk⟩
                · rw [e] at hk; cases hk; have := HBW.out; constructor
                  · simp; omega
                  · right; simp
              refine rdo_post HN.out (.slice (some ⟨g, 0, none⟩) ls'.length cap) (.slice (some ⟨g8, 0, none⟩) (s.ef.length + 1) cap8) _ rfl _ ⟨?_, ?_, ?_, ?_⟩ ((hF7.then_ hf8' (fun k hk e => .inr (.inr e))).then_ hg1 (fun k hk e => .inl e)) HM.out.own ?_
              · simpa using hb9
              · rw [HPL.out false] at hR1b ⊢
                exact hR1b
              · have h1 := owns_frm hown8 hg1 (fun k hk e => (hu2 k hk).1 e)
                simpa [List.flatMap_append] using h1
              · intro k hk he
                rcases (hu2 k he).2 with e | e
                · exact HM.out.sep k hk e
                · cases hk; have h1 := HGW.out; have h2 : w7.heap.size ≤ g := e; omega
              · rcases hat8 with e | e
                · exact .inl e
                · refine .inr (fun k hk => ?_)
                  rw [e] at hk; cases hk
                  have := hF7.size
                  simp; omega
            · rw [if_pos (by rfl)]
              go_simp
              refine hK.out _ _ (Bk.alloc (by assumption) _) (fun hHeld => ?_)
              clear hK K
              (try simp only [Act.put, List.getElem_toArray, List.getElem_cons_succ, List.getElem_cons_zero, List.setIfInBounds_toArray, List.set_cons_zero, List.set_cons_succ])
              refine wpAnyH_ready (rs := [4]) (by kernel_rfl) (by simp) ?_
              refine AllReadyH.cons rfl (fun K hK => ?_) AllReadyH.nil
              have a29 := (Bk.c3 (show (w7.alloc (.cells #[.int .i64 c.tenant, .string c.key, .int .i64 c.epoch, .int .i64 c.phase, .int .i64 c.token, .string c.name, .string c.body] 37)).drew.heap[rb]? = _ from Bk.alloc (show w7.drew.heap[rb]? = _ from hbk7) (.cells #[.int .i64 c.tenant, .string c.key, .int .i64 c.epoch, .int .i64 c.phase, .int .i64 c.token, .string c.name, .string c.body] 37))).2.1
              rw [if_pos (by rfl)]
              go_simp
              refine hK.out _ _ (by assumption) (fun hHeld => ?_)
              clear hK K
              (try simp only [Act.put, List.getElem_toArray, List.getElem_cons_succ, List.getElem_cons_zero, List.setIfInBounds_toArray, List.set_cons_zero, List.set_cons_succ])
              refine wpAnyH_ready (rs := [21]) (by kernel_rfl) (by simp) ?_
              refine AllReadyH.cons rfl (fun K hK => ?_) AllReadyH.nil
              refine step_append_sl rfl (.tmp 115) (.tmp 131) rfl Eef (rb + 1) v2 (.slice (some ⟨w7.heap.size, 0, none⟩) 1 1) s.ef.length 1 (s.ef.flatMap Ca.cells) (Ca.cells c) rfl rfl (World.ownsRow.alloc hR2 _) (Sl.new w7 #[.int .i64 c.tenant, .string c.key, .int .i64 c.epoch, .int .i64 c.phase, .int .i64 c.token, .string c.name, .string c.body] 37 1 (by decide) (by omega)) rfl (ca_one c) (by unfold maxLen; omega) (by omega) (by have := HBW.out; simp; omega) ?_
              intro u2 w8 hown8 hf8 hat8
              obtain ⟨g8, cap8, rfl⟩ := owns_form hown8
              have hf8' : Frm (fun k => v2.ownBlock = some k) w7 w8 := Frm.then_ (by first | exact ((Frm.refl _ w7).alloc (.cells #[.int .i64 c.tenant, .string c.key, .int .i64 c.epoch, .int .i64 c.phase, .int .i64 c.token, .string c.name, .string c.body] 37)).drew | exact ((Frm.refl _ w7).drew.alloc (.cells #[.int .i64 c.tenant, .string c.key, .int .i64 c.epoch, .int .i64 c.phase, .int .i64 c.token, .string c.name, .string c.body] 37))) hf8 (fun k hk e => e)
              have hbk8 := hf8'.blk hbk7 (fun e => by have := HVB.out _ e; omega)
              have hcb8 := hf8'.blk hcb7 (fun e => HM.out.hCn.2.1 e)
              refine hK.out _ _ hcb8 (fun hHeld => ?_)
              clear hK K
              (try simp only [Act.put, List.getElem_toArray, List.getElem_cons_succ, List.getElem_cons_zero, List.setIfInBounds_toArray, List.set_cons_zero, List.set_cons_succ])
              refine wpAnyH_take (i := 22) (v := ?_) rfl (by kernel_rfl) (by kernel_rfl) (by kernel_rfl) (fun _ _ _ h => h) (Or.inl ⟨by rfl, ?_⟩) (by assumption) ?_
              rotate_left 1
              focus (intro w hSw; (try dsimp only at hSw); go_simp; (try with_reducible rfl))
              (try simp only [Act.put, List.getElem_toArray, List.getElem_cons_succ, List.getElem_cons_zero, List.setIfInBounds_toArray, List.set_cons_zero, List.set_cons_succ])
              refine wpAnyH_take (i := 23) (v := ?_) rfl (by kernel_rfl) (by kernel_rfl) (by kernel_rfl) (fun _ _ _ h => h) (Or.inl ⟨by rfl, ?_⟩) (by assumption) ?_
              rotate_left 1
              focus (intro w hSw; (try dsimp only at hSw); go_simp; (try with_reducible rfl))
              (try simp only [Act.put, List.getElem_toArray, List.getElem_cons_succ, List.getElem_cons_zero, List.setIfInBounds_toArray, List.set_cons_zero, List.set_cons_succ])
              refine wpAnyH_ready (rs := [24]) (by kernel_rfl) (by simp) ?_
              refine AllReadyH.cons rfl (fun K hK => ?_) AllReadyH.nil
              have f29 := Bk.frozen hbk8 1
              have c29 := (Bk.c3 hbk8).2.1
              rw [if_pos (by rfl)]
              go_simp
              refine hK.out _ _ (Bk.far (by assumption) (p := ⟨rb, 1, none⟩) (show C ≠ rb from HM.out.hCn.2.2) _) (fun hHeld => ?_)
              clear hK K
              (try simp only [Act.put, List.getElem_toArray, List.getElem_cons_succ, List.getElem_cons_zero, List.setIfInBounds_toArray, List.set_cons_zero, List.set_cons_succ])
              refine wpAnyH_done (by kernel_rfl) ?_ _
              go_wp2_with fail
              go_ret
              have hg1 : Frm (fun k => k = rb) w8 (w8.setCell ⟨rb, 1, none⟩ (.slice (some ⟨g8, 0, none⟩) (s.ef.length + 1) cap8)) := (Frm.refl _ w8).set1 1 _
              have hb9 := Bk.set hbk8 1 (.slice (some ⟨g8, 0, none⟩) (s.ef.length + 1) cap8)
              have hR1b := owns_frm (owns_frm hR1 hf8' (fun k hk e => HM.out.sep k hk e)) hg1 (fun k hk e => by cases hk; have h1 := HGB.out; have h2 : g = rb := e; omega)
              have hu2 : ∀ k, (Value.slice (some ⟨g8, 0, none⟩) (s.ef.length + 1) cap8).ownBlock = some k → k ≠ rb ∧ (v2.ownBlock = some k ∨ w7.heap.size ≤ k) := fun k hk => by
                rcases hat8 with e | e
                · rw [e] at hk; exact ⟨by have := HVB.out k hk; omega, .inl hk⟩
                · rw [e] at hk; cases hk; have := HBW.out; constructor
                  · simp; omega
                  · right; simp
              refine rdo_post HN.out (.slice (some ⟨g, 0, none⟩) ls'.length cap) (.slice (some ⟨g8, 0, none⟩) (s.ef.length + 1) cap8) _ rfl _ ⟨?_, ?_, ?_, ?_⟩ ((hF7.then_ hf8' (fun k hk e => .inr (.inr e))).then_ hg1 (fun k hk e => .inl e)) HM.out.own ?_
              · simpa using hb9
              · rw [HPL.out false] at hR1b ⊢
                exact hR1b
              · have h1 := owns_frm hown8 hg1 (fun k hk e => (hu2 k hk).1 e)
                simpa [List.flatMap_append] using h1
              · intro k hk he
                rcases (hu2 k he).2 with e | e
                · exact HM.out.sep k hk e
                · cases hk; have h1 := HGW.out; have h2 : w7.heap.size ≤ g := e; omega
              · rcases hat8 with e | e
                · exact .inl e
                · refine .inr (fun k hk => ?_)
                  rw [e] at hk; cases hk
                  have := hF7.size
                  simp; omega
        · have HN := Lib.hid (call_met HST HMT.out)
          go_wp2_with fail
          go_ret
          refine rdo_post HN.out (.slice (some ⟨g, 0, none⟩) ls'.length cap) v2 _ rfl _ ⟨hbk7, ?_, hR2, HM.out.sep⟩ hF7 HM.out.own (.inl rfl)
          rw [HPL.out false] at hR1 ⊢
          exact hR1
end Bk25
end Go.Proofs.Yteokiiolchpndaa
