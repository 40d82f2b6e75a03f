/- Backend: the contract of code. -/
import Derived.Test.YteokiiolchpndaaBkb
import Derived.Test.YteokiiolchpndaaStp
import Derived.Deep.RegionWith
import Derived.Deep.RegionHeld3
namespace Go.Proofs.Yteokiiolchpndaa
open Go.RowKit Go.ChangeShapes Go.WideShapes Go.Maps
set_option linter.unusedVariables false
set_option linter.unusedSimpArgs false
set_option maxRecDepth 100000
namespace Bk25
theorem Eef : Elt Try.prog 26 37 (.agg #[.int .i64 0, .string ⟨#[]⟩, .int .i64 0, .int .i64 0, .int .i64 0, .string ⟨#[]⟩, .string ⟨#[]⟩]) 7 80 := Elt.mk' Try.underlying26 (by kernel_rfl) rfl (by omega)
theorem ca_one (c : Ca) : ∀ u ∈ c.cells, u.oneCell' = true := by
  intro u hu
  unfold Ca.cells at hu
  simp only [List.mem_cons, List.not_mem_nil, or_false] at hu
  rcases hu with rfl | rfl | rfl | rfl | rfl | rfl | rfl <;> rfl
theorem frm_two {w2 w : World} {g : Nat} (h : Frm0 w2 w) (hg : w2.heap.size ≤ g) (u u' : Value) : Frm0 w2 ((w.setCell ⟨g, 0, none⟩ u).setCell ⟨g, 1, none⟩ u') :=
  (h.setCell ⟨g, 0, none⟩ (fun h => absurd h (Nat.not_lt.2 hg)) u).setCell ⟨g, 1, none⟩ (fun h => absurd h (Nat.not_lt.2 hg)) u'
set_option maxHeartbeats 4000000 in
theorem code_any {w : World} {b N : Nat} {v : Value} {s : St} (c : Ca) (h : At w b v s N) (hN : N + 2 < 1000000) (hef : s.ef.length ≤ 1000) (hk : Kok c.tenant c.key c.epoch) (hp : (Lit.int .i64 c.phase).wf = true) :
    Calls Try.prog 51 #[.pointer (some ⟨b + 2, 0, none⟩), .agg #[.int .i64 c.tenant, .string c.key, .int .i64 c.epoch, .int .i64 c.phase, .int .i64 c.token, .string c.name, .string c.body]] w fun e w' =>
      e = .returned (.int .i64 (call s c).2) ∧ ∃ v', At w' b v' (call s c).1 (N + 2) ∧ Frm (fp b v) w w' ∧ (v'.ownBlock = v.ownBlock ∨ ∀ k, v'.ownBlock = some k → w.heap.size ≤ k) := by
  have HA := Lib.hid h
  have HK := Lib.hid hk
  have HP := Lib.hid hp
  have hfd : (find s.ls c.tenant c.key c.epoch = none ∧ decide (stale s c) = false) ∨ ∃ tok sp, find s.ls c.tenant c.key c.epoch = some (tok, sp) ∧ decide (stale s c) = (decide (c.token < tok) || (decide (tok = c.token) && sp)) := by
    cases hf : find s.ls c.tenant c.key c.epoch with
    | none => exact .inl ⟨rfl, decide_eq_false (by unfold stale; rw [hf]; exact id)⟩
    | some y =>
      refine .inr ⟨y.1, y.2, rfl, ?_⟩
      have : stale s c ↔ (c.token < y.1 ∨ (y.1 = c.token ∧ y.2 = true)) := by unfold stale; rw [hf]
      by_cases h1 : c.token < y.1 <;> by_cases h2 : y.1 = c.token <;> cases h3 : y.2 <;> simp [this, h1, h2, h3]
  have hlb := h.lt
  have HOWN := Lib.hid h.own
  have hF2 := ((Frm.refl (fun _ => False) w).alloc (.cells #[.int .i64 c.tenant, .string c.key, .int .i64 c.epoch, .int .i64 c.phase, .int .i64 c.token, .string c.name, .string c.body] 28)).alloc (.cells #[.int .i64 c.tenant, .string c.key, .int .i64 c.epoch] 111)
  have hb1 := Bk.alloc (Bk.new w (.cells #[.int .i64 c.tenant, .string c.key, .int .i64 c.epoch, .int .i64 c.phase, .int .i64 c.token, .string c.name, .string c.body] 28)) (.cells #[.int .i64 c.tenant, .string c.key, .int .i64 c.epoch] 111)
  have hb2 := new_second w (.cells #[.int .i64 c.tenant, .string c.key, .int .i64 c.epoch, .int .i64 c.phase, .int .i64 c.token, .string c.name, .string c.body] 28) (.cells #[.int .i64 c.tenant, .string c.key, .int .i64 c.epoch] 111)
  have hF2s := hF2.size
  have HA2 := Lib.hid (h.frm0 hF2)
  clear h hk hp
  go_enter Try.func51, Try.ntmps51
  go_wp2_with fail
  generalize (w.alloc (.cells #[.int .i64 c.tenant, .string c.key, .int .i64 c.epoch, .int .i64 c.phase, .int .i64 c.token, .string c.name, .string c.body] 28)).alloc (.cells #[.int .i64 c.tenant, .string c.key, .int .i64 c.epoch] 111) = w2 at *
  have HC0 := Lib.hid (fun w9 (h : Frm0 w2 w9) => h.cell (Bk.c4 HA2.out.blk).1 (fun h => h))
  have HL0 := Lib.hid (fun w9 (h : Frm0 w2 w9) => h.cell (Bk.c3 hb2).1 (fun h => h))
  have HL1 := Lib.hid (fun w9 (h : Frm0 w2 w9) => h.cell (Bk.c3 hb2).2.1 (fun h => h))
  have HL2 := Lib.hid (fun w9 (h : Frm0 w2 w9) => h.cell (Bk.c3 hb2).2.2 (fun h => h))
  have HCT := Lib.hid (fun w9 (h : Frm0 w2 w9) => h.cell (Bk.c7 hb1).2.2.2.2.1 (fun h => h))
  go_cut [6, 7] from 18 to 26 (fun t6 t7 wc => ∃ (g : Nat) (tok : Int) (sp ok : Bool), t6 = .pointer (some ⟨g, 0, none⟩) ∧ t7 = .bool ok ∧ wc.cell? ⟨g, 0, none⟩ = some (.int .i64 tok) ∧ wc.cell? ⟨g, 1, none⟩ = some (.bool sp) ∧ decide (stale s c) = (ok && (decide (c.token < tok) || (decide (tok = c.token) && sp))) ∧ Frm0 w2 wc)
  case first =>
    have hkind : ∃ tok sp ok, (∀ w9, Frm0 w2 w9 → (Instr.lookup 101 (.map (some b)) (.agg #[.int .i64 c.tenant, .string c.key, .int .i64 c.epoch]) true).run Try.prog w9 = .ok (.tuple #[.agg #[.int .i64 tok, .bool sp], .bool ok]) w9) ∧ decide (stale s c) = (ok && (decide (c.token < tok) || (decide (tok = c.token) && sp))) := by
      rcases hfd with ⟨hf, hst⟩ | ⟨tok, sp, hf, hst⟩
      · exact ⟨0, false, false, fun w9 h => (HA2.out.frm0 h).lm.no HK.out hf, hst⟩
      · exact ⟨tok, sp, true, fun w9 h => (HA2.out.frm0 h).lm.yes HK.out hf, by rw [hst, Bool.true_and]⟩
    obtain ⟨tok, sp, ok, hlk, hst⟩ := hkind
    have HLK := Lib.hid hlk
    have HST := Lib.hid hst
    clear hlk hst
    refine wp_region_held_drew (S := fun w9 => Frm0 w2 w9) (by kernel_rfl) ((Frm.refl _ _).drew) (fun hHeld => ?_)
    skip
    refine wpAnyH_take (i := 0) (v := ?_) rfl (by kernel_rfl) (by kernel_rfl) (by kernel_rfl) (fun _ _ _ h => h) (Or.inl ⟨by rfl, ?_⟩) (by assumption) ?_
    rotate_left 1
    focus (intro w hSw; (try dsimp only at hSw); have q0 := HC0.out _ hSw; have q2 := HL0.out _ hSw; have q3 := HL1.out _ hSw; have q4 := HL2.out _ hSw; have q5 := HLK.out _ hSw; go_simp; (try with_reducible rfl))
    (try simp only [Act.put, List.getElem_toArray, List.getElem_cons_succ, List.getElem_cons_zero, List.setIfInBounds_toArray, List.set_cons_zero, List.set_cons_succ])
    refine wpAnyH_take (i := 1) (v := ?_) rfl (by kernel_rfl) (by kernel_rfl) (by kernel_rfl) (fun _ _ _ h => h) (Or.inl ⟨by rfl, ?_⟩) (by assumption) ?_
    rotate_left 1
    focus (intro w hSw; (try dsimp only at hSw); have q0 := HC0.out _ hSw; have q2 := HL0.out _ hSw; have q3 := HL1.out _ hSw; have q4 := HL2.out _ hSw; have q5 := HLK.out _ hSw; go_simp; (try with_reducible rfl))
    (try simp only [Act.put, List.getElem_toArray, List.getElem_cons_succ, List.getElem_cons_zero, List.setIfInBounds_toArray, List.set_cons_zero, List.set_cons_succ])
    refine wpAnyH_take (i := 2) (v := ?_) rfl (by kernel_rfl) (by kernel_rfl) (by kernel_rfl) (fun _ _ _ h => h) (Or.inl ⟨by rfl, ?_⟩) (by assumption) ?_
    rotate_left 1
    focus (intro w hSw; (try dsimp only at hSw); have q0 := HC0.out _ hSw; have q2 := HL0.out _ hSw; have q3 := HL1.out _ hSw; have q4 := HL2.out _ hSw; have q5 := HLK.out _ hSw; go_simp; (try with_reducible rfl))
    (try simp only [Act.put, List.getElem_toArray, List.getElem_cons_succ, List.getElem_cons_zero, List.setIfInBounds_toArray, List.set_cons_zero, List.set_cons_succ])
    refine wpAnyH_take (i := 3) (v := ?_) rfl (by kernel_rfl) (by kernel_rfl) (by kernel_rfl) (fun _ _ _ h => h) (Or.inl ⟨by rfl, ?_⟩) (by assumption) ?_
    rotate_left 1
    focus (intro w hSw; (try dsimp only at hSw); have q0 := HC0.out _ hSw; have q2 := HL0.out _ hSw; have q3 := HL1.out _ hSw; have q4 := HL2.out _ hSw; have q5 := HLK.out _ hSw; go_simp; (try with_reducible rfl))
    (try simp only [Act.put, List.getElem_toArray, List.getElem_cons_succ, List.getElem_cons_zero, List.setIfInBounds_toArray, List.set_cons_zero, List.set_cons_succ])
    refine wpAnyH_take (i := 4) (v := ?_) rfl (by kernel_rfl) (by kernel_rfl) (by kernel_rfl) (fun _ _ _ h => h) (Or.inl ⟨by rfl, ?_⟩) (by assumption) ?_
    rotate_left 1
    focus (intro w hSw; (try dsimp only at hSw); have q0 := HC0.out _ hSw; have q2 := HL0.out _ hSw; have q3 := HL1.out _ hSw; have q4 := HL2.out _ hSw; have q5 := HLK.out _ hSw; go_simp; (try with_reducible rfl))
    (try simp only [Act.put, List.getElem_toArray, List.getElem_cons_succ, List.getElem_cons_zero, List.setIfInBounds_toArray, List.set_cons_zero, List.set_cons_succ])
    refine wpAnyH_take (i := 5) (v := ?_) rfl (by kernel_rfl) (by kernel_rfl) (by kernel_rfl) (fun _ _ _ h => h) (Or.inl ⟨by rfl, ?_⟩) (by assumption) ?_
    rotate_left 1
    focus (intro w hSw; (try dsimp only at hSw); have q0 := HC0.out _ hSw; have q2 := HL0.out _ hSw; have q3 := HL1.out _ hSw; have q4 := HL2.out _ hSw; have q5 := HLK.out _ hSw; go_simp; (try with_reducible rfl))
    (try simp only [Act.put, List.getElem_toArray, List.getElem_cons_succ, List.getElem_cons_zero, List.setIfInBounds_toArray, List.set_cons_zero, List.set_cons_succ])
    refine wpAnyH_take (i := 6) (v := ?_) rfl (by kernel_rfl) (by kernel_rfl) (by kernel_rfl) (fun _ _ _ h => h) (Or.inl ⟨by rfl, ?_⟩) (by assumption) ?_
    rotate_left 1
    focus (intro w hSw; (try dsimp only at hSw); have q0 := HC0.out _ hSw; have q2 := HL0.out _ hSw; have q3 := HL1.out _ hSw; have q4 := HL2.out _ hSw; have q5 := HLK.out _ hSw; go_simp; (try with_reducible rfl))
    (try simp only [Act.put, List.getElem_toArray, List.getElem_cons_succ, List.getElem_cons_zero, List.setIfInBounds_toArray, List.set_cons_zero, List.set_cons_succ])
    refine wpAnyH_take (i := 7) (v := ?_) rfl (by kernel_rfl) (by kernel_rfl) (by kernel_rfl) (fun _ _ _ h => h) (Or.inl ⟨by rfl, ?_⟩) (by assumption) ?_
    rotate_left 1
    focus (intro w hSw; (try dsimp only at hSw); have q0 := HC0.out _ hSw; have q2 := HL0.out _ hSw; have q3 := HL1.out _ hSw; have q4 := HL2.out _ hSw; have q5 := HLK.out _ hSw; go_simp; (try with_reducible rfl))
    (try simp only [Act.put, List.getElem_toArray, List.getElem_cons_succ, List.getElem_cons_zero, List.setIfInBounds_toArray, List.set_cons_zero, List.set_cons_succ])
    refine wpAnyH_take (i := 8) (v := ?_) rfl (by kernel_rfl) (by kernel_rfl) (by kernel_rfl) (fun _ _ _ h => h) (Or.inl ⟨by rfl, ?_⟩) (by assumption) ?_
    rotate_left 1
    focus (intro w hSw; (try dsimp only at hSw); have q0 := HC0.out _ hSw; have q2 := HL0.out _ hSw; have q3 := HL1.out _ hSw; have q4 := HL2.out _ hSw; have q5 := HLK.out _ hSw; go_simp; (try with_reducible rfl))
    (try simp only [Act.put, List.getElem_toArray, List.getElem_cons_succ, List.getElem_cons_zero, List.setIfInBounds_toArray, List.set_cons_zero, List.set_cons_succ])
    refine wpAnyH_ready (rs := [9]) (by kernel_rfl) (by simp) ?_
    refine AllReadyH.cons rfl (fun K hK => ?_) AllReadyH.nil
    rw [if_pos (by rfl)]
    go_simp
    refine hK.out _ _ ?_ (fun hHeld => ?_)
    focus (exact (by assumption : Frm0 w2 _).alloc _)
    clear hK K
    (try simp only [Act.put, List.getElem_toArray, List.getElem_cons_succ, List.getElem_cons_zero, List.setIfInBounds_toArray, List.set_cons_zero, List.set_cons_succ])
    refine wpAnyH_ready (rs := [10]) (by kernel_rfl) (by simp) ?_
    refine AllReadyH.cons rfl (fun K hK => ?_) AllReadyH.nil
    rw [if_pos (by rfl)]
    go_simp
    refine hK.out _ _ ?_ (fun hHeld => ?_)
    focus (exact ((Frm.refl (fun _ => False) w2).alloc _).drew)
    clear hK K
    (try simp only [Act.put, List.getElem_toArray, List.getElem_cons_succ, List.getElem_cons_zero, List.setIfInBounds_toArray, List.set_cons_zero, List.set_cons_succ])
    refine wpAnyH_take (i := 11) (v := ?_) rfl (by kernel_rfl) (by kernel_rfl) (by kernel_rfl) (fun _ _ _ h => h) (Or.inl ⟨by rfl, ?_⟩) (by assumption) ?_
    rotate_left 1
    focus (intro w hSw; (try dsimp only at hSw); go_simp; (try with_reducible rfl))
    (try simp only [Act.put, List.getElem_toArray, List.getElem_cons_succ, List.getElem_cons_zero, List.setIfInBounds_toArray, List.set_cons_zero, List.set_cons_succ])
    refine wpAnyH_done (by kernel_rfl) ?_ _
    go_wp2_with fail
    go_meet
    case rel => exact ⟨w2.heap.size, tok, sp, ok, rfl, rfl, Bk.cell (Bk.new w2 _) 0, Bk.cell (Bk.new w2 _) 1, HST.out, by assumption⟩
  case rest =>
    obtain ⟨g, tok, sp, ok, rfl, rfl, g0, g1, hst, hF3⟩ := hcut
    have e4 := HCT.out _ hF3
    go_upto_region 3 with (fail)
    go_cut [45] from 27 to 44 (fun t45 wc => t45 = .bool (decide (stale s c)) ∧ Frm0 w2 wc)
    case first =>
      cases ok
      · go_wp2_with fail
        go_meet
        case rel => exact ⟨by rw [hst]; rfl, hF3⟩
      · rw [Bool.true_and] at hst
        rcases Int.lt_trichotomy c.token tok with hlt | heq | hgt
        · have d1 : decide (c.token < tok) = true := decide_eq_true hlt
          have HST := Lib.hid hst
          clear hst
          go_wp2_with fail
          go_meet
          case rel => exact ⟨by rw [HST.out, d1]; rfl, hF3⟩
        · have d1 : decide (c.token < tok) = false := decide_eq_false (by omega)
          have d0 : ¬ c.token < tok := by omega
          have d2 : (tok == c.token) = true := beq_iff_eq.2 heq.symm
          have D3 := Lib.hid heq.symm
          have HST := Lib.hid hst
          clear hst heq
          cases sp
          · go_wp2_with fail
            go_meet
            case rel => exact ⟨by rw [HST.out]; simp [D3.out], hF3⟩
          · go_wp2_with fail
            go_meet
            case rel => exact ⟨by rw [HST.out]; simp [D3.out], hF3⟩
        · have d1 : decide (c.token < tok) = false := decide_eq_false (by omega)
          have d0 : ¬ c.token < tok := by omega
          have d2 : (tok == c.token) = false := beq_eq_false_iff_ne.2 (by omega)
          have D3 := Lib.hid (show ¬ tok = c.token by omega)
          have HST := Lib.hid hst
          clear hst
          go_wp2_with fail
          go_meet
          case rel => exact ⟨by rw [HST.out]; simp [d0, D3.out], hF3⟩
    case rest =>
      clear g0 g1 hst hF3 e4
      obtain ⟨rfl, hF3⟩ := hcut
      have hF9 := hF2.trans hF3
      have hA3 := HA2.out.frm0 hF3
      have hx1 := hF3.blk hb1 (fun h => h)
      have hx2 := hF3.blk hb2 (fun h => h)
      have hs3 := hF3.size
      clear hb1 hb2 hfd HC0 HL0 HL1 HL2 HCT hF3
      have hDw : w.heap.size + 1 < wc.heap.size := Bk.lt hx2
      generalize w.heap.size = D at *
      by_cases hstl : stale s c
      · have hdec : decide (stale s c) = true := decide_eq_true hstl
        rw [hdec]
        go_wp2_with fail
        go_ret
        have hms : call s c = (s, 3) := by unfold call; rw [if_pos hstl]
        rw [hms]
        exact ⟨rfl, v, ⟨hA3.blk, hA3.lm.more (by omega), hA3.dm.more (by omega), hA3.row, hA3.late⟩, hF9.mono (fun _ _ h => h.elim), .inl rfl⟩
      · have hdec : decide (stale s c) = false := decide_eq_false hstl
        rw [hdec]
        go_upto_region 5 with (fail)
        have hA3' := hA3.frm0 ((Frm.refl (fun _ => False) wc).drew)
        obtain ⟨a0, a1, a2, a3⟩ := Bk.c4 hA3.blk
        obtain ⟨l0, l1, l2⟩ := Bk.c3 hx2
        obtain ⟨k0, k1, k2, k3, k4, k5, k6⟩ := Bk.c7 hx1
        refine st_tail 8 (by kernel_rfl) (by kernel_rfl) ?_
        simp only [List.take_succ_cons, List.take_zero, List.drop_succ_cons, List.drop_zero]
        repeat still_step
        refine wpStill_nil ?_
        go_upto_region 6 with (refine wpList_life rfl (.tmp 49) (.tmp 50) (.tmp 53) rfl hA3'.lm (by omega) (sp := false) HK.out rfl rfl rfl ?_; intro w4 hL4 hf4)
        clear a0 a1 a2 a3 l0 l1 l2 k0 k1 k2 k3 k4 k5 k6
        have hF4 := (hF9.drew.mono (T := fp b v) (fun _ _ h => h.elim)).then_ hf4 (fun i hi e => .inl e)
        have hblk4 := hf4.blk hA3'.blk (by omega)
        have hD4 := hA3'.dm.frm hf4 (by omega)
        have hR4 := owns_frm hA3'.row hf4 (fun g hg e => by have := hA3'.own g hg; omega)
        have hx1 := hf4.blk (show wc.drew.heap[D]? = _ from hx1) (by omega)
        have hx2 := hf4.blk (show wc.drew.heap[D + 1]? = _ from hx2) (by omega)
        obtain ⟨a0, a1, a2, a3⟩ := Bk.c4 hblk4
        obtain ⟨l0, l1, l2⟩ := Bk.c3 hx2
        obtain ⟨k0, k1, k2, k3, k4, k5, k6⟩ := Bk.c7 hx1
        have hlate := hA3'.late
        have hDw4 : D + 1 < w4.heap.size := Bk.lt hx2
        clear hA3 hA3' hf4 hF9 hF2 hF2s HA2 hs3
        go_upto_region 7 with (fail)
        have hx3 := Bk.new w4 (.cells #[.int .i64 c.tenant, .string c.key, .int .i64 c.epoch, .int .i64 c.phase] 129)
        have hF5 := hF4.alloc (.cells #[.int .i64 c.tenant, .string c.key, .int .i64 c.epoch, .int .i64 c.phase] 129)
        have hfa := (Frm.refl (fun _ => False) w4).alloc (.cells #[.int .i64 c.tenant, .string c.key, .int .i64 c.epoch, .int .i64 c.phase] 129)
        have hblk := hfa.blk hblk4 (fun h => h)
        have hL := hL4.frm hfa (fun h => h)
        have hD := hD4.frm hfa (fun h => h)
        have hR := owns_frm0 hR4 hfa
        have hx1 := hfa.blk hx1 (fun h => h)
        have hx2 := hfa.blk hx2 (fun h => h)
        have hDw5 : w4.heap.size < (w4.alloc (.cells #[.int .i64 c.tenant, .string c.key, .int .i64 c.epoch, .int .i64 c.phase] 129)).heap.size := by simp
        clear a0 a1 a2 a3 l0 l1 l2 k0 k1 k2 k3 k4 k5 k6 hL4 hD4 hR4 hF4 hfa hblk4
        generalize w4.alloc (.cells #[.int .i64 c.tenant, .string c.key, .int .i64 c.epoch, .int .i64 c.phase] 129) = w5 at *
        generalize w4.heap.size = E at *
        obtain ⟨b0, hb0⟩ : ∃ b0, met s.ef c.tenant c.key c.epoch c.phase = b0 := ⟨_, rfl⟩
        obtain ⟨vv, hlk⟩ := hD.look HK.out HP.out hb0
        have hlk2 := fun n => hlk _ ((Frm.refl (fun _ => False) w5).drewN n)
        obtain ⟨a0, a1, a2, a3⟩ := Bk.c4 hblk
        obtain ⟨d0, d1, d2, d3⟩ := Bk.c4 hx3
        have HB0 := Lib.hid hb0
        clear hlk hb0
        go_quiet (fail)
        clear hlk2 d0 d1 d2 d3 a0 a1 a2 a3
        have hq := (Frm.refl (fun _ => False) w5).drewN nq
        have hF6 := hF5.drewN nq
        have hblk := hq.blk hblk (fun h => h)
        have hL := hL.frm hq (fun h => h)
        have hD := hD.frm hq (fun h => h)
        have hR := owns_frm0 hR hq
        have hx1 := hq.blk hx1 (fun h => h)
        have hx2 := hq.blk hx2 (fun h => h)
        have hx3 := hq.blk hx3 (fun h => h)
        have hDw5' : E < (w5.drewN nq).heap.size := hDw5
        obtain ⟨a0, a1, a2, a3⟩ := Bk.c4 hblk
        clear hF5 hq hDw5
        generalize w5.drewN nq = w6 at *
        cases b0
        · have hms : call s c = if 0 < s.later then (⟨putL s.ls c.tenant c.key c.epoch c.token true, s.ef, s.later - 1⟩, 2) else (⟨putL s.ls c.tenant c.key c.epoch c.token false, s.ef ++ [c], s.later⟩, 1) := by
            unfold call
            rw [if_neg hstl, if_neg (by rw [HB0.out]; decide)]
          by_cases hla : 0 < s.later
          · rw [if_pos hla] at hms
            have HMS := Lib.hid hms
            clear hms
            have f3 := Bk.frozen hblk 3
            go_upto_region 12 with (fail)
            have hq3 := (Frm.refl (fun k => k = b + 2) w6).set1 3 (.int .i64 (s.later - 1))
            have hblk7 : (w6.setCell ⟨b + 2, 3, none⟩ (.int .i64 (s.later - 1))).heap[b + 2]? = some (.cells #[.map (some b), .map (some (b + 1)), v, .int .i64 (s.later - 1)] 104 (0, 0)) := by
              have := Bk.set hblk 3 (.int .i64 (s.later - 1))
              simpa using this
            have hF7 := hF6.then_ hq3 (fun i hi e => .inr (.inr (.inl e)))
            have hL7 := hL.frm hq3 (by omega)
            have hD7 := hD.frm hq3 (by omega)
            have hR7 := owns_frm hR hq3 (fun g hg e => by have := (hR.lt g hg).1; omega)
            have hx1 := hq3.blk hx1 (by omega)
            have hx2 := hq3.blk hx2 (by omega)
            clear a0 a1 a2 a3 f3 hblk hL hD hR hF6 hq3 hx3 hDw5'
            generalize w6.setCell ⟨b + 2, 3, none⟩ (.int .i64 (s.later - 1)) = w7 at *
            have hL7d := hL7.frm ((Frm.refl (fun _ => False) w7).drew) (fun h => h)
            obtain ⟨a0, a1, a2, a3⟩ := Bk.c4 hblk7
            obtain ⟨l0, l1, l2⟩ := Bk.c3 hx2
            obtain ⟨k0, k1, k2, k3, k4, k5, k6⟩ := Bk.c7 hx1
            refine st_tail 8 (by kernel_rfl) (by kernel_rfl) ?_
            simp only [List.take_succ_cons, List.take_zero, List.drop_succ_cons, List.drop_zero]
            repeat still_step
            refine wpStill_nil ?_
            go_wp2_with (refine wpList_life rfl (.tmp 83) (.tmp 84) (.tmp 87) rfl hL7d (by omega) (sp := true) HK.out rfl rfl rfl ?_; intro w8 hL8 hf8)
            go_ret
            rw [putL_put] at hL8
            rw [HMS.out]
            exact ⟨rfl, v, ⟨hf8.blk (show w7.drew.heap[b + 2]? = _ from hblk7) (by omega), hL8, ((hD7.frm ((Frm.refl (fun _ => False) w7).drew) (fun h => h)).frm hf8 (by omega)).more (by omega), owns_frm (owns_frm0 hR7 ((Frm.refl (fun _ => False) w7).drew)) hf8 (fun g hg e => by have := (hR7.lt g hg).1; omega), by constructor <;> (simp only []; omega)⟩, hF7.drew.then_ hf8 (fun i hi e => .inl e), .inl rfl⟩
          · rw [if_neg hla] at hms
            have HMS := Lib.hid hms
            clear hms
            go_upto_region 14 with (fail)
            obtain ⟨A, cp, rfl⟩ := owns_nil_form' hR
            have hd := (Frm.refl (fun _ => False) w6).drew
            have hDd := hD.frm hd (fun h => h)
            obtain ⟨k0, k1, k2, k3, k4, k5, k6⟩ := Bk.c7 hx1
            obtain ⟨d0, d1, d2, d3⟩ := Bk.c4 hx3
            refine st_tail 10 (by kernel_rfl) (by kernel_rfl) ?_
            simp only [List.take_succ_cons, List.take_zero, List.drop_succ_cons, List.drop_zero]
            repeat still_step
            refine wpStill_nil ?_
            go_upto_region 15 with (refine wpList_deed rfl (.tmp 91) (.tmp 92) (.tmp 97) rfl hDd (by omega) HK.out HP.out (.int .i64 s.ef.length) rfl rfl rfl ?_; intro w8 hD8 hf8)
            clear a0 a1 a2 a3 k0 k1 k2 k3 k4 k5 k6 d0 d1 d2 d3
            have hnv : ∀ k, (Value.slice A s.ef.length cp).ownBlock = some k → k ≠ D ∧ k ≠ D + 1 := fun k hk => by have := (HOWN.out k hk).2; omega
            have hblk8 := hf8.blk (show w6.drew.heap[b + 2]? = _ from hblk) (by omega)
            have hL8 := (hL.frm hd (fun h => h)).frm hf8 (by omega)
            have hR8 := owns_frm (owns_frm0 hR hd) hf8 (fun g hg e => by have := (hR.lt g hg).1; omega)
            have hx1 := hf8.blk (show w6.drew.heap[D]? = _ from hx1) (by omega)
            have hF8 := hF6.drew.then_ hf8 (fun i hi e => .inr (.inl e))
            have hs8 := hF8.size
            have hb8 : b + 2 < w8.heap.size := Bk.lt hblk8
            have hD8' : D < w8.heap.size := Bk.lt hx1
            have hR8 := owns_frm0 hR8 ((Frm.refl (fun _ => False) w8).drew)
            obtain ⟨a0, a1, a2, a3⟩ := Bk.c4 hblk8
            have HX1 := Lib.hid (fun (w9 : World) (h : w9.heap[D]? = some (Obj.cells #[.int .i64 c.tenant, .string c.key, .int .i64 c.epoch, .int .i64 c.phase, .int .i64 c.token, .string c.name, .string c.body] 28 (0, 0))) => Bk.c7 h)
            clear hblk hL hD hR hF6 hx2 hx3 hd hDd hf8
            refine wp_region_held_drew (S := fun w9 => w9.heap[D]? = some (.cells #[.int .i64 c.tenant, .string c.key, .int .i64 c.epoch, .int .i64 c.phase, .int .i64 c.token, .string c.name, .string c.body] 28 (0, 0))) (by kernel_rfl) (hx1) (fun hHeld => ?_)
            skip
            refine wpAnyH_take (i := 0) (v := ?_) rfl (by kernel_rfl) (by kernel_rfl) (by kernel_rfl) (fun _ _ _ h => h) (Or.inl ⟨by rfl, ?_⟩) (by assumption) ?_
            rotate_left 1
            focus (intro w hSw; (try dsimp only at hSw); go_simp; (try with_reducible rfl))
            (try simp only [Act.put, List.getElem_toArray, List.getElem_cons_succ, List.getElem_cons_zero, List.setIfInBounds_toArray, List.set_cons_zero, List.set_cons_succ])
            refine wpAnyH_take (i := 1) (v := ?_) rfl (by kernel_rfl) (by kernel_rfl) (by kernel_rfl) (fun _ _ _ h => h) (Or.inl ⟨by rfl, ?_⟩) (by assumption) ?_
            rotate_left 1
            focus (intro w hSw; (try dsimp only at hSw); go_simp; (try with_reducible rfl))
            (try simp only [Act.put, List.getElem_toArray, List.getElem_cons_succ, List.getElem_cons_zero, List.setIfInBounds_toArray, List.set_cons_zero, List.set_cons_succ])
            refine wpAnyH_take (i := 2) (v := ?_) rfl (by kernel_rfl) (by kernel_rfl) (by kernel_rfl) (fun _ _ _ h => h) (Or.inl ⟨by rfl, ?_⟩) (by assumption) ?_
            rotate_left 1
            focus (intro w hSw; (try dsimp only at hSw); go_simp; (try with_reducible rfl))
            (try simp only [Act.put, List.getElem_toArray, List.getElem_cons_succ, List.getElem_cons_zero, List.setIfInBounds_toArray, List.set_cons_zero, List.set_cons_succ])
            refine wpAnyH_take (i := 3) (v := ?_) rfl (by kernel_rfl) (by kernel_rfl) (by kernel_rfl) (fun _ _ _ h => h) (Or.inl ⟨by rfl, ?_⟩) (by assumption) ?_
            rotate_left 1
            focus (intro w hSw; (try dsimp only at hSw); go_simp; (try with_reducible rfl))
            (try simp only [Act.put, List.getElem_toArray, List.getElem_cons_succ, List.getElem_cons_zero, List.setIfInBounds_toArray, List.set_cons_zero, List.set_cons_succ])
            refine wpAnyH_take (i := 5) (v := ?_) rfl (by kernel_rfl) (by kernel_rfl) (by kernel_rfl) (fun _ _ _ h => h) (Or.inl ⟨by rfl, ?_⟩) (by assumption) ?_
            rotate_left 1
            focus (intro w hSw; (try dsimp only at hSw); obtain ⟨k0, k1, k2, k3, k4, k5, k6⟩ := HX1.out _ hSw; go_simp; (try with_reducible rfl))
            (try simp only [Act.put, List.getElem_toArray, List.getElem_cons_succ, List.getElem_cons_zero, List.setIfInBounds_toArray, List.set_cons_zero, List.set_cons_succ])
            refine wpAnyH_ready (rs := [4, 6]) (by kernel_rfl) (by simp) ?_
            refine AllReadyH.cons rfl (fun K hK => ?_) (AllReadyH.cons rfl (fun K hK => ?_) AllReadyH.nil)
            · rw [if_pos (by rfl)]
              go_simp
              refine hK.out _ _ (by assumption) (fun hHeld => ?_)
              clear hK K
              (try simp only [Act.put, List.getElem_toArray, List.getElem_cons_succ, List.getElem_cons_zero, List.setIfInBounds_toArray, List.set_cons_zero, List.set_cons_succ])
              refine wpAnyH_ready (rs := [6]) (by kernel_rfl) (by simp) ?_
              refine AllReadyH.cons rfl (fun K hK => ?_) AllReadyH.nil
              rw [if_pos (by rfl)]
              go_simp
              refine hK.out _ _ (Bk.alloc (by assumption) _) (fun hHeld => ?_)
              clear hK K
              (try simp only [Act.put, List.getElem_toArray, List.getElem_cons_succ, List.getElem_cons_zero, List.setIfInBounds_toArray, List.set_cons_zero, List.set_cons_succ])
              refine wpAnyH_ready (rs := [7]) (by kernel_rfl) (by simp) ?_
              refine AllReadyH.cons rfl (fun K hK => ?_) AllReadyH.nil
              refine step_append_sl rfl (.tmp 102) (.tmp 104) rfl Eef (b + 3) (.slice A s.ef.length cp) (.slice (some ⟨w8.heap.size, 0, none⟩) 1 1) s.ef.length 1 (s.ef.flatMap Ca.cells) c.cells rfl rfl (hR8.alloc _) (Sl.new _ _ _ 1 (by decide) (by omega)) rfl (ca_one c) (by unfold maxLen; omega) (by omega) (by simp; omega) ?_
              intro v9 w9 hown9 hf9 hat9
              obtain ⟨g9, cap9, rfl⟩ := owns_form hown9
              have hx19 := hf9.blk (Bk.alloc (show w8.drew.heap[D]? = _ from hx1) (.cells #[.int .i64 c.tenant, .string c.key, .int .i64 c.epoch, .int .i64 c.phase, .int .i64 c.token, .string c.name, .string c.body] 37)) (fun e => by have := (hR.lt _ e).1; have := (hR.lt _ e).2; exact absurd (hnv _ e) (by simp))
              have hblk9 := hf9.blk (Bk.alloc (show w8.drew.heap[b + 2]? = _ from hblk8) (.cells #[.int .i64 c.tenant, .string c.key, .int .i64 c.epoch, .int .i64 c.phase, .int .i64 c.token, .string c.name, .string c.body] 37)) (fun e => by have := (hR.lt _ e).1; omega)
              refine hK.out _ _ (by assumption) (fun hHeld => ?_)
              clear hK K
              (try simp only [Act.put, List.getElem_toArray, List.getElem_cons_succ, List.getElem_cons_zero, List.setIfInBounds_toArray, List.set_cons_zero, List.set_cons_succ])
              refine wpAnyH_take (i := 8) (v := ?_) rfl (by kernel_rfl) (by kernel_rfl) (by kernel_rfl) (fun _ _ _ h => h) (Or.inl ⟨by rfl, ?_⟩) (by assumption) ?_
              rotate_left 1
              focus (intro w hSw; (try dsimp only at hSw); go_simp; (try with_reducible rfl))
              (try simp only [Act.put, List.getElem_toArray, List.getElem_cons_succ, List.getElem_cons_zero, List.setIfInBounds_toArray, List.set_cons_zero, List.set_cons_succ])
              refine wpAnyH_take (i := 9) (v := ?_) rfl (by kernel_rfl) (by kernel_rfl) (by kernel_rfl) (fun _ _ _ h => h) (Or.inl ⟨by rfl, ?_⟩) (by assumption) ?_
              rotate_left 1
              focus (intro w hSw; (try dsimp only at hSw); go_simp; (try with_reducible rfl))
              (try simp only [Act.put, List.getElem_toArray, List.getElem_cons_succ, List.getElem_cons_zero, List.setIfInBounds_toArray, List.set_cons_zero, List.set_cons_succ])
              refine wpAnyH_ready (rs := [10]) (by kernel_rfl) (by simp) ?_
              refine AllReadyH.cons rfl (fun K hK => ?_) AllReadyH.nil
              have f29 := Bk.frozen hblk9 2
              have c29 := (Bk.c4 hblk9).2.2.1
              rw [if_pos (by rfl)]
              go_simp
              refine hK.out _ _ (Bk.far (by assumption) (p := ⟨b + 2, 2, none⟩) (show D ≠ b + 2 by omega) _) (fun hHeld => ?_)
              clear hK K
              (try simp only [Act.put, List.getElem_toArray, List.getElem_cons_succ, List.getElem_cons_zero, List.setIfInBounds_toArray, List.set_cons_zero, List.set_cons_succ])
              refine wpAnyH_done (by kernel_rfl) ?_ _
              go_wp2_with fail
              go_ret
              have hfx : Frm (fun k => (Value.slice A s.ef.length cp).ownBlock = some k ∨ k = b + 2) w8 (w9.setCell ⟨b + 2, 2, none⟩ (.slice (some ⟨g9, 0, none⟩) (s.ef.length + 1) cap9)) :=
                (Frm.then_ (by first | exact ((Frm.refl _ w8).alloc _).drew | exact ((Frm.refl _ w8).drew.alloc _)) hf9 (fun i hi e => .inl e)).setCell ⟨b + 2, 2, none⟩ (fun _ => .inr rfl) _
              have e1 : (s.ef ++ [c]).length = s.ef.length + 1 := by simp
              have e2 : (s.ef ++ [c]).flatMap Ca.cells = s.ef.flatMap Ca.cells ++ c.cells := by simp
              have hrow := owns_frm hown9 ((Frm.refl (fun k => k = b + 2) w9).set1 2 (.slice (some ⟨g9, 0, none⟩) (s.ef.length + 1) cap9)) (fun g hg e => by have := (hown9.lt g hg).1; omega)
              rw [← e1, ← e2] at hrow
              have hbk := Bk.set hblk9 2 (.slice (some ⟨g9, 0, none⟩) (s.ef.length + 1) cap9)
              have hbl : b + 2 < D := hlb
              rw [HMS.out]
              refine ⟨rfl, _, ⟨by simpa using hbk, (hL8.frm hfx (fun e => e.elim (fun e => by have := (HOWN.out _ e).1; omega) (fun e => by omega))).more (by omega), (hD8.frm hfx (fun e => e.elim (fun e => by have := (HOWN.out _ e).1; omega) (fun e => by omega))).more (by omega), by rw [e1] at hrow ⊢; exact hrow, hlate⟩, hF8.then_ hfx (fun i hi e => e.elim (fun e => .inr (.inr (.inr e))) (fun e => .inr (.inr (.inl e)))), hat9.imp (fun e => e) (fun e k hk => ?_)⟩
              rw [e] at hk
              cases hk
              simp
              omega
            · rw [if_pos (by rfl)]
              go_simp
              refine hK.out _ _ (Bk.alloc (by assumption) _) (fun hHeld => ?_)
              clear hK K
              (try simp only [Act.put, List.getElem_toArray, List.getElem_cons_succ, List.getElem_cons_zero, List.setIfInBounds_toArray, List.set_cons_zero, List.set_cons_succ])
              refine wpAnyH_ready (rs := [4]) (by kernel_rfl) (by simp) ?_
              refine AllReadyH.cons rfl (fun K hK => ?_) AllReadyH.nil
              have a29 := (Bk.c4 (show (w8.alloc (.cells #[.int .i64 c.tenant, .string c.key, .int .i64 c.epoch, .int .i64 c.phase, .int .i64 c.token, .string c.name, .string c.body] 37)).drew.heap[b + 2]? = _ from Bk.alloc (show w8.drew.heap[b + 2]? = _ from hblk8) (.cells #[.int .i64 c.tenant, .string c.key, .int .i64 c.epoch, .int .i64 c.phase, .int .i64 c.token, .string c.name, .string c.body] 37))).2.2.1
              rw [if_pos (by rfl)]
              go_simp
              refine hK.out _ _ (by assumption) (fun hHeld => ?_)
              clear hK K
              (try simp only [Act.put, List.getElem_toArray, List.getElem_cons_succ, List.getElem_cons_zero, List.setIfInBounds_toArray, List.set_cons_zero, List.set_cons_succ])
              refine wpAnyH_ready (rs := [7]) (by kernel_rfl) (by simp) ?_
              refine AllReadyH.cons rfl (fun K hK => ?_) AllReadyH.nil
              refine step_append_sl rfl (.tmp 102) (.tmp 104) rfl Eef (b + 3) (.slice A s.ef.length cp) (.slice (some ⟨w8.heap.size, 0, none⟩) 1 1) s.ef.length 1 (s.ef.flatMap Ca.cells) c.cells rfl rfl (hR8.alloc _) (Sl.new _ _ _ 1 (by decide) (by omega)) rfl (ca_one c) (by unfold maxLen; omega) (by omega) (by simp; omega) ?_
              intro v9 w9 hown9 hf9 hat9
              obtain ⟨g9, cap9, rfl⟩ := owns_form hown9
              have hx19 := hf9.blk (Bk.alloc (show w8.drew.heap[D]? = _ from hx1) (.cells #[.int .i64 c.tenant, .string c.key, .int .i64 c.epoch, .int .i64 c.phase, .int .i64 c.token, .string c.name, .string c.body] 37)) (fun e => by have := (hR.lt _ e).1; have := (hR.lt _ e).2; exact absurd (hnv _ e) (by simp))
              have hblk9 := hf9.blk (Bk.alloc (show w8.drew.heap[b + 2]? = _ from hblk8) (.cells #[.int .i64 c.tenant, .string c.key, .int .i64 c.epoch, .int .i64 c.phase, .int .i64 c.token, .string c.name, .string c.body] 37)) (fun e => by have := (hR.lt _ e).1; omega)
              refine hK.out _ _ (by assumption) (fun hHeld => ?_)
              clear hK K
              (try simp only [Act.put, List.getElem_toArray, List.getElem_cons_succ, List.getElem_cons_zero, List.setIfInBounds_toArray, List.set_cons_zero, List.set_cons_succ])
              refine wpAnyH_take (i := 8) (v := ?_) rfl (by kernel_rfl) (by kernel_rfl) (by kernel_rfl) (fun _ _ _ h => h) (Or.inl ⟨by rfl, ?_⟩) (by assumption) ?_
              rotate_left 1
              focus (intro w hSw; (try dsimp only at hSw); go_simp; (try with_reducible rfl))
              (try simp only [Act.put, List.getElem_toArray, List.getElem_cons_succ, List.getElem_cons_zero, List.setIfInBounds_toArray, List.set_cons_zero, List.set_cons_succ])
              refine wpAnyH_take (i := 9) (v := ?_) rfl (by kernel_rfl) (by kernel_rfl) (by kernel_rfl) (fun _ _ _ h => h) (Or.inl ⟨by rfl, ?_⟩) (by assumption) ?_
              rotate_left 1
              focus (intro w hSw; (try dsimp only at hSw); go_simp; (try with_reducible rfl))
              (try simp only [Act.put, List.getElem_toArray, List.getElem_cons_succ, List.getElem_cons_zero, List.setIfInBounds_toArray, List.set_cons_zero, List.set_cons_succ])
              refine wpAnyH_ready (rs := [10]) (by kernel_rfl) (by simp) ?_
              refine AllReadyH.cons rfl (fun K hK => ?_) AllReadyH.nil
              have f29 := Bk.frozen hblk9 2
              have c29 := (Bk.c4 hblk9).2.2.1
              rw [if_pos (by rfl)]
              go_simp
              refine hK.out _ _ (Bk.far (by assumption) (p := ⟨b + 2, 2, none⟩) (show D ≠ b + 2 by omega) _) (fun hHeld => ?_)
              clear hK K
              (try simp only [Act.put, List.getElem_toArray, List.getElem_cons_succ, List.getElem_cons_zero, List.setIfInBounds_toArray, List.set_cons_zero, List.set_cons_succ])
              refine wpAnyH_done (by kernel_rfl) ?_ _
              go_wp2_with fail
              go_ret
              have hfx : Frm (fun k => (Value.slice A s.ef.length cp).ownBlock = some k ∨ k = b + 2) w8 (w9.setCell ⟨b + 2, 2, none⟩ (.slice (some ⟨g9, 0, none⟩) (s.ef.length + 1) cap9)) :=
                (Frm.then_ (by first | exact ((Frm.refl _ w8).alloc _).drew | exact ((Frm.refl _ w8).drew.alloc _)) hf9 (fun i hi e => .inl e)).setCell ⟨b + 2, 2, none⟩ (fun _ => .inr rfl) _
              have e1 : (s.ef ++ [c]).length = s.ef.length + 1 := by simp
              have e2 : (s.ef ++ [c]).flatMap Ca.cells = s.ef.flatMap Ca.cells ++ c.cells := by simp
              have hrow := owns_frm hown9 ((Frm.refl (fun k => k = b + 2) w9).set1 2 (.slice (some ⟨g9, 0, none⟩) (s.ef.length + 1) cap9)) (fun g hg e => by have := (hown9.lt g hg).1; omega)
              rw [← e1, ← e2] at hrow
              have hbk := Bk.set hblk9 2 (.slice (some ⟨g9, 0, none⟩) (s.ef.length + 1) cap9)
              have hbl : b + 2 < D := hlb
              rw [HMS.out]
              refine ⟨rfl, _, ⟨by simpa using hbk, (hL8.frm hfx (fun e => e.elim (fun e => by have := (HOWN.out _ e).1; omega) (fun e => by omega))).more (by omega), (hD8.frm hfx (fun e => e.elim (fun e => by have := (HOWN.out _ e).1; omega) (fun e => by omega))).more (by omega), by rw [e1] at hrow ⊢; exact hrow, hlate⟩, hF8.then_ hfx (fun i hi e => e.elim (fun e => .inr (.inr (.inr e))) (fun e => .inr (.inr (.inl e)))), hat9.imp (fun e => e) (fun e k hk => ?_)⟩
              rw [e] at hk
              cases hk
              simp
              omega
        · have hms : call s c = (⟨putL s.ls c.tenant c.key c.epoch c.token false, s.ef, s.later⟩, 1) := by
            unfold call
            rw [if_neg hstl, if_pos HB0.out]
          have HMS := Lib.hid hms
          clear hms
          go_wp2_with fail
          go_ret
          rw [HMS.out]
          exact ⟨rfl, v, ⟨hblk, hL.more (by omega), hD.more (by omega), hR, hlate⟩, hF6, .inl rfl⟩
end Bk25
end Go.Proofs.Yteokiiolchpndaa
