/- The walk of BackendOnce. -/
import Derived.Test.YteokiiolchpndaaBke
import Derived.Test.YteokiiolchpndaaBkf
import Derived.Test.YteokiiolchpndaaBkg
import Derived.Test.YteokiiolchpndaaBkh
namespace Go.Proofs.Yteokiiolchpndaa
open Go.RowKit Go.ChangeShapes Go.WideShapes Go.Maps
set_option linter.unusedVariables false
set_option linter.unusedSimpArgs false
set_option maxRecDepth 100000
namespace Bk25
theorem met_to {l : List Ca} {v : Value} {w : World} {t : Int} {ky : ByteArray} {e p : Int} {r : Bool} (hs : Sl w v l.length (l.flatMap Ca.cells)) (hr : met l t ky e p = r) :
    Calls Try.prog 17 #[v, .int .i64 t, .string ky, .int .i64 e, .int .i64 p] w fun e_ w' => e_ = .returned (.bool r) ∧ Frm0 w w' := by
  subst hr
  exact met_any l v w t ky e p hs
theorem eff_prefix {w : World} {base g n' n cap : Nat} {l r ef : List Ca} (h : w.ownsRow base 37 7 (.slice (some ⟨g, 0, none⟩) n' cap) n' (ef.flatMap Ca.cells)) (he : ef = l ++ r) (hn : l.length = n) : Sl w (.slice (some ⟨g, 0, none⟩) n cap) n (l.flatMap Ca.cells) := by
  subst he hn
  by_cases h0 : l.length = 0
  · have : l = [] := List.eq_nil_of_length_eq_zero h0
    subst this
    exact .inl ⟨_, _, rfl, rfl, rfl⟩
  · have hlen := h.1
    rw [flatMap_len Ca.cells 7 (fun _ => rfl), List.length_append] at hlen
    rcases h.2 with ⟨hh, _⟩ | ⟨g', cap', cur, he, hb, hg, hn, hc, hsz, ht⟩
    · cases hh
    · cases he
      refine .inr ⟨g, 0, cap, rfl, by omega, by omega, hc, Bk.lt hg, fun j u hu => ?_⟩
      have hj : j < (l.flatMap Ca.cells).length := (List.getElem?_eq_some_iff.1 hu).1
      rw [flatMap_len Ca.cells 7 (fun _ => rfl)] at hj
      rw [Nat.zero_add, h.cellAt j (by omega), List.flatMap_append, List.getElem?_append_left (by rw [flatMap_len Ca.cells 7 (fun _ => rfl)]; exact hj)]
      exact hu
set_option maxHeartbeats 8000000 in
theorem once_walk (v : Value) (l : List KDeed) (w : World) (hs : Sl w v l.length (l.flatMap KDeed.cells)) (hg : ∀ a ∈ l, KDeed.Good a) :
    Calls Try.prog 3 #[v] w fun e w' => e = .returned (.bool true) ∧ Below w.heap.size w w' := by
  have hlen := hs.len
  by_cases h60 : 60 < l.length
  · obtain ⟨A, c, rfl⟩ := hs.form
    go_enter Try.func3, Try.ntmps3
    go_wp2_with fail
    refine (bawake _).mono ?_
    rintro e w1 ⟨rfl, hf1⟩
    go_wp2
    go_ret
    exact ⟨rfl, hf1.below (fun _ _ h => h)⟩
  have hcell : ∀ k (hk : k < l.length), ∃ b o c, v = .slice (some ⟨b, o, none⟩) l.length c ∧ w.rangeAt b (o + k * 9) (l[k]).cells := by
    intro k hk
    rcases hs with ⟨A, c, rfl, hn, _⟩ | ⟨b, o, c, rfl, h0, h1, h2, _, hc⟩
    · omega
    · exact ⟨b, o, c, rfl, deed_range hc k hk⟩
  obtain ⟨A, cp, rfl⟩ := hs.form
  have HC := Lib.hid hcell
  have HG := Lib.hid hg
  clear hcell hs hg
  go_enter Try.func3, Try.ntmps3
  go_wp2_with fail
  refine (bawake _).mono ?_
  rintro e w1 ⟨rfl, hf1⟩
  go_wp2_with fail
  refine (new_any _).mono ?_
  rintro e w2 ⟨rfl, hA, hf2⟩
  have hF2 := hf1.trans hf2
  have hbb : w.heap.size ≤ w1.heap.size := hf1.size
  generalize w1.heap.size = b at *
  clear hf1 hf2
  go_wp2_with fail
  go_loopw [4, 18] (fun cv i wr => ∃ (k : Nat) (s : St) (u : Value), k ≤ l.length ∧ i = .int .i64 k ∧ At wr b u s (2 * k) ∧ wr.ownsRow (b + 3) 37 7 cv s.ef.length (s.ef.flatMap Ca.cells) ∧ s.ef.length ≤ k ∧ Hid (∀ g, cv.ownBlock = some g → u.ownBlock ≠ some g) ∧ Frm0 w wr) (fun _ i _ => l.length - (intOf i).toNat)
  case atStart => exact ⟨0, _, _, by omega, rfl, hA, World.ownsRow_nil _ _ _ _, by decide, (by intro g hg; simp [Value.ownBlock] at hg), hF2⟩
  case round =>
    clear hA hF2
    obtain ⟨k, s, u, hk, rfl, hA, hC, hel, hsep, hF⟩ := hrel
    by_cases hlt : k < l.length
    · obtain ⟨b0, o0, c0, he, hrg⟩ := HC.out k hlt
      cases he
      have hrg : wr.rangeAt b0 (o0 + k * 9) (l[k]).cells := fun j x hx => hF.cell (hrg j x hx) (fun h => h)
      have hgd := HG.out (l[k]) (List.getElem_mem hlt)
      obtain ⟨c, hcc⟩ : ∃ c, (l[k]).call = c := ⟨_, rfl⟩
      obtain ⟨kd, hkd⟩ : ∃ kd, (l[k]).kind = kd := ⟨_, rfl⟩
      obtain ⟨n, hn⟩ : ∃ n, (l[k]).n = n := ⟨_, rfl⟩
      have hcells : (l[k]).cells = [.int .u8 kd, .int .i64 c.tenant, .string c.key, .int .i64 c.epoch, .int .i64 c.phase, .int .i64 c.token, .string c.name, .string c.body, .int .i64 n] := by rw [← hcc, ← hkd, ← hn]; rfl
      have hk8 := bounds_u8 (hkd ▸ hgd.kind)
      have hkok : Kok c.tenant c.key c.epoch := by have := hgd.call; rw [hcc] at this; exact ⟨this.tenant, this.key, this.epoch⟩
      have hpok : (Lit.int .i64 c.phase).wf = true := by have := hgd.call; rw [hcc] at this; exact this.phase
      rw [hcells] at hrg
      have HKOK := Lib.hid hkok
      have HPOK := Lib.hid hpok
      clear hgd hcells hkd hn hkok hpok hcc
      have hlb := hA.lt
      have HOWN := Lib.hid hA.own
      go_upto_region 11 with (first
        | (refine wpList_load_mid rfl 30 (.tmp 20) rfl b0 (o0 + k * 9) rfl _ _ hrg Try.underlying30 rfl (by rw [iDd]; rfl) ?_))
      have hB7 := new_second wr (.cells #[.int .u8 kd, .int .i64 c.tenant, .string c.key, .int .i64 c.epoch, .int .i64 c.phase, .int .i64 c.token, .string c.name, .string c.body, .int .i64 n] 30) (.cells #[.int .i64 c.tenant, .string c.key, .int .i64 c.epoch, .int .i64 c.phase, .int .i64 c.token, .string c.name, .string c.body] 28)
      have hal3 := ((Frm.refl (fun _ => False) wr).alloc (.cells #[.int .u8 kd, .int .i64 c.tenant, .string c.key, .int .i64 c.epoch, .int .i64 c.phase, .int .i64 c.token, .string c.name, .string c.body, .int .i64 n] 30)).alloc (.cells #[.int .i64 c.tenant, .string c.key, .int .i64 c.epoch, .int .i64 c.phase, .int .i64 c.token, .string c.name, .string c.body] 28)
      have hB6 := Bk.alloc (Bk.new wr (.cells #[.int .u8 kd, .int .i64 c.tenant, .string c.key, .int .i64 c.epoch, .int .i64 c.phase, .int .i64 c.token, .string c.name, .string c.body, .int .i64 n] 30)) (.cells #[.int .i64 c.tenant, .string c.key, .int .i64 c.epoch, .int .i64 c.phase, .int .i64 c.token, .string c.name, .string c.body] 28)
      have hA3 := hA.frm0 hal3
      have hC3 := owns_frm0 hC hal3
      have hF3 := hF.trans hal3
      have hs3 := hal3.size
      have hwr := hF.size
      obtain ⟨m0, m1, m2, m3, m4, m5, m6, m7, m8⟩ := Bk.c9' hB6
      have HSEP := Lib.hid hsep.out
      have HCLT := Lib.hid hC.lt
      clear hA hC hF hal3 hB6 hsep hrg
      generalize (wr.alloc (.cells #[.int .u8 kd, .int .i64 c.tenant, .string c.key, .int .i64 c.epoch, .int .i64 c.phase, .int .i64 c.token, .string c.name, .string c.body, .int .i64 n] 30)).alloc (.cells #[.int .i64 c.tenant, .string c.key, .int .i64 c.epoch, .int .i64 c.phase, .int .i64 c.token, .string c.name, .string c.body] 28) = w3 at *
      generalize wr.heap.size = D at *
      have hmod := u8mod hk8
      by_cases h3 : kd % 4 = 3
      · have d3 : (kd % 4 == 3) = true := beq_iff_eq.2 h3
        go_wp2_with fail
        refine (later_any n hA3).mono ?_
        rintro e w5 ⟨rfl, hA5, hf5⟩
        have hC5 := owns_frm hC3 hf5 (fun g hg e => by have := (hC3.lt g hg).1; omega)
        have hF5 := hF3.then_ hf5 (fun i hi e => by omega)
        go_wp2_with fail
        go_roundw
        case rel => exact ⟨k + 1, ⟨s.ls, s.ef, nb n⟩, u, by omega, by go_num, hA5.more (show 2 * k ≤ 2 * (k + 1) by omega), hC5, (show s.ef.length ≤ k + 1 by omega), HSEP.out, hF5⟩
        case measure => simp [intOf]; omega
      · have d3 : (kd % 4 == 3) = false := beq_eq_false_iff_ne.2 h3
        obtain ⟨⟨s', x⟩, hcall⟩ : ∃ r, call s c = r := ⟨_, rfl⟩
        have hdo := do_to c hA3 (by omega) (by omega) HKOK.out HPOK.out hcall
        unfold Ca.reply at hdo
        have HDO := Lib.hid hdo
        clear hdo
        have hfp7 : ¬ fp b u (D + 1) := by
          rintro (e | e | e | e)
          · omega
          · omega
          · omega
          · have := (HOWN.out _ e).2; omega
        have hce := call_ef s c
        rw [hcall] at hce
        simp only at hce
        have hefl : s'.ef.length ≤ s.ef.length + 1 ∧ s.ef.length ≤ s'.ef.length := by
          rcases hce with ⟨h, _⟩ | ⟨h, _⟩
          · rw [h]; omega
          · rw [h]; simp
        have HMT := Lib.hid (show x = 1 → met s'.ef c.tenant c.key c.epoch c.phase = true from fun h1 => by
          rcases hce with ⟨h, h2⟩ | ⟨h, _⟩
          · rw [h]; exact h2 h1
          · rw [h]; exact met_app s.ef c)
        have hpre : ∃ r, s'.ef = s.ef ++ r := by
          rcases hce with ⟨h, _⟩ | ⟨h, _⟩
          · exact ⟨[], by rw [h, List.append_nil]⟩
          · exact ⟨[c], h⟩
        have HCE := Lib.hid hce
        have HPRE := Lib.hid hpre
        clear hce hpre hcall
        obtain ⟨p0, p1, p2, p3, p4, p5, p6⟩ := Bk.c7 hB7
        go_wp2_with fail
        refine HDO.out.mono ?_
        rintro e w5 ⟨rfl, u5, hA5, hf5, ho5⟩
        have hB5 := hf5.blk hB7 hfp7
        have hC5 := owns_frm hC3 hf5 (fun g hg e => by
          have := (hC3.lt g hg).1
          rcases e with e | e | e | e
          · omega
          · omega
          · omega
          · exact HSEP.out g hg e)
        have hF5 := hF3.then_ hf5 (fun i hi e => by
          rcases e with e | e | e | e
          · omega
          · omega
          · omega
          · have := (hA3.own i e).1; omega)
        have hs5 := hf5.size
        have hA5l := hA5.lt
        clear p0 p1 p2 p3 p4 p5 p6 hf5 ho5 hA3
        go_upto_region 14 with (fail)
        have hal7 := (Frm.refl (fun _ => False) w5).alloc (.cells #[.int .i64 c.tenant, .string c.key, .int .i64 c.epoch, .int .i64 c.phase, .int .i64 c.token, .int .i64 x] 33)
        have hA7 := hA5.frm0 hal7
        have hC7 := owns_frm0 hC5 hal7
        have hB7' := hal7.blk hB5 (fun h => h)
        have hb7 := Bk.new w5 (.cells #[.int .i64 c.tenant, .string c.key, .int .i64 c.epoch, .int .i64 c.phase, .int .i64 c.token, .int .i64 x] 33)
        have hF7 := hF5.trans hal7
        have hs7 := hal7.size
        have hz7 : (w5.alloc (.cells #[.int .i64 c.tenant, .string c.key, .int .i64 c.epoch, .int .i64 c.phase, .int .i64 c.token, .int .i64 x] 33)).heap.size = w5.heap.size + 1 := by simp
        have hO5 := hA5.own
        have hC5l := fun g hg => (hC5.lt g hg).2
        clear hA5 hC5 hB5 hF5 hal7
        generalize w5.alloc (.cells #[.int .i64 c.tenant, .string c.key, .int .i64 c.epoch, .int .i64 c.phase, .int .i64 c.token, .int .i64 x] 33) = w7 at *
        generalize w5.heap.size = RB at *
        have hO7 := Lib.hid hA7.own
        go_wp2_with fail
        refine (effects_any hA7 (by omega)).mono ?_
        rintro e w8 ⟨e8, rfl, hr8, hf8⟩
        have HA8 := Lib.hid (hA7.frm0 hf8)
        have hC8 := owns_frm0 hC7 hf8
        have HB7 := Lib.hid (hf8.blk hB7' (fun h => h))
        have HB8 := Lib.hid (hf8.blk hb7 (fun h => h))
        have HF8 := Lib.hid (hF7.trans hf8)
        have HSEP8 := Lib.hid (show ∀ g, e8.ownBlock = some g → u5.ownBlock ≠ some g from fun g hg e => by have := (hr8.lt g hg).1; have := (hO7.out g e).2; omega)
        have hr8' := owns_base hr8 (b' := b + 3) (by omega)
        have HR8 := Lib.hid hr8'
        have hlt7 : s.ef.length ≤ s'.ef.length := hefl.2
        have hdl : decide ((s'.ef.length : Int) < (s.ef.length : Int)) = false := decide_eq_false (by omega)
        obtain ⟨wA, wc, rfl⟩ := owns_nil_form' hC8
        have HW8 := Lib.hid (Sl.of_own hC8)
        clear hA7 hC7 hB7' hb7 hF7 hf8
        rcases hr8.2 with ⟨rfl, h0⟩ | ⟨g8, cap8, cur8, rfl, hg8b, hg8, hcap, hcm, _⟩
        · have hs0 : s'.ef.length = 0 := h0
          have hs00 : s.ef.length = 0 := by omega
          have hse : s.ef = [] := List.eq_nil_of_length_eq_zero hs00
          have hse' : s'.ef = [] := List.eq_nil_of_length_eq_zero hs0
          have hx1 : ¬ x = 1 := fun h => by
            have := HMT.out h
            rw [hse'] at this
            cases this
          have HX1 := Lib.hid hx1
          rw [hse]
          simp only [List.length_nil]
          clear hs0 hs00 hse hse' h0 hr8 hr8' hC8 hx1 hlt7
          go_wp2_with fail
          refine (same_any [] _ _ _ (Sl.nil _) (.inl ⟨_, _, rfl, rfl, rfl⟩)).mono ?_
          rintro e w9 ⟨rfl, hf9⟩
          go_upto_region 17 with (fail)
          refine wp_region_held_drew (S := fun _ => True) (by kernel_rfl) (trivial) (fun hHeld => ?_)
          skip
          refine wpAnyH_take (i := 0) (v := ?_) rfl (by kernel_rfl) (by kernel_rfl) (by kernel_rfl) (fun _ _ _ h => h) (Or.inl ⟨by rfl, ?_⟩) (by assumption) ?_
          rotate_left 1
          focus (intro w hSw; (try dsimp only at hSw); go_simp; (try with_reducible rfl))
          (try simp only [Act.put, List.getElem_toArray, List.getElem_cons_succ, List.getElem_cons_zero, List.setIfInBounds_toArray, List.set_cons_zero, List.set_cons_succ])
          refine wpAnyH_take (i := 1) (v := ?_) rfl (by kernel_rfl) (by kernel_rfl) (by kernel_rfl) (fun _ _ _ h => h) (Or.inl ⟨by rfl, ?_⟩) (by assumption) ?_
          rotate_left 1
          focus (intro w hSw; (try dsimp only at hSw); go_simp; (try with_reducible rfl))
          (try simp only [Act.put, List.getElem_toArray, List.getElem_cons_succ, List.getElem_cons_zero, List.setIfInBounds_toArray, List.set_cons_zero, List.set_cons_succ])
          refine wpAnyH_take (i := 2) (v := ?_) rfl (by kernel_rfl) (by kernel_rfl) (by kernel_rfl) (fun _ _ _ h => h) (Or.inl ⟨by rfl, ?_⟩) (by assumption) ?_
          rotate_left 1
          focus (intro w hSw; (try dsimp only at hSw); go_simp; (try with_reducible rfl))
          (try simp only [Act.put, List.getElem_toArray, List.getElem_cons_succ, List.getElem_cons_zero, List.setIfInBounds_toArray, List.set_cons_zero, List.set_cons_succ])
          refine wpAnyH_take (i := 3) (v := ?_) rfl (by kernel_rfl) (by kernel_rfl) (by kernel_rfl) (fun _ _ _ h => h) (Or.inl ⟨by rfl, ?_⟩) (by assumption) ?_
          rotate_left 1
          focus (intro w hSw; (try dsimp only at hSw); go_simp; (try with_reducible rfl))
          (try simp only [Act.put, List.getElem_toArray, List.getElem_cons_succ, List.getElem_cons_zero, List.setIfInBounds_toArray, List.set_cons_zero, List.set_cons_succ])
          refine wpAnyH_take (i := 4) (v := ?_) rfl (by kernel_rfl) (by kernel_rfl) (by kernel_rfl) (fun _ _ _ h => h) (Or.inl ⟨by rfl, ?_⟩) (by assumption) ?_
          rotate_left 1
          focus (intro w hSw; (try dsimp only at hSw); go_simp; (try with_reducible rfl))
          (try simp only [Act.put, List.getElem_toArray, List.getElem_cons_succ, List.getElem_cons_zero, List.setIfInBounds_toArray, List.set_cons_zero, List.set_cons_succ])
          refine wpAnyH_take (i := 5) (v := ?_) rfl (by kernel_rfl) (by kernel_rfl) (by kernel_rfl) (fun _ _ _ h => h) (Or.inl ⟨by rfl, ?_⟩) (by assumption) ?_
          rotate_left 1
          focus (intro w hSw; (try dsimp only at hSw); go_simp; (try with_reducible rfl))
          (try simp only [Act.put, List.getElem_toArray, List.getElem_cons_succ, List.getElem_cons_zero, List.setIfInBounds_toArray, List.set_cons_zero, List.set_cons_succ])
          refine wpAnyH_take (i := 6) (v := undef) rfl (by kernel_rfl) (by kernel_rfl) (by kernel_rfl) (fun _ _ _ h => h) (Or.inr ⟨by rfl, rfl⟩) (by assumption) ?_
          (try simp only [Act.put, List.getElem_toArray, List.getElem_cons_succ, List.getElem_cons_zero, List.setIfInBounds_toArray, List.set_cons_zero, List.set_cons_succ])
          refine wpAnyH_take (i := 7) (v := undef) rfl (by kernel_rfl) (by kernel_rfl) (by kernel_rfl) (fun _ _ _ h => h) (Or.inr ⟨by rfl, rfl⟩) (by assumption) ?_
          (try simp only [Act.put, List.getElem_toArray, List.getElem_cons_succ, List.getElem_cons_zero, List.setIfInBounds_toArray, List.set_cons_zero, List.set_cons_succ])
          refine wpAnyH_take (i := 8) (v := undef) rfl (by kernel_rfl) (by kernel_rfl) (by kernel_rfl) (fun _ _ _ h => h) (Or.inr ⟨by rfl, rfl⟩) (by assumption) ?_
          (try simp only [Act.put, List.getElem_toArray, List.getElem_cons_succ, List.getElem_cons_zero, List.setIfInBounds_toArray, List.set_cons_zero, List.set_cons_succ])
          refine wpAnyH_take (i := 9) (v := undef) rfl (by kernel_rfl) (by kernel_rfl) (by kernel_rfl) (fun _ _ _ h => h) (Or.inr ⟨by rfl, rfl⟩) (by assumption) ?_
          (try simp only [Act.put, List.getElem_toArray, List.getElem_cons_succ, List.getElem_cons_zero, List.setIfInBounds_toArray, List.set_cons_zero, List.set_cons_succ])
          refine wpAnyH_take (i := 10) (v := undef) rfl (by kernel_rfl) (by kernel_rfl) (by kernel_rfl) (fun _ _ _ h => h) (Or.inr ⟨by rfl, rfl⟩) (by assumption) ?_
          (try simp only [Act.put, List.getElem_toArray, List.getElem_cons_succ, List.getElem_cons_zero, List.setIfInBounds_toArray, List.set_cons_zero, List.set_cons_succ])
          refine wpAnyH_take (i := 11) (v := undef) rfl (by kernel_rfl) (by kernel_rfl) (by kernel_rfl) (fun _ _ _ h => h) (Or.inr ⟨by rfl, rfl⟩) (by assumption) ?_
          (try simp only [Act.put, List.getElem_toArray, List.getElem_cons_succ, List.getElem_cons_zero, List.setIfInBounds_toArray, List.set_cons_zero, List.set_cons_succ])
          refine wpAnyH_take (i := 12) (v := undef) rfl (by kernel_rfl) (by kernel_rfl) (by kernel_rfl) (fun _ _ _ h => h) (Or.inr ⟨by rfl, rfl⟩) (by assumption) ?_
          (try simp only [Act.put, List.getElem_toArray, List.getElem_cons_succ, List.getElem_cons_zero, List.setIfInBounds_toArray, List.set_cons_zero, List.set_cons_succ])
          refine wpAnyH_take (i := 13) (v := undef) rfl (by kernel_rfl) (by kernel_rfl) (by kernel_rfl) (fun _ _ _ h => h) (Or.inr ⟨by rfl, rfl⟩) (by assumption) ?_
          (try simp only [Act.put, List.getElem_toArray, List.getElem_cons_succ, List.getElem_cons_zero, List.setIfInBounds_toArray, List.set_cons_zero, List.set_cons_succ])
          refine wpAnyH_take (i := 14) (v := undef) rfl (by kernel_rfl) (by kernel_rfl) (by kernel_rfl) (fun _ _ _ h => h) (Or.inr ⟨by rfl, rfl⟩) (by assumption) ?_
          (try simp only [Act.put, List.getElem_toArray, List.getElem_cons_succ, List.getElem_cons_zero, List.setIfInBounds_toArray, List.set_cons_zero, List.set_cons_succ])
          refine wpAnyH_take (i := 15) (v := undef) rfl (by kernel_rfl) (by kernel_rfl) (by kernel_rfl) (fun _ _ _ h => h) (Or.inr ⟨by rfl, rfl⟩) (by assumption) ?_
          (try simp only [Act.put, List.getElem_toArray, List.getElem_cons_succ, List.getElem_cons_zero, List.setIfInBounds_toArray, List.set_cons_zero, List.set_cons_succ])
          refine wpAnyH_take (i := 16) (v := undef) rfl (by kernel_rfl) (by kernel_rfl) (by kernel_rfl) (fun _ _ _ h => h) (Or.inr ⟨by rfl, rfl⟩) (by assumption) ?_
          (try simp only [Act.put, List.getElem_toArray, List.getElem_cons_succ, List.getElem_cons_zero, List.setIfInBounds_toArray, List.set_cons_zero, List.set_cons_succ])
          refine wpAnyH_take (i := 17) (v := undef) rfl (by kernel_rfl) (by kernel_rfl) (by kernel_rfl) (fun _ _ _ h => h) (Or.inr ⟨by rfl, rfl⟩) (by assumption) ?_
          (try simp only [Act.put, List.getElem_toArray, List.getElem_cons_succ, List.getElem_cons_zero, List.setIfInBounds_toArray, List.set_cons_zero, List.set_cons_succ])
          refine wpAnyH_take (i := 18) (v := undef) rfl (by kernel_rfl) (by kernel_rfl) (by kernel_rfl) (fun _ _ _ h => h) (Or.inr ⟨by rfl, rfl⟩) (by assumption) ?_
          (try simp only [Act.put, List.getElem_toArray, List.getElem_cons_succ, List.getElem_cons_zero, List.setIfInBounds_toArray, List.set_cons_zero, List.set_cons_succ])
          refine wpAnyH_take (i := 19) (v := undef) rfl (by kernel_rfl) (by kernel_rfl) (by kernel_rfl) (fun _ _ _ h => h) (Or.inr ⟨by rfl, rfl⟩) (by assumption) ?_
          (try simp only [Act.put, List.getElem_toArray, List.getElem_cons_succ, List.getElem_cons_zero, List.setIfInBounds_toArray, List.set_cons_zero, List.set_cons_succ])
          refine wpAnyH_take (i := 20) (v := undef) rfl (by kernel_rfl) (by kernel_rfl) (by kernel_rfl) (fun _ _ _ h => h) (Or.inr ⟨by rfl, rfl⟩) (by assumption) ?_
          (try simp only [Act.put, List.getElem_toArray, List.getElem_cons_succ, List.getElem_cons_zero, List.setIfInBounds_toArray, List.set_cons_zero, List.set_cons_succ])
          refine wpAnyH_take (i := 21) (v := undef) rfl (by kernel_rfl) (by kernel_rfl) (by kernel_rfl) (fun _ _ _ h => h) (Or.inr ⟨by rfl, rfl⟩) (by assumption) ?_
          (try simp only [Act.put, List.getElem_toArray, List.getElem_cons_succ, List.getElem_cons_zero, List.setIfInBounds_toArray, List.set_cons_zero, List.set_cons_succ])
          refine wpAnyH_take (i := 22) (v := undef) rfl (by kernel_rfl) (by kernel_rfl) (by kernel_rfl) (fun _ _ _ h => h) (Or.inr ⟨by rfl, rfl⟩) (by assumption) ?_
          (try simp only [Act.put, List.getElem_toArray, List.getElem_cons_succ, List.getElem_cons_zero, List.setIfInBounds_toArray, List.set_cons_zero, List.set_cons_succ])
          refine wpAnyH_take (i := 23) (v := undef) rfl (by kernel_rfl) (by kernel_rfl) (by kernel_rfl) (fun _ _ _ h => h) (Or.inr ⟨by rfl, rfl⟩) (by assumption) ?_
          (try simp only [Act.put, List.getElem_toArray, List.getElem_cons_succ, List.getElem_cons_zero, List.setIfInBounds_toArray, List.set_cons_zero, List.set_cons_succ])
          refine wpAnyH_take (i := 24) (v := undef) rfl (by kernel_rfl) (by kernel_rfl) (by kernel_rfl) (fun _ _ _ h => h) (Or.inr ⟨by rfl, rfl⟩) (by assumption) ?_
          (try simp only [Act.put, List.getElem_toArray, List.getElem_cons_succ, List.getElem_cons_zero, List.setIfInBounds_toArray, List.set_cons_zero, List.set_cons_succ])
          refine wpAnyH_take (i := 25) (v := undef) rfl (by kernel_rfl) (by kernel_rfl) (by kernel_rfl) (fun _ _ _ h => h) (Or.inr ⟨by rfl, rfl⟩) (by assumption) ?_
          (try simp only [Act.put, List.getElem_toArray, List.getElem_cons_succ, List.getElem_cons_zero, List.setIfInBounds_toArray, List.set_cons_zero, List.set_cons_succ])
          refine wpAnyH_take (i := 26) (v := undef) rfl (by kernel_rfl) (by kernel_rfl) (by kernel_rfl) (fun _ _ _ h => h) (Or.inr ⟨by rfl, rfl⟩) (by assumption) ?_
          (try simp only [Act.put, List.getElem_toArray, List.getElem_cons_succ, List.getElem_cons_zero, List.setIfInBounds_toArray, List.set_cons_zero, List.set_cons_succ])
          refine wpAnyH_take (i := 27) (v := undef) rfl (by kernel_rfl) (by kernel_rfl) (by kernel_rfl) (fun _ _ _ h => h) (Or.inr ⟨by rfl, rfl⟩) (by assumption) ?_
          (try simp only [Act.put, List.getElem_toArray, List.getElem_cons_succ, List.getElem_cons_zero, List.setIfInBounds_toArray, List.set_cons_zero, List.set_cons_succ])
          refine wpAnyH_take (i := 28) (v := undef) rfl (by kernel_rfl) (by kernel_rfl) (by kernel_rfl) (fun _ _ _ h => h) (Or.inr ⟨by rfl, rfl⟩) (by assumption) ?_
          (try simp only [Act.put, List.getElem_toArray, List.getElem_cons_succ, List.getElem_cons_zero, List.setIfInBounds_toArray, List.set_cons_zero, List.set_cons_succ])
          refine wpAnyH_take (i := 29) (v := undef) rfl (by kernel_rfl) (by kernel_rfl) (by kernel_rfl) (fun _ _ _ h => h) (Or.inr ⟨by rfl, rfl⟩) (by assumption) ?_
          (try simp only [Act.put, List.getElem_toArray, List.getElem_cons_succ, List.getElem_cons_zero, List.setIfInBounds_toArray, List.set_cons_zero, List.set_cons_succ])
          refine wpAnyH_take (i := 30) (v := undef) rfl (by kernel_rfl) (by kernel_rfl) (by kernel_rfl) (fun _ _ _ h => h) (Or.inr ⟨by rfl, rfl⟩) (by assumption) ?_
          (try simp only [Act.put, List.getElem_toArray, List.getElem_cons_succ, List.getElem_cons_zero, List.setIfInBounds_toArray, List.set_cons_zero, List.set_cons_succ])
          refine wpAnyH_take (i := 31) (v := undef) rfl (by kernel_rfl) (by kernel_rfl) (by kernel_rfl) (fun _ _ _ h => h) (Or.inr ⟨by rfl, rfl⟩) (by assumption) ?_
          (try simp only [Act.put, List.getElem_toArray, List.getElem_cons_succ, List.getElem_cons_zero, List.setIfInBounds_toArray, List.set_cons_zero, List.set_cons_succ])
          refine wpAnyH_take (i := 32) (v := undef) rfl (by kernel_rfl) (by kernel_rfl) (by kernel_rfl) (fun _ _ _ h => h) (Or.inr ⟨by rfl, rfl⟩) (by assumption) ?_
          (try simp only [Act.put, List.getElem_toArray, List.getElem_cons_succ, List.getElem_cons_zero, List.setIfInBounds_toArray, List.set_cons_zero, List.set_cons_succ])
          refine wpAnyH_take (i := 33) (v := undef) rfl (by kernel_rfl) (by kernel_rfl) (by kernel_rfl) (fun _ _ _ h => h) (Or.inr ⟨by rfl, rfl⟩) (by assumption) ?_
          (try simp only [Act.put, List.getElem_toArray, List.getElem_cons_succ, List.getElem_cons_zero, List.setIfInBounds_toArray, List.set_cons_zero, List.set_cons_succ])
          refine wpAnyH_take (i := 34) (v := undef) rfl (by kernel_rfl) (by kernel_rfl) (by kernel_rfl) (fun _ _ _ h => h) (Or.inr ⟨by rfl, rfl⟩) (by assumption) ?_
          (try simp only [Act.put, List.getElem_toArray, List.getElem_cons_succ, List.getElem_cons_zero, List.setIfInBounds_toArray, List.set_cons_zero, List.set_cons_succ])
          refine wpAnyH_take (i := 35) (v := undef) rfl (by kernel_rfl) (by kernel_rfl) (by kernel_rfl) (fun _ _ _ h => h) (Or.inr ⟨by rfl, rfl⟩) (by assumption) ?_
          (try simp only [Act.put, List.getElem_toArray, List.getElem_cons_succ, List.getElem_cons_zero, List.setIfInBounds_toArray, List.set_cons_zero, List.set_cons_succ])
          refine wpAnyH_take (i := 36) (v := undef) rfl (by kernel_rfl) (by kernel_rfl) (by kernel_rfl) (fun _ _ _ h => h) (Or.inr ⟨by rfl, rfl⟩) (by assumption) ?_
          (try simp only [Act.put, List.getElem_toArray, List.getElem_cons_succ, List.getElem_cons_zero, List.setIfInBounds_toArray, List.set_cons_zero, List.set_cons_succ])
          refine wpAnyH_take (i := 37) (v := undef) rfl (by kernel_rfl) (by kernel_rfl) (by kernel_rfl) (fun _ _ _ h => h) (Or.inr ⟨by rfl, rfl⟩) (by assumption) ?_
          (try simp only [Act.put, List.getElem_toArray, List.getElem_cons_succ, List.getElem_cons_zero, List.setIfInBounds_toArray, List.set_cons_zero, List.set_cons_succ])
          refine wpAnyH_take (i := 38) (v := ?_) rfl (by kernel_rfl) (by kernel_rfl) (by kernel_rfl) (fun _ _ _ h => h) (Or.inl ⟨by rfl, ?_⟩) (by assumption) ?_
          rotate_left 1
          focus (intro w hSw; (try dsimp only at hSw); go_simp; (try with_reducible rfl))
          (try simp only [Act.put, List.getElem_toArray, List.getElem_cons_succ, List.getElem_cons_zero, List.setIfInBounds_toArray, List.set_cons_zero, List.set_cons_succ])
          refine wpAnyH_done (by kernel_rfl) ?_ _
          have hfq := hf9.drew
          clear hdl
          generalize w9.drew = wq at *
          have hx1 := HX1.out
          have dx : (x == 1) = false := beq_eq_false_iff_ne.2 hx1
          obtain ⟨r0, r1, r2, r3, r4, r5⟩ := Bk.c6 (hfq.blk HB8.out (fun h => h))
          go_wp2_with fail
          go_roundw
          case rel => exact ⟨k + 1, s', u5, by omega, by go_num, (HA8.out.frm0 hfq).more (show 2 * k + 2 ≤ 2 * (k + 1) by omega), owns_frm0 HR8.out hfq, by omega, HSEP8.out, HF8.out.trans hfq⟩
          case measure => simp [intOf]; omega
        · have HSM := Lib.hid (show Sl w8 (.slice (some ⟨g8, 0, none⟩) s.ef.length cap8) s.ef.length (s.ef.flatMap Ca.cells) from by
            obtain ⟨r, hr⟩ := HPRE.out
            exact eff_prefix hr8 hr rfl)
          clear hg8 hr8 hr8' hC8
          go_wp2_with fail
          refine (same_any s.ef _ _ _ HSM.out HW8.out).mono ?_
          rintro e w9 ⟨rfl, hf9⟩
          go_upto_region 17 with (fail)
          have hfq0 := hf9
          by_cases hgr : s'.ef.length = s.ef.length
          · have hgt : decide ((s.ef.length : Int) < (s'.ef.length : Int)) = false := decide_eq_false (by omega)
            have hgt' : ¬ (s.ef.length : Int) < (s'.ef.length : Int) := by omega
            have HGR := Lib.hid hgr
            clear hgr
            refine wp_region_held_drew (S := fun _ => True) (by kernel_rfl) (trivial) (fun hHeld => ?_)
            skip
            refine wpAnyH_take (i := 0) (v := ?_) rfl (by kernel_rfl) (by kernel_rfl) (by kernel_rfl) (fun _ _ _ h => h) (Or.inl ⟨by rfl, ?_⟩) (by assumption) ?_
            rotate_left 1
            focus (intro w hSw; (try dsimp only at hSw); go_simp; (try with_reducible rfl))
            (try simp only [Act.put, List.getElem_toArray, List.getElem_cons_succ, List.getElem_cons_zero, List.setIfInBounds_toArray, List.set_cons_zero, List.set_cons_succ])
            refine wpAnyH_take (i := 1) (v := ?_) rfl (by kernel_rfl) (by kernel_rfl) (by kernel_rfl) (fun _ _ _ h => h) (Or.inl ⟨by rfl, ?_⟩) (by assumption) ?_
            rotate_left 1
            focus (intro w hSw; (try dsimp only at hSw); go_simp; (try with_reducible rfl))
            (try simp only [Act.put, List.getElem_toArray, List.getElem_cons_succ, List.getElem_cons_zero, List.setIfInBounds_toArray, List.set_cons_zero, List.set_cons_succ])
            refine wpAnyH_take (i := 2) (v := ?_) rfl (by kernel_rfl) (by kernel_rfl) (by kernel_rfl) (fun _ _ _ h => h) (Or.inl ⟨by rfl, ?_⟩) (by assumption) ?_
            rotate_left 1
            focus (intro w hSw; (try dsimp only at hSw); go_simp; (try with_reducible rfl))
            (try simp only [Act.put, List.getElem_toArray, List.getElem_cons_succ, List.getElem_cons_zero, List.setIfInBounds_toArray, List.set_cons_zero, List.set_cons_succ])
            refine wpAnyH_take (i := 3) (v := ?_) rfl (by kernel_rfl) (by kernel_rfl) (by kernel_rfl) (fun _ _ _ h => h) (Or.inl ⟨by rfl, ?_⟩) (by assumption) ?_
            rotate_left 1
            focus (intro w hSw; (try dsimp only at hSw); go_simp; (try with_reducible rfl))
            (try simp only [Act.put, List.getElem_toArray, List.getElem_cons_succ, List.getElem_cons_zero, List.setIfInBounds_toArray, List.set_cons_zero, List.set_cons_succ])
            refine wpAnyH_take (i := 4) (v := ?_) rfl (by kernel_rfl) (by kernel_rfl) (by kernel_rfl) (fun _ _ _ h => h) (Or.inl ⟨by rfl, ?_⟩) (by assumption) ?_
            rotate_left 1
            focus (intro w hSw; (try dsimp only at hSw); go_simp; (try with_reducible rfl))
            (try simp only [Act.put, List.getElem_toArray, List.getElem_cons_succ, List.getElem_cons_zero, List.setIfInBounds_toArray, List.set_cons_zero, List.set_cons_succ])
            refine wpAnyH_take (i := 5) (v := ?_) rfl (by kernel_rfl) (by kernel_rfl) (by kernel_rfl) (fun _ _ _ h => h) (Or.inl ⟨by rfl, ?_⟩) (by assumption) ?_
            rotate_left 1
            focus (intro w hSw; (try dsimp only at hSw); go_simp; (try with_reducible rfl))
            (try simp only [Act.put, List.getElem_toArray, List.getElem_cons_succ, List.getElem_cons_zero, List.setIfInBounds_toArray, List.set_cons_zero, List.set_cons_succ])
            refine wpAnyH_take (i := 6) (v := undef) rfl (by kernel_rfl) (by kernel_rfl) (by kernel_rfl) (fun _ _ _ h => h) (Or.inr ⟨by rfl, rfl⟩) (by assumption) ?_
            (try simp only [Act.put, List.getElem_toArray, List.getElem_cons_succ, List.getElem_cons_zero, List.setIfInBounds_toArray, List.set_cons_zero, List.set_cons_succ])
            refine wpAnyH_take (i := 7) (v := undef) rfl (by kernel_rfl) (by kernel_rfl) (by kernel_rfl) (fun _ _ _ h => h) (Or.inr ⟨by rfl, rfl⟩) (by assumption) ?_
            (try simp only [Act.put, List.getElem_toArray, List.getElem_cons_succ, List.getElem_cons_zero, List.setIfInBounds_toArray, List.set_cons_zero, List.set_cons_succ])
            refine wpAnyH_take (i := 8) (v := undef) rfl (by kernel_rfl) (by kernel_rfl) (by kernel_rfl) (fun _ _ _ h => h) (Or.inr ⟨by rfl, rfl⟩) (by assumption) ?_
            (try simp only [Act.put, List.getElem_toArray, List.getElem_cons_succ, List.getElem_cons_zero, List.setIfInBounds_toArray, List.set_cons_zero, List.set_cons_succ])
            refine wpAnyH_take (i := 9) (v := undef) rfl (by kernel_rfl) (by kernel_rfl) (by kernel_rfl) (fun _ _ _ h => h) (Or.inr ⟨by rfl, rfl⟩) (by assumption) ?_
            (try simp only [Act.put, List.getElem_toArray, List.getElem_cons_succ, List.getElem_cons_zero, List.setIfInBounds_toArray, List.set_cons_zero, List.set_cons_succ])
            refine wpAnyH_take (i := 10) (v := undef) rfl (by kernel_rfl) (by kernel_rfl) (by kernel_rfl) (fun _ _ _ h => h) (Or.inr ⟨by rfl, rfl⟩) (by assumption) ?_
            (try simp only [Act.put, List.getElem_toArray, List.getElem_cons_succ, List.getElem_cons_zero, List.setIfInBounds_toArray, List.set_cons_zero, List.set_cons_succ])
            refine wpAnyH_take (i := 11) (v := undef) rfl (by kernel_rfl) (by kernel_rfl) (by kernel_rfl) (fun _ _ _ h => h) (Or.inr ⟨by rfl, rfl⟩) (by assumption) ?_
            (try simp only [Act.put, List.getElem_toArray, List.getElem_cons_succ, List.getElem_cons_zero, List.setIfInBounds_toArray, List.set_cons_zero, List.set_cons_succ])
            refine wpAnyH_take (i := 12) (v := undef) rfl (by kernel_rfl) (by kernel_rfl) (by kernel_rfl) (fun _ _ _ h => h) (Or.inr ⟨by rfl, rfl⟩) (by assumption) ?_
            (try simp only [Act.put, List.getElem_toArray, List.getElem_cons_succ, List.getElem_cons_zero, List.setIfInBounds_toArray, List.set_cons_zero, List.set_cons_succ])
            refine wpAnyH_take (i := 13) (v := undef) rfl (by kernel_rfl) (by kernel_rfl) (by kernel_rfl) (fun _ _ _ h => h) (Or.inr ⟨by rfl, rfl⟩) (by assumption) ?_
            (try simp only [Act.put, List.getElem_toArray, List.getElem_cons_succ, List.getElem_cons_zero, List.setIfInBounds_toArray, List.set_cons_zero, List.set_cons_succ])
            refine wpAnyH_take (i := 14) (v := undef) rfl (by kernel_rfl) (by kernel_rfl) (by kernel_rfl) (fun _ _ _ h => h) (Or.inr ⟨by rfl, rfl⟩) (by assumption) ?_
            (try simp only [Act.put, List.getElem_toArray, List.getElem_cons_succ, List.getElem_cons_zero, List.setIfInBounds_toArray, List.set_cons_zero, List.set_cons_succ])
            refine wpAnyH_take (i := 15) (v := undef) rfl (by kernel_rfl) (by kernel_rfl) (by kernel_rfl) (fun _ _ _ h => h) (Or.inr ⟨by rfl, rfl⟩) (by assumption) ?_
            (try simp only [Act.put, List.getElem_toArray, List.getElem_cons_succ, List.getElem_cons_zero, List.setIfInBounds_toArray, List.set_cons_zero, List.set_cons_succ])
            refine wpAnyH_take (i := 16) (v := undef) rfl (by kernel_rfl) (by kernel_rfl) (by kernel_rfl) (fun _ _ _ h => h) (Or.inr ⟨by rfl, rfl⟩) (by assumption) ?_
            (try simp only [Act.put, List.getElem_toArray, List.getElem_cons_succ, List.getElem_cons_zero, List.setIfInBounds_toArray, List.set_cons_zero, List.set_cons_succ])
            refine wpAnyH_take (i := 17) (v := undef) rfl (by kernel_rfl) (by kernel_rfl) (by kernel_rfl) (fun _ _ _ h => h) (Or.inr ⟨by rfl, rfl⟩) (by assumption) ?_
            (try simp only [Act.put, List.getElem_toArray, List.getElem_cons_succ, List.getElem_cons_zero, List.setIfInBounds_toArray, List.set_cons_zero, List.set_cons_succ])
            refine wpAnyH_take (i := 18) (v := undef) rfl (by kernel_rfl) (by kernel_rfl) (by kernel_rfl) (fun _ _ _ h => h) (Or.inr ⟨by rfl, rfl⟩) (by assumption) ?_
            (try simp only [Act.put, List.getElem_toArray, List.getElem_cons_succ, List.getElem_cons_zero, List.setIfInBounds_toArray, List.set_cons_zero, List.set_cons_succ])
            refine wpAnyH_take (i := 19) (v := undef) rfl (by kernel_rfl) (by kernel_rfl) (by kernel_rfl) (fun _ _ _ h => h) (Or.inr ⟨by rfl, rfl⟩) (by assumption) ?_
            (try simp only [Act.put, List.getElem_toArray, List.getElem_cons_succ, List.getElem_cons_zero, List.setIfInBounds_toArray, List.set_cons_zero, List.set_cons_succ])
            refine wpAnyH_take (i := 20) (v := undef) rfl (by kernel_rfl) (by kernel_rfl) (by kernel_rfl) (fun _ _ _ h => h) (Or.inr ⟨by rfl, rfl⟩) (by assumption) ?_
            (try simp only [Act.put, List.getElem_toArray, List.getElem_cons_succ, List.getElem_cons_zero, List.setIfInBounds_toArray, List.set_cons_zero, List.set_cons_succ])
            refine wpAnyH_take (i := 21) (v := undef) rfl (by kernel_rfl) (by kernel_rfl) (by kernel_rfl) (fun _ _ _ h => h) (Or.inr ⟨by rfl, rfl⟩) (by assumption) ?_
            (try simp only [Act.put, List.getElem_toArray, List.getElem_cons_succ, List.getElem_cons_zero, List.setIfInBounds_toArray, List.set_cons_zero, List.set_cons_succ])
            refine wpAnyH_take (i := 22) (v := undef) rfl (by kernel_rfl) (by kernel_rfl) (by kernel_rfl) (fun _ _ _ h => h) (Or.inr ⟨by rfl, rfl⟩) (by assumption) ?_
            (try simp only [Act.put, List.getElem_toArray, List.getElem_cons_succ, List.getElem_cons_zero, List.setIfInBounds_toArray, List.set_cons_zero, List.set_cons_succ])
            refine wpAnyH_take (i := 23) (v := undef) rfl (by kernel_rfl) (by kernel_rfl) (by kernel_rfl) (fun _ _ _ h => h) (Or.inr ⟨by rfl, rfl⟩) (by assumption) ?_
            (try simp only [Act.put, List.getElem_toArray, List.getElem_cons_succ, List.getElem_cons_zero, List.setIfInBounds_toArray, List.set_cons_zero, List.set_cons_succ])
            refine wpAnyH_take (i := 24) (v := undef) rfl (by kernel_rfl) (by kernel_rfl) (by kernel_rfl) (fun _ _ _ h => h) (Or.inr ⟨by rfl, rfl⟩) (by assumption) ?_
            (try simp only [Act.put, List.getElem_toArray, List.getElem_cons_succ, List.getElem_cons_zero, List.setIfInBounds_toArray, List.set_cons_zero, List.set_cons_succ])
            refine wpAnyH_take (i := 25) (v := undef) rfl (by kernel_rfl) (by kernel_rfl) (by kernel_rfl) (fun _ _ _ h => h) (Or.inr ⟨by rfl, rfl⟩) (by assumption) ?_
            (try simp only [Act.put, List.getElem_toArray, List.getElem_cons_succ, List.getElem_cons_zero, List.setIfInBounds_toArray, List.set_cons_zero, List.set_cons_succ])
            refine wpAnyH_take (i := 26) (v := undef) rfl (by kernel_rfl) (by kernel_rfl) (by kernel_rfl) (fun _ _ _ h => h) (Or.inr ⟨by rfl, rfl⟩) (by assumption) ?_
            (try simp only [Act.put, List.getElem_toArray, List.getElem_cons_succ, List.getElem_cons_zero, List.setIfInBounds_toArray, List.set_cons_zero, List.set_cons_succ])
            refine wpAnyH_take (i := 27) (v := undef) rfl (by kernel_rfl) (by kernel_rfl) (by kernel_rfl) (fun _ _ _ h => h) (Or.inr ⟨by rfl, rfl⟩) (by assumption) ?_
            (try simp only [Act.put, List.getElem_toArray, List.getElem_cons_succ, List.getElem_cons_zero, List.setIfInBounds_toArray, List.set_cons_zero, List.set_cons_succ])
            refine wpAnyH_take (i := 28) (v := undef) rfl (by kernel_rfl) (by kernel_rfl) (by kernel_rfl) (fun _ _ _ h => h) (Or.inr ⟨by rfl, rfl⟩) (by assumption) ?_
            (try simp only [Act.put, List.getElem_toArray, List.getElem_cons_succ, List.getElem_cons_zero, List.setIfInBounds_toArray, List.set_cons_zero, List.set_cons_succ])
            refine wpAnyH_take (i := 29) (v := undef) rfl (by kernel_rfl) (by kernel_rfl) (by kernel_rfl) (fun _ _ _ h => h) (Or.inr ⟨by rfl, rfl⟩) (by assumption) ?_
            (try simp only [Act.put, List.getElem_toArray, List.getElem_cons_succ, List.getElem_cons_zero, List.setIfInBounds_toArray, List.set_cons_zero, List.set_cons_succ])
            refine wpAnyH_take (i := 30) (v := undef) rfl (by kernel_rfl) (by kernel_rfl) (by kernel_rfl) (fun _ _ _ h => h) (Or.inr ⟨by rfl, rfl⟩) (by assumption) ?_
            (try simp only [Act.put, List.getElem_toArray, List.getElem_cons_succ, List.getElem_cons_zero, List.setIfInBounds_toArray, List.set_cons_zero, List.set_cons_succ])
            refine wpAnyH_take (i := 31) (v := undef) rfl (by kernel_rfl) (by kernel_rfl) (by kernel_rfl) (fun _ _ _ h => h) (Or.inr ⟨by rfl, rfl⟩) (by assumption) ?_
            (try simp only [Act.put, List.getElem_toArray, List.getElem_cons_succ, List.getElem_cons_zero, List.setIfInBounds_toArray, List.set_cons_zero, List.set_cons_succ])
            refine wpAnyH_take (i := 32) (v := undef) rfl (by kernel_rfl) (by kernel_rfl) (by kernel_rfl) (fun _ _ _ h => h) (Or.inr ⟨by rfl, rfl⟩) (by assumption) ?_
            (try simp only [Act.put, List.getElem_toArray, List.getElem_cons_succ, List.getElem_cons_zero, List.setIfInBounds_toArray, List.set_cons_zero, List.set_cons_succ])
            refine wpAnyH_take (i := 33) (v := undef) rfl (by kernel_rfl) (by kernel_rfl) (by kernel_rfl) (fun _ _ _ h => h) (Or.inr ⟨by rfl, rfl⟩) (by assumption) ?_
            (try simp only [Act.put, List.getElem_toArray, List.getElem_cons_succ, List.getElem_cons_zero, List.setIfInBounds_toArray, List.set_cons_zero, List.set_cons_succ])
            refine wpAnyH_take (i := 34) (v := undef) rfl (by kernel_rfl) (by kernel_rfl) (by kernel_rfl) (fun _ _ _ h => h) (Or.inr ⟨by rfl, rfl⟩) (by assumption) ?_
            (try simp only [Act.put, List.getElem_toArray, List.getElem_cons_succ, List.getElem_cons_zero, List.setIfInBounds_toArray, List.set_cons_zero, List.set_cons_succ])
            refine wpAnyH_take (i := 35) (v := undef) rfl (by kernel_rfl) (by kernel_rfl) (by kernel_rfl) (fun _ _ _ h => h) (Or.inr ⟨by rfl, rfl⟩) (by assumption) ?_
            (try simp only [Act.put, List.getElem_toArray, List.getElem_cons_succ, List.getElem_cons_zero, List.setIfInBounds_toArray, List.set_cons_zero, List.set_cons_succ])
            refine wpAnyH_take (i := 36) (v := undef) rfl (by kernel_rfl) (by kernel_rfl) (by kernel_rfl) (fun _ _ _ h => h) (Or.inr ⟨by rfl, rfl⟩) (by assumption) ?_
            (try simp only [Act.put, List.getElem_toArray, List.getElem_cons_succ, List.getElem_cons_zero, List.setIfInBounds_toArray, List.set_cons_zero, List.set_cons_succ])
            refine wpAnyH_take (i := 37) (v := undef) rfl (by kernel_rfl) (by kernel_rfl) (by kernel_rfl) (fun _ _ _ h => h) (Or.inr ⟨by rfl, rfl⟩) (by assumption) ?_
            (try simp only [Act.put, List.getElem_toArray, List.getElem_cons_succ, List.getElem_cons_zero, List.setIfInBounds_toArray, List.set_cons_zero, List.set_cons_succ])
            refine wpAnyH_take (i := 38) (v := ?_) rfl (by kernel_rfl) (by kernel_rfl) (by kernel_rfl) (fun _ _ _ h => h) (Or.inl ⟨by rfl, ?_⟩) (by assumption) ?_
            rotate_left 1
            focus (intro w hSw; (try dsimp only at hSw); go_simp; (try with_reducible rfl))
            (try simp only [Act.put, List.getElem_toArray, List.getElem_cons_succ, List.getElem_cons_zero, List.setIfInBounds_toArray, List.set_cons_zero, List.set_cons_succ])
            refine wpAnyH_done (by kernel_rfl) ?_ _
            have hfq := hf9.drew
            clear hgt hgt' hdl
            generalize w9.drew = wq at *
            by_cases hx1 : x = 1
            · subst hx1
              have hmt := HMT.out (by first | rfl | trivial)
              have HMN := Lib.hid (fun w9 (h : Frm0 w8 w9) => met_to (t := c.tenant) (ky := c.key) (e := c.epoch) (p := c.phase) (Sl.of_own (owns_frm0 HR8.out h)) hmt)
              obtain ⟨r0, r1, r2, r3, r4, r5⟩ := Bk.c6 (hfq.blk HB8.out (fun h => h))
              obtain ⟨p0, p1, p2, p3, p4, p5, p6⟩ := Bk.c7 (hfq.blk HB7.out (fun h => h))
              clear hmt
              go_wp2_with fail
              refine (HMN.out _ hfq).mono ?_
              rintro e w20 ⟨rfl, hf20⟩
              have hfq2 := hfq.trans hf20
              go_wp2_with fail
              go_roundw
              case rel => exact ⟨k + 1, s', u5, by omega, by go_num, (HA8.out.frm0 hfq2).more (show 2 * k + 2 ≤ 2 * (k + 1) by omega), owns_frm0 HR8.out hfq2, by omega, HSEP8.out, HF8.out.trans hfq2⟩
              case measure => simp [intOf]; omega
            · have dx : (x == 1) = false := beq_eq_false_iff_ne.2 hx1
              obtain ⟨r0, r1, r2, r3, r4, r5⟩ := Bk.c6 (hfq.blk HB8.out (fun h => h))
              go_wp2_with fail
              go_roundw
              case rel => exact ⟨k + 1, s', u5, by omega, by go_num, (HA8.out.frm0 hfq).more (show 2 * k + 2 ≤ 2 * (k + 1) by omega), owns_frm0 HR8.out hfq, by omega, HSEP8.out, HF8.out.trans hfq⟩
              case measure => simp [intOf]; omega
          · have hap : s'.ef = s.ef ++ [c] ∧ x = 1 ∧ met s.ef c.tenant c.key c.epoch c.phase = false := by
              rcases HCE.out with ⟨h, _⟩ | ⟨h, h2, h3⟩
              · exact absurd (by rw [h]) hgr
              · exact ⟨h, h2, h3⟩
            obtain ⟨hap1, rfl, hap2⟩ := hap
            have hl1 : s'.ef.length = s.ef.length + 1 := by rw [hap1]; simp
            have hgt : decide ((s.ef.length : Int) < (s'.ef.length : Int)) = true := decide_eq_true (by omega)
            have hgt' : (s.ef.length : Int) < (s'.ef.length : Int) := by omega
            have hgt2 : decide ((s.ef.length : Int) + 1 < (s'.ef.length : Int)) = false := decide_eq_false (by omega)
            have hgt2' : ¬ (s.ef.length : Int) + 1 < (s'.ef.length : Int) := by omega
            have HQ := Lib.hid (show ∀ wz, Frm0 w8 wz → wz.cell? ⟨RB, 5, none⟩ = some (.int .i64 1) ∧ wz.cell? ⟨D + 1, 0, none⟩ = some (.int .i64 c.tenant) ∧ wz.cell? ⟨D + 1, 1, none⟩ = some (.string c.key) ∧ wz.cell? ⟨D + 1, 2, none⟩ = some (.int .i64 c.epoch) ∧ wz.cell? ⟨D + 1, 3, none⟩ = some (.int .i64 c.phase) ∧ wz.cell? ⟨D + 1, 4, none⟩ = some (.int .i64 c.token) ∧ wz.cell? ⟨D + 1, 5, none⟩ = some (.string c.name) ∧ wz.cell? ⟨D + 1, 6, none⟩ = some (.string c.body) ∧
                wz.cell? ⟨g8, s.ef.length * 7, none⟩ = some (.int .i64 c.tenant) ∧ wz.cell? ⟨g8, s.ef.length * 7 + 1, none⟩ = some (.string c.key) ∧ wz.cell? ⟨g8, s.ef.length * 7 + 2, none⟩ = some (.int .i64 c.epoch) ∧ wz.cell? ⟨g8, s.ef.length * 7 + 3, none⟩ = some (.int .i64 c.phase) ∧ wz.cell? ⟨g8, s.ef.length * 7 + 4, none⟩ = some (.int .i64 c.token) ∧ wz.cell? ⟨g8, s.ef.length * 7 + 5, none⟩ = some (.string c.name) ∧ wz.cell? ⟨g8, s.ef.length * 7 + 6, none⟩ = some (.string c.body) from fun wz hz => by
              obtain ⟨r0, r1, r2, r3, r4, r5⟩ := Bk.c6 (hz.blk HB8.out (fun h => h))
              obtain ⟨p0, p1, p2, p3, p4, p5, p6⟩ := Bk.c7 (hz.blk HB7.out (fun h => h))
              have hgg := owns_range (f := Ca.cells) (l := s'.ef) (HR8.out) (fun _ => rfl) rfl s.ef.length (by omega)
              have hlast : s'.ef[s.ef.length]'(by omega) = c := by simp [hap1]
              rw [hlast] at hgg
              have hg0 := hz.cell (hgg 0 _ rfl) (fun h => h)
              exact ⟨r5, p0, p1, p2, p3, p4, p5, p6, hg0, hz.cell (hgg 1 _ rfl) (fun h => h), hz.cell (hgg 2 _ rfl) (fun h => h), hz.cell (hgg 3 _ rfl) (fun h => h), hz.cell (hgg 4 _ rfl) (fun h => h), hz.cell (hgg 5 _ rfl) (fun h => h), hz.cell (hgg 6 _ rfl) (fun h => h)⟩)
            have hwr1 : IntKind.i64.wrap ((s.ef.length : Int) + 1) = (s.ef.length : Int) + 1 := IntWalk.i64_in _ (by omega)
            have hgtN : s.ef.length < s'.ef.length := by omega
            have hgtD : decide (s.ef.length < s'.ef.length) = true := decide_eq_true hgtN
            have hgtM : ¬ s.ef.length + 1 < s'.ef.length := by omega
            have hgtE : decide (s.ef.length + 1 < s'.ef.length) = false := decide_eq_false hgtM
            have HNE := Lib.hid (fun w => ne_ca c w)
            have HMW := Lib.hid (fun wz (h : Frm0 w8 wz) => met_to (t := c.tenant) (ky := c.key) (e := c.epoch) (p := c.phase) (HW8.out.frm0 h) hap2)
            have hst := hf9.drew
            clear hap1 hap2 hl1 hgr
            refine wp_region_held_drew (S := fun w9 => Frm0 w8 w9) (by kernel_rfl) (hst) (fun hHeld => ?_)
            skip
            refine wpAnyH_take (i := 0) (v := ?_) rfl (by kernel_rfl) (by kernel_rfl) (by kernel_rfl) (fun _ _ _ h => h) (Or.inl ⟨by rfl, ?_⟩) (by assumption) ?_
            rotate_left 1
            focus (intro w hSw; (try dsimp only at hSw); go_simp; (try with_reducible rfl))
            (try simp only [Act.put, List.getElem_toArray, List.getElem_cons_succ, List.getElem_cons_zero, List.setIfInBounds_toArray, List.set_cons_zero, List.set_cons_succ])
            refine wpAnyH_take (i := 1) (v := ?_) rfl (by kernel_rfl) (by kernel_rfl) (by kernel_rfl) (fun _ _ _ h => h) (Or.inl ⟨by rfl, ?_⟩) (by assumption) ?_
            rotate_left 1
            focus (intro w hSw; (try dsimp only at hSw); go_simp; (try with_reducible rfl))
            (try simp only [Act.put, List.getElem_toArray, List.getElem_cons_succ, List.getElem_cons_zero, List.setIfInBounds_toArray, List.set_cons_zero, List.set_cons_succ])
            refine wpAnyH_take (i := 2) (v := ?_) rfl (by kernel_rfl) (by kernel_rfl) (by kernel_rfl) (fun _ _ _ h => h) (Or.inl ⟨by rfl, ?_⟩) (by assumption) ?_
            rotate_left 1
            focus (intro w hSw; (try dsimp only at hSw); go_simp; (try with_reducible rfl))
            (try simp only [Act.put, List.getElem_toArray, List.getElem_cons_succ, List.getElem_cons_zero, List.setIfInBounds_toArray, List.set_cons_zero, List.set_cons_succ])
            refine wpAnyH_take (i := 3) (v := ?_) rfl (by kernel_rfl) (by kernel_rfl) (by kernel_rfl) (fun _ _ _ h => h) (Or.inl ⟨by rfl, ?_⟩) (by assumption) ?_
            rotate_left 1
            focus (intro w hSw; (try dsimp only at hSw); go_simp; (try with_reducible rfl))
            (try simp only [Act.put, List.getElem_toArray, List.getElem_cons_succ, List.getElem_cons_zero, List.setIfInBounds_toArray, List.set_cons_zero, List.set_cons_succ])
            refine wpAnyH_take (i := 4) (v := ?_) rfl (by kernel_rfl) (by kernel_rfl) (by kernel_rfl) (fun _ _ _ h => h) (Or.inl ⟨by rfl, ?_⟩) (by assumption) ?_
            rotate_left 1
            focus (intro w hSw; (try dsimp only at hSw); go_simp; (try with_reducible rfl))
            (try simp only [Act.put, List.getElem_toArray, List.getElem_cons_succ, List.getElem_cons_zero, List.setIfInBounds_toArray, List.set_cons_zero, List.set_cons_succ])
            refine wpAnyH_take (i := 5) (v := ?_) rfl (by kernel_rfl) (by kernel_rfl) (by kernel_rfl) (fun _ _ _ h => h) (Or.inl ⟨by rfl, ?_⟩) (by assumption) ?_
            rotate_left 1
            focus (intro w hSw; (try dsimp only at hSw); go_simp; (try with_reducible rfl))
            (try simp only [Act.put, List.getElem_toArray, List.getElem_cons_succ, List.getElem_cons_zero, List.setIfInBounds_toArray, List.set_cons_zero, List.set_cons_succ])
            refine wpAnyH_take (i := 6) (v := ?_) rfl (by kernel_rfl) (by kernel_rfl) (by kernel_rfl) (fun _ _ _ h => h) (Or.inl ⟨by rfl, ?_⟩) (by assumption) ?_
            rotate_left 1
            focus (intro w hSw; (try dsimp only at hSw); go_simp; (try with_reducible rfl))
            (try simp only [Act.put, List.getElem_toArray, List.getElem_cons_succ, List.getElem_cons_zero, List.setIfInBounds_toArray, List.set_cons_zero, List.set_cons_succ])
            refine wpAnyH_take (i := 7) (v := ?_) rfl (by kernel_rfl) (by kernel_rfl) (by kernel_rfl) (fun _ _ _ h => h) (Or.inl ⟨by rfl, ?_⟩) (by assumption) ?_
            rotate_left 1
            focus (intro w hSw; (try dsimp only at hSw); go_simp; (try with_reducible rfl))
            (try simp only [Act.put, List.getElem_toArray, List.getElem_cons_succ, List.getElem_cons_zero, List.setIfInBounds_toArray, List.set_cons_zero, List.set_cons_succ])
            refine wpAnyH_take (i := 8) (v := ?_) rfl (by kernel_rfl) (by kernel_rfl) (by kernel_rfl) (fun _ _ _ h => h) (Or.inl ⟨by rfl, ?_⟩) (by assumption) ?_
            rotate_left 1
            focus (intro w hSw; (try dsimp only at hSw); go_simp; (try with_reducible rfl))
            (try simp only [Act.put, List.getElem_toArray, List.getElem_cons_succ, List.getElem_cons_zero, List.setIfInBounds_toArray, List.set_cons_zero, List.set_cons_succ])
            refine wpAnyH_take (i := 9) (v := ?_) rfl (by kernel_rfl) (by kernel_rfl) (by kernel_rfl) (fun _ _ _ h => h) (Or.inl ⟨by rfl, ?_⟩) (by assumption) ?_
            rotate_left 1
            focus (intro w hSw; (try dsimp only at hSw); go_simp; (try with_reducible rfl))
            (try simp only [Act.put, List.getElem_toArray, List.getElem_cons_succ, List.getElem_cons_zero, List.setIfInBounds_toArray, List.set_cons_zero, List.set_cons_succ])
            refine wpAnyH_take (i := 10) (v := ?_) rfl (by kernel_rfl) (by kernel_rfl) (by kernel_rfl) (fun _ _ _ h => h) (Or.inl ⟨by rfl, ?_⟩) (by assumption) ?_
            rotate_left 1
            focus (intro w hSw; (try dsimp only at hSw); go_simp; (try with_reducible rfl))
            (try simp only [Act.put, List.getElem_toArray, List.getElem_cons_succ, List.getElem_cons_zero, List.setIfInBounds_toArray, List.set_cons_zero, List.set_cons_succ])
            refine wpAnyH_take (i := 11) (v := ?_) rfl (by kernel_rfl) (by kernel_rfl) (by kernel_rfl) (fun _ _ _ h => h) (Or.inl ⟨by rfl, ?_⟩) (by assumption) ?_
            rotate_left 1
            focus (intro w hSw; (try dsimp only at hSw); go_simp; (try with_reducible rfl))
            (try simp only [Act.put, List.getElem_toArray, List.getElem_cons_succ, List.getElem_cons_zero, List.setIfInBounds_toArray, List.set_cons_zero, List.set_cons_succ])
            refine wpAnyH_take (i := 12) (v := ?_) rfl (by kernel_rfl) (by kernel_rfl) (by kernel_rfl) (fun _ _ _ h => h) (Or.inl ⟨by rfl, ?_⟩) (by assumption) ?_
            rotate_left 1
            focus (intro w hSw; (try dsimp only at hSw); go_simp; (try with_reducible rfl))
            (try simp only [Act.put, List.getElem_toArray, List.getElem_cons_succ, List.getElem_cons_zero, List.setIfInBounds_toArray, List.set_cons_zero, List.set_cons_succ])
            refine wpAnyH_take (i := 13) (v := ?_) rfl (by kernel_rfl) (by kernel_rfl) (by kernel_rfl) (fun _ _ _ h => h) (Or.inl ⟨by rfl, ?_⟩) (by assumption) ?_
            rotate_left 1
            focus (intro w hSw; (try dsimp only at hSw); go_simp; (try with_reducible rfl))
            (try simp only [Act.put, List.getElem_toArray, List.getElem_cons_succ, List.getElem_cons_zero, List.setIfInBounds_toArray, List.set_cons_zero, List.set_cons_succ])
            refine wpAnyH_take (i := 14) (v := ?_) rfl (by kernel_rfl) (by kernel_rfl) (by kernel_rfl) (fun _ _ _ h => h) (Or.inl ⟨by rfl, ?_⟩) (by assumption) ?_
            rotate_left 1
            focus (intro w hSw; (try dsimp only at hSw); have q0 := HQ.out _ hSw; obtain ⟨q5, p0, p1, p2, p3, p4, p5, p6, z0, z1, z2, z3, z4, z5, z6⟩ := q0; go_simp; (try with_reducible rfl))
            (try simp only [Act.put, List.getElem_toArray, List.getElem_cons_succ, List.getElem_cons_zero, List.setIfInBounds_toArray, List.set_cons_zero, List.set_cons_succ])
            refine wpAnyH_take (i := 15) (v := ?_) rfl (by kernel_rfl) (by kernel_rfl) (by kernel_rfl) (fun _ _ _ h => h) (Or.inl ⟨by rfl, ?_⟩) (by assumption) ?_
            rotate_left 1
            focus (intro w hSw; (try dsimp only at hSw); go_simp; (try with_reducible rfl))
            (try simp only [Act.put, List.getElem_toArray, List.getElem_cons_succ, List.getElem_cons_zero, List.setIfInBounds_toArray, List.set_cons_zero, List.set_cons_succ])
            refine wpAnyH_take (i := 16) (v := ?_) rfl (by kernel_rfl) (by kernel_rfl) (by kernel_rfl) (fun _ _ _ h => h) (Or.inl ⟨by rfl, ?_⟩) (by assumption) ?_
            rotate_left 1
            focus (intro w hSw; (try dsimp only at hSw); go_simp; (try with_reducible rfl))
            (try simp only [Act.put, List.getElem_toArray, List.getElem_cons_succ, List.getElem_cons_zero, List.setIfInBounds_toArray, List.set_cons_zero, List.set_cons_succ])
            refine wpAnyH_take (i := 17) (v := ?_) rfl (by kernel_rfl) (by kernel_rfl) (by kernel_rfl) (fun _ _ _ h => h) (Or.inl ⟨by rfl, ?_⟩) (by assumption) ?_
            rotate_left 1
            focus (intro w hSw; (try dsimp only at hSw); go_simp; (try with_reducible rfl))
            (try simp only [Act.put, List.getElem_toArray, List.getElem_cons_succ, List.getElem_cons_zero, List.setIfInBounds_toArray, List.set_cons_zero, List.set_cons_succ])
            refine wpAnyH_take (i := 18) (v := ?_) rfl (by kernel_rfl) (by kernel_rfl) (by kernel_rfl) (fun _ _ _ h => h) (Or.inl ⟨by rfl, ?_⟩) (by assumption) ?_
            rotate_left 1
            focus (intro w hSw; (try dsimp only at hSw); go_simp; (try with_reducible rfl))
            (try simp only [Act.put, List.getElem_toArray, List.getElem_cons_succ, List.getElem_cons_zero, List.setIfInBounds_toArray, List.set_cons_zero, List.set_cons_succ])
            refine wpAnyH_take (i := 19) (v := ?_) rfl (by kernel_rfl) (by kernel_rfl) (by kernel_rfl) (fun _ _ _ h => h) (Or.inl ⟨by rfl, ?_⟩) (by assumption) ?_
            rotate_left 1
            focus (intro w hSw; (try dsimp only at hSw); go_simp; (try with_reducible rfl))
            (try simp only [Act.put, List.getElem_toArray, List.getElem_cons_succ, List.getElem_cons_zero, List.setIfInBounds_toArray, List.set_cons_zero, List.set_cons_succ])
            refine wpAnyH_take (i := 20) (v := ?_) rfl (by kernel_rfl) (by kernel_rfl) (by kernel_rfl) (fun _ _ _ h => h) (Or.inl ⟨by rfl, ?_⟩) (by assumption) ?_
            rotate_left 1
            focus (intro w hSw; (try dsimp only at hSw); go_simp; (try with_reducible rfl))
            (try simp only [Act.put, List.getElem_toArray, List.getElem_cons_succ, List.getElem_cons_zero, List.setIfInBounds_toArray, List.set_cons_zero, List.set_cons_succ])
            refine wpAnyH_take (i := 21) (v := ?_) rfl (by kernel_rfl) (by kernel_rfl) (by kernel_rfl) (fun _ _ _ h => h) (Or.inl ⟨by rfl, ?_⟩) (by assumption) ?_
            rotate_left 1
            focus (intro w hSw; (try dsimp only at hSw); go_simp; (try with_reducible rfl))
            (try simp only [Act.put, List.getElem_toArray, List.getElem_cons_succ, List.getElem_cons_zero, List.setIfInBounds_toArray, List.set_cons_zero, List.set_cons_succ])
            refine wpAnyH_take (i := 22) (v := ?_) rfl (by kernel_rfl) (by kernel_rfl) (by kernel_rfl) (fun _ _ _ h => h) (Or.inl ⟨by rfl, ?_⟩) (by assumption) ?_
            rotate_left 1
            focus (intro w hSw; (try dsimp only at hSw); have q0 := HQ.out _ hSw; obtain ⟨q5, p0, p1, p2, p3, p4, p5, p6, z0, z1, z2, z3, z4, z5, z6⟩ := q0; go_simp; (try with_reducible rfl))
            (try simp only [Act.put, List.getElem_toArray, List.getElem_cons_succ, List.getElem_cons_zero, List.setIfInBounds_toArray, List.set_cons_zero, List.set_cons_succ])
            refine wpAnyH_take (i := 23) (v := ?_) rfl (by kernel_rfl) (by kernel_rfl) (by kernel_rfl) (fun _ _ _ h => h) (Or.inl ⟨by rfl, ?_⟩) (by assumption) ?_
            rotate_left 1
            focus (intro w hSw; (try dsimp only at hSw); have q0 := HQ.out _ hSw; obtain ⟨q5, p0, p1, p2, p3, p4, p5, p6, z0, z1, z2, z3, z4, z5, z6⟩ := q0; go_simp; (try with_reducible rfl))
            (try simp only [Act.put, List.getElem_toArray, List.getElem_cons_succ, List.getElem_cons_zero, List.setIfInBounds_toArray, List.set_cons_zero, List.set_cons_succ])
            refine wpAnyH_take (i := 24) (v := ?_) rfl (by kernel_rfl) (by kernel_rfl) (by kernel_rfl) (fun _ _ _ h => h) (Or.inl ⟨by rfl, ?_⟩) (by assumption) ?_
            rotate_left 1
            focus (intro w hSw; (try dsimp only at hSw); have qn := HNE.out; go_simp; (try with_reducible rfl))
            (try simp only [Act.put, List.getElem_toArray, List.getElem_cons_succ, List.getElem_cons_zero, List.setIfInBounds_toArray, List.set_cons_zero, List.set_cons_succ])
            refine wpAnyH_take (i := 25) (v := ?_) rfl (by kernel_rfl) (by kernel_rfl) (by kernel_rfl) (fun _ _ _ h => h) (Or.inl ⟨by rfl, ?_⟩) (by assumption) ?_
            rotate_left 1
            focus (intro w hSw; (try dsimp only at hSw); go_simp; (try with_reducible rfl))
            (try simp only [Act.put, List.getElem_toArray, List.getElem_cons_succ, List.getElem_cons_zero, List.setIfInBounds_toArray, List.set_cons_zero, List.set_cons_succ])
            refine wpAnyH_take (i := 26) (v := ?_) rfl (by kernel_rfl) (by kernel_rfl) (by kernel_rfl) (fun _ _ _ h => h) (Or.inl ⟨by rfl, ?_⟩) (by assumption) ?_
            rotate_left 1
            focus (intro w hSw; (try dsimp only at hSw); go_simp; (try with_reducible rfl))
            (try simp only [Act.put, List.getElem_toArray, List.getElem_cons_succ, List.getElem_cons_zero, List.setIfInBounds_toArray, List.set_cons_zero, List.set_cons_succ])
            refine wpAnyH_take (i := 27) (v := ?_) rfl (by kernel_rfl) (by kernel_rfl) (by kernel_rfl) (fun _ _ _ h => h) (Or.inl ⟨by rfl, ?_⟩) (by assumption) ?_
            rotate_left 1
            focus (intro w hSw; (try dsimp only at hSw); go_simp; (try with_reducible rfl))
            (try simp only [Act.put, List.getElem_toArray, List.getElem_cons_succ, List.getElem_cons_zero, List.setIfInBounds_toArray, List.set_cons_zero, List.set_cons_succ])
            refine wpAnyH_take (i := 28) (v := ?_) rfl (by kernel_rfl) (by kernel_rfl) (by kernel_rfl) (fun _ _ _ h => h) (Or.inl ⟨by rfl, ?_⟩) (by assumption) ?_
            rotate_left 1
            focus (intro w hSw; (try dsimp only at hSw); go_simp; (try with_reducible rfl))
            (try simp only [Act.put, List.getElem_toArray, List.getElem_cons_succ, List.getElem_cons_zero, List.setIfInBounds_toArray, List.set_cons_zero, List.set_cons_succ])
            refine wpAnyH_take (i := 29) (v := ?_) rfl (by kernel_rfl) (by kernel_rfl) (by kernel_rfl) (fun _ _ _ h => h) (Or.inl ⟨by rfl, ?_⟩) (by assumption) ?_
            rotate_left 1
            focus (intro w hSw; (try dsimp only at hSw); have q0 := HQ.out _ hSw; obtain ⟨q5, p0, p1, p2, p3, p4, p5, p6, z0, z1, z2, z3, z4, z5, z6⟩ := q0; go_simp; (try with_reducible rfl))
            (try simp only [Act.put, List.getElem_toArray, List.getElem_cons_succ, List.getElem_cons_zero, List.setIfInBounds_toArray, List.set_cons_zero, List.set_cons_succ])
            refine wpAnyH_take (i := 30) (v := ?_) rfl (by kernel_rfl) (by kernel_rfl) (by kernel_rfl) (fun _ _ _ h => h) (Or.inl ⟨by rfl, ?_⟩) (by assumption) ?_
            rotate_left 1
            focus (intro w hSw; (try dsimp only at hSw); go_simp; (try with_reducible rfl))
            (try simp only [Act.put, List.getElem_toArray, List.getElem_cons_succ, List.getElem_cons_zero, List.setIfInBounds_toArray, List.set_cons_zero, List.set_cons_succ])
            refine wpAnyH_take (i := 31) (v := ?_) rfl (by kernel_rfl) (by kernel_rfl) (by kernel_rfl) (fun _ _ _ h => h) (Or.inl ⟨by rfl, ?_⟩) (by assumption) ?_
            rotate_left 1
            focus (intro w hSw; (try dsimp only at hSw); have q0 := HQ.out _ hSw; obtain ⟨q5, p0, p1, p2, p3, p4, p5, p6, z0, z1, z2, z3, z4, z5, z6⟩ := q0; go_simp; (try with_reducible rfl))
            (try simp only [Act.put, List.getElem_toArray, List.getElem_cons_succ, List.getElem_cons_zero, List.setIfInBounds_toArray, List.set_cons_zero, List.set_cons_succ])
            refine wpAnyH_take (i := 32) (v := ?_) rfl (by kernel_rfl) (by kernel_rfl) (by kernel_rfl) (fun _ _ _ h => h) (Or.inl ⟨by rfl, ?_⟩) (by assumption) ?_
            rotate_left 1
            focus (intro w hSw; (try dsimp only at hSw); go_simp; (try with_reducible rfl))
            (try simp only [Act.put, List.getElem_toArray, List.getElem_cons_succ, List.getElem_cons_zero, List.setIfInBounds_toArray, List.set_cons_zero, List.set_cons_succ])
            refine wpAnyH_take (i := 33) (v := ?_) rfl (by kernel_rfl) (by kernel_rfl) (by kernel_rfl) (fun _ _ _ h => h) (Or.inl ⟨by rfl, ?_⟩) (by assumption) ?_
            rotate_left 1
            focus (intro w hSw; (try dsimp only at hSw); have q0 := HQ.out _ hSw; obtain ⟨q5, p0, p1, p2, p3, p4, p5, p6, z0, z1, z2, z3, z4, z5, z6⟩ := q0; go_simp; (try with_reducible rfl))
            (try simp only [Act.put, List.getElem_toArray, List.getElem_cons_succ, List.getElem_cons_zero, List.setIfInBounds_toArray, List.set_cons_zero, List.set_cons_succ])
            refine wpAnyH_take (i := 34) (v := ?_) rfl (by kernel_rfl) (by kernel_rfl) (by kernel_rfl) (fun _ _ _ h => h) (Or.inl ⟨by rfl, ?_⟩) (by assumption) ?_
            rotate_left 1
            focus (intro w hSw; (try dsimp only at hSw); go_simp; (try with_reducible rfl))
            (try simp only [Act.put, List.getElem_toArray, List.getElem_cons_succ, List.getElem_cons_zero, List.setIfInBounds_toArray, List.set_cons_zero, List.set_cons_succ])
            refine wpAnyH_take (i := 35) (v := ?_) rfl (by kernel_rfl) (by kernel_rfl) (by kernel_rfl) (fun _ _ _ h => h) (Or.inl ⟨by rfl, ?_⟩) (by assumption) ?_
            rotate_left 1
            focus (intro w hSw; (try dsimp only at hSw); have q0 := HQ.out _ hSw; obtain ⟨q5, p0, p1, p2, p3, p4, p5, p6, z0, z1, z2, z3, z4, z5, z6⟩ := q0; go_simp; (try with_reducible rfl))
            (try simp only [Act.put, List.getElem_toArray, List.getElem_cons_succ, List.getElem_cons_zero, List.setIfInBounds_toArray, List.set_cons_zero, List.set_cons_succ])
            refine wpAnyH_ready (rs := [36]) (by kernel_rfl) (by simp) ?_
            refine AllReadyH.cons rfl (fun K hK => ?_) AllReadyH.nil
            go_simp
            refine (HMW.out _ (by assumption)).mono ?_
            rintro e w19 ⟨rfl, hf19⟩
            (try go_wp2_with fail)
            refine hK.out _ _ ?_ (fun hHeld => ?_)
            focus (exact Frm.trans (by assumption) hf19)
            clear hK K
            (try simp only [Act.put, List.getElem_toArray, List.getElem_cons_succ, List.getElem_cons_zero, List.setIfInBounds_toArray, List.set_cons_zero, List.set_cons_succ])
            refine wpAnyH_take (i := 37) (v := ?_) rfl (by kernel_rfl) (by kernel_rfl) (by kernel_rfl) (fun _ _ _ h => h) (Or.inl ⟨by rfl, ?_⟩) (by assumption) ?_
            rotate_left 1
            focus (intro w hSw; (try dsimp only at hSw); go_simp; (try with_reducible rfl))
            (try simp only [Act.put, List.getElem_toArray, List.getElem_cons_succ, List.getElem_cons_zero, List.setIfInBounds_toArray, List.set_cons_zero, List.set_cons_succ])
            refine wpAnyH_take (i := 38) (v := ?_) rfl (by kernel_rfl) (by kernel_rfl) (by kernel_rfl) (fun _ _ _ h => h) (Or.inl ⟨by rfl, ?_⟩) (by assumption) ?_
            rotate_left 1
            focus (intro w hSw; (try dsimp only at hSw); go_simp; (try with_reducible rfl))
            (try simp only [Act.put, List.getElem_toArray, List.getElem_cons_succ, List.getElem_cons_zero, List.setIfInBounds_toArray, List.set_cons_zero, List.set_cons_succ])
            refine wpAnyH_done (by kernel_rfl) ?_ _
            have hfq := (by assumption : Frm0 w8 _).trans hf19
            clear hgt hgt' hgt2 hgt2' hdl hgtN hgtD hgtM hgtE hwr1
            generalize w19 = wq at *
            have hmt := HMT.out (by first | rfl | trivial)
            have HMN := Lib.hid (fun w9 (h : Frm0 w8 w9) => met_to (t := c.tenant) (ky := c.key) (e := c.epoch) (p := c.phase) (Sl.of_own (owns_frm0 HR8.out h)) hmt)
            obtain ⟨r0, r1, r2, r3, r4, r5⟩ := Bk.c6 (hfq.blk HB8.out (fun h => h))
            obtain ⟨p0, p1, p2, p3, p4, p5, p6⟩ := Bk.c7 (hfq.blk HB7.out (fun h => h))
            clear hmt
            go_wp2_with fail
            refine (HMN.out _ hfq).mono ?_
            rintro e w20 ⟨rfl, hf20⟩
            have hfq2 := hfq.trans hf20
            go_wp2_with fail
            go_roundw
            case rel => exact ⟨k + 1, s', u5, by omega, by go_num, (HA8.out.frm0 hfq2).more (show 2 * k + 2 ≤ 2 * (k + 1) by omega), owns_frm0 HR8.out hfq2, by omega, HSEP8.out, HF8.out.trans hfq2⟩
            case measure => simp [intOf]; omega
    · obtain rfl : k = l.length := by omega
      go_wp2_with fail
      go_ret
      exact ⟨rfl, hF.below (fun _ _ h => h)⟩
end Bk25
end Go.Proofs.Yteokiiolchpndaa
