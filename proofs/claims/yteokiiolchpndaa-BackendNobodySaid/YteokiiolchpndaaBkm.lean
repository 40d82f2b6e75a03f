/- The walk of BackendRuns. -/
import Derived.Test.YteokiiolchpndaaBke
import Derived.Test.YteokiiolchpndaaBkf
import Derived.Test.YteokiiolchpndaaBkg
import Derived.Test.YteokiiolchpndaaBkl
namespace Go.Proofs.Yteokiiolchpndaa
open Go.RowKit Go.ChangeShapes Go.WideShapes Go.Maps
set_option linter.unusedVariables false
set_option linter.unusedSimpArgs false
set_option maxRecDepth 100000
namespace Bk25
theorem ne_reply (c : Ca) (x : Int) (w : World) : (binOp .neq 33 (.agg #[.int .i64 c.tenant, .string c.key, .int .i64 c.epoch, .int .i64 c.phase, .int .i64 c.token, .int .i64 x]) (.agg #[.int .i64 c.tenant, .string c.key, .int .i64 c.epoch, .int .i64 c.phase, .int .i64 c.token, .int .i64 x])).run Try.prog w = .ok (.bool false) w := by
  rw [run_neq_struct]
  simp [go_sem]
theorem seen_to {w : World} {b N : Nat} {v : Value} {s : St} {t : Int} {k : ByteArray} {e : Int} (hk : Kok t k e) (h : At w b v s N) {x1 : Int} {x2 : Bool} (hx : seenV (find s.ls t k e) = (x1, x2)) :
    Calls Try.prog 20 #[.pointer (some ⟨b + 2, 0, none⟩), .int .i64 t, .string k, .int .i64 e] w fun e w' => e = .returned (.tuple #[.int .i64 x1, .bool x2]) ∧ Frm0 w w' := seen_any hk h hx
theorem rdo_to {w : World} {rb : Nat} {v1 v2 : Value} {s s' : St} {x : Int} (c : Ca) (h : Rb w rb v1 v2 s) (hl1 : s.ls.length ≤ 1000) (hl2 : s.ef.length ≤ 1000) (hlt : 0 ≤ s.later ∧ s.later ≤ 1073741824) (hx : call s c = (s', x)) :
    Calls Try.prog 19 #[.pointer (some ⟨rb, 0, none⟩), .agg #[.int .i64 c.tenant, .string c.key, .int .i64 c.epoch, .int .i64 c.phase, .int .i64 c.token, .string c.name, .string c.body]] w fun e w' => e = .returned (.int .i64 x) ∧ ∃ u1 u2, Rb w' rb u1 u2 s' ∧ Frm (rfp rb v1 v2) w w' ∧ (u1.ownBlock = v1.ownBlock ∨ ∀ k, u1.ownBlock = some k → w.heap.size ≤ k) ∧ (u2.ownBlock = v2.ownBlock ∨ ∀ k, u2.ownBlock = some k → w.heap.size ≤ k) := by
  have := rdo_any c h hl1 hl2 hlt
  unfold RDo at this
  rw [hx] at this
  exact this
set_option maxHeartbeats 8000000 in
theorem bruns_walk (v : Value) (l : List KDeed) (w : World) (hs : Sl w v l.length (l.flatMap KDeed.cells)) (hg : ∀ a ∈ l, KDeed.Good a) :
    Calls Try.prog 5 #[v] w fun e w' => e = .returned (.bool true) ∧ Below w.heap.size w w' := by
  have hlen := hs.len
  by_cases h60 : 60 < l.length
  · obtain ⟨A, c, rfl⟩ := hs.form
    go_enter Try.func5, Try.ntmps5
    go_wp2_with fail
    refine (bawake _).mono ?_
    rintro e w1 ⟨rfl, hf1⟩
    go_wp2
    go_ret
    exact ⟨rfl, hf1.below (fun _ _ h => h)⟩
  have hcell : ∀ k (hk : k < l.length), ∃ b o c, v = .slice (some ⟨b, o, none⟩) l.length c ∧ w.rangeAt b (o + k * 9) (l[k]).cells := by
    intro k hk
    rcases hs with ⟨A, c, rfl, hn, _⟩ | ⟨b, o, c, rfl, h0, h1, h2, _, hc⟩
    · omega
    · exact ⟨b, o, c, rfl, deed_range hc k hk⟩
  obtain ⟨A, cp, rfl⟩ := hs.form
  have HC := Lib.hid hcell
  have HG := Lib.hid hg
  clear hcell hs hg
  go_enter Try.func5, Try.ntmps5
  go_wp2_with fail
  refine (bawake _).mono ?_
  rintro e w1 ⟨rfl, hf1⟩
  go_wp2_with fail
  refine (new_any _).mono ?_
  rintro e w2 ⟨rfl, hA, hf2⟩
  have hF2 := hf1.trans hf2
  have hbb : w.heap.size ≤ w1.heap.size := hf1.size
  have hrb : w1.heap.size + 2 < w2.heap.size := hA.lt
  generalize w1.heap.size = b at *
  clear hf1 hf2
  go_wp2_with fail
  have hal := (Frm.refl (fun _ => False) w2).alloc (.cells #[.slice none 0 0, .slice none 0 0, .int .i64 0] 44)
  have hA := hA.frm0 hal
  have hF2 := hF2.trans hal
  have hRb : Rb (w2.alloc (.cells #[.slice none 0 0, .slice none 0 0, .int .i64 0] 44)) w2.heap.size (.slice none 0 0) (.slice none 0 0) ⟨[], [], 0⟩ := ⟨Bk.new _ _, World.ownsRow_nil _ _ _ _, World.ownsRow_nil _ _ _ _, fun k hk => by cases hk⟩
  clear hal
  generalize w2.alloc (.cells #[.slice none 0 0, .slice none 0 0, .int .i64 0] 44) = w2a at *
  obtain ⟨rb, hrbe⟩ : ∃ rb, w2.heap.size = rb := ⟨_, rfl⟩
  rw [hrbe] at hrb hRb ⊢
  clear hrbe
  go_loopw [22] (fun i wr => ∃ (k : Nat) (s : St) (u v1 v2 : Value), k ≤ l.length ∧ i = .int .i64 k ∧ At wr b u s (2 * k) ∧ Rb wr rb v1 v2 s ∧ s.ls.length ≤ k ∧ s.ef.length ≤ k ∧ Hid (∀ k, fp b u k → ¬ rfp rb v1 v2 k) ∧ Frm0 w wr) (fun i _ => l.length - (intOf i).toNat)
  case atStart =>
    refine ⟨0, _, _, _, _, by omega, rfl, hA, hRb, by decide, by decide, Lib.hid (fun k hk => ?_), hF2⟩
    rintro (e | e | e)
    · rcases hk with h | h | h | h
      · omega
      · omega
      · omega
      · cases h
    · cases e
    · cases e
  case round =>
    clear hA hF2 hRb
    obtain ⟨k, s, u, v1, v2, hk, rfl, hA, hR, hll, hel, hsep, hF⟩ := hrel
    by_cases hlt : k < l.length
    · obtain ⟨b0, o0, c0, he, hrg⟩ := HC.out k hlt
      cases he
      have hrg : wr.rangeAt b0 (o0 + k * 9) (l[k]).cells := fun j x hx => hF.cell (hrg j x hx) (fun h => h)
      have hgd := HG.out (l[k]) (List.getElem_mem hlt)
      obtain ⟨c, hcc⟩ : ∃ c, (l[k]).call = c := ⟨_, rfl⟩
      obtain ⟨kd, hkd⟩ : ∃ kd, (l[k]).kind = kd := ⟨_, rfl⟩
      obtain ⟨n, hn⟩ : ∃ n, (l[k]).n = n := ⟨_, rfl⟩
      have hcells : (l[k]).cells = [.int .u8 kd, .int .i64 c.tenant, .string c.key, .int .i64 c.epoch, .int .i64 c.phase, .int .i64 c.token, .string c.name, .string c.body, .int .i64 n] := by rw [← hcc, ← hkd, ← hn]; rfl
      have hk8 := bounds_u8 (hkd ▸ hgd.kind)
      have hkok : Kok c.tenant c.key c.epoch := by have := hgd.call; rw [hcc] at this; exact ⟨this.tenant, this.key, this.epoch⟩
      have hpok : (Lit.int .i64 c.phase).wf = true := by have := hgd.call; rw [hcc] at this; exact this.phase
      rw [hcells] at hrg
      have HKOK := Lib.hid hkok
      have HPOK := Lib.hid hpok
      clear hgd hcells hkd hn hkok hpok hcc
      have hlb := hA.lt
      have HOWN := Lib.hid hA.own
      have hrbl := Bk.lt hR.blk
      go_upto_region 11 with (first
        | (refine wpList_load_mid rfl 30 (.tmp 24) rfl b0 (o0 + k * 9) rfl _ _ hrg Try.underlying30 rfl (by rw [iDd]; rfl) ?_))
      have hB7 := new_second wr (.cells #[.int .u8 kd, .int .i64 c.tenant, .string c.key, .int .i64 c.epoch, .int .i64 c.phase, .int .i64 c.token, .string c.name, .string c.body, .int .i64 n] 30) (.cells #[.int .i64 c.tenant, .string c.key, .int .i64 c.epoch, .int .i64 c.phase, .int .i64 c.token, .string c.name, .string c.body] 28)
      have hal3 := ((Frm.refl (fun _ => False) wr).alloc (.cells #[.int .u8 kd, .int .i64 c.tenant, .string c.key, .int .i64 c.epoch, .int .i64 c.phase, .int .i64 c.token, .string c.name, .string c.body, .int .i64 n] 30)).alloc (.cells #[.int .i64 c.tenant, .string c.key, .int .i64 c.epoch, .int .i64 c.phase, .int .i64 c.token, .string c.name, .string c.body] 28)
      have hB6 := Bk.alloc (Bk.new wr (.cells #[.int .u8 kd, .int .i64 c.tenant, .string c.key, .int .i64 c.epoch, .int .i64 c.phase, .int .i64 c.token, .string c.name, .string c.body, .int .i64 n] 30)) (.cells #[.int .i64 c.tenant, .string c.key, .int .i64 c.epoch, .int .i64 c.phase, .int .i64 c.token, .string c.name, .string c.body] 28)
      have hA3 := hA.frm0 hal3
      have hR3 := hR.frm0 hal3
      have hF3 := hF.trans hal3
      have hs3 := hal3.size
      have hwr := hF.size
      have hvl1 : ∀ g, v1.ownBlock = some g → g < wr.heap.size := fun g hg => (hR.r1.lt g hg).2
      have hvl2 : ∀ g, v2.ownBlock = some g → g < wr.heap.size := fun g hg => (hR.r2.lt g hg).2
      obtain ⟨m0, m1, m2, m3, m4, m5, m6, m7, m8⟩ := Bk.c9' hB6
      have HSEP := Lib.hid hsep.out
      have HVL := Lib.hid (And.intro hvl1 hvl2)
      clear hA hR hF hal3 hsep hrg hvl1 hvl2
      generalize (wr.alloc (.cells #[.int .u8 kd, .int .i64 c.tenant, .string c.key, .int .i64 c.epoch, .int .i64 c.phase, .int .i64 c.token, .string c.name, .string c.body, .int .i64 n] 30)).alloc (.cells #[.int .i64 c.tenant, .string c.key, .int .i64 c.epoch, .int .i64 c.phase, .int .i64 c.token, .string c.name, .string c.body] 28) = w3 at *
      generalize wr.heap.size = D at *
      have hmod := u8mod hk8
      by_cases h3 : kd % 4 = 3
      · have d3 : (kd % 4 == 3) = true := beq_iff_eq.2 h3
        go_wp2_with fail
        refine (later_any n hA3).mono ?_
        rintro e w4 ⟨rfl, hA4, hf4⟩
        have hR4 := hR3.frm hf4 (fun k hk e => HSEP.out _ (.inr (.inr (.inl e))) hk)
        have hB4 := hf4.blk hB7 (by omega)
        have hF4 := hF3.then_ hf4 (fun i hi e => by omega)
        have hB64 := hf4.blk hB6 (by omega)
        have m8 := (Bk.c9' hB64).2.2.2.2.2.2.2.2
        have hnb := nb_bd n
        clear hA3 hR3 hB7 hF3 hf4
        go_wp2_with fail
        refine (rnumber_any n _).mono ?_
        rintro e w4' ⟨rfl, rfl⟩
        generalize nb n = q at *
        obtain ⟨a0, a1, a2⟩ := Bk.c3 hR4.blk
        have fa2 := Bk.frozen hR4.blk 2
        go_upto_region 16 with (fail)
        have hg : Frm (fun k => k = rb) w4 (w4.setCell ⟨rb, 2, none⟩ (.int .i64 q)) := (Frm.refl _ w4).set1 2 _
        have hA5 := hA4.frm hg (fun k hk e => HSEP.out k hk (.inl e))
        have hbb := Bk.set hR4.blk 2 (.int .i64 q)
        have hR5 : Rb (w4.setCell ⟨rb, 2, none⟩ (.int .i64 q)) rb v1 v2 ⟨s.ls, s.ef, q⟩ := ⟨by simpa using hbb, owns_frm hR4.r1 hg (fun g hg e => by have := (hR4.r1.lt g hg).1; omega), owns_frm hR4.r2 hg (fun g hg e => by have := (hR4.r2.lt g hg).1; omega), hR4.sep⟩
        have hB5 := hg.blk hB4 (by omega)
        have hF5 := hF4.then_ hg (fun i hi e => by omega)
        have HSEP5 := HSEP
        have hN5 : 2 * k ≤ 2 * (k + 1) := by omega
        have hl5 : s.ls.length ≤ k + 1 ∧ s.ef.length ≤ k + 1 := by omega
        clear hA4 hR4 hB4 hF4 hg hbb hB64 a0 a1 a2 fa2 m8 m0 m1 m2 m3 m4 m5 m6 m7
        generalize w4.setCell ⟨rb, 2, none⟩ (.int .i64 q) = w5 at *
        obtain ⟨s5, hs5⟩ : ∃ s5 : St, s5 = ⟨s.ls, s.ef, q⟩ := ⟨_, rfl⟩
        have hl51 : s5.ls.length ≤ k + 1 := by rw [hs5]; exact hl5.1
        have hl52 : s5.ef.length ≤ k + 1 := by rw [hs5]; exact hl5.2
        rw [← hs5] at hA5 hR5
        clear hs5 hl5
        obtain ⟨u5, hu5⟩ : ∃ u5, u5 = u := ⟨_, rfl⟩
        obtain ⟨v5, hv5⟩ : ∃ v5, v5 = v1 := ⟨_, rfl⟩
        obtain ⟨y5, hy5⟩ : ∃ y5, y5 = v2 := ⟨_, rfl⟩
        rw [← hu5] at hA5 HSEP5
        rw [← hv5, ← hy5] at hR5 HSEP5
        clear hu5 hv5 hy5
        obtain ⟨p0, p1, p2, p3, p4, p5, p6⟩ := Bk.c7 hB5
        obtain ⟨⟨x1, x2⟩, hx⟩ : ∃ x, seenV (find s5.ls c.tenant c.key c.epoch) = x := ⟨_, rfl⟩
        have HX := Lib.hid hx
        clear hx
        go_wp2_with fail
        refine (seen_to HKOK.out hA5 HX.out).mono ?_
        rintro e w6 ⟨rfl, hf6⟩
        have hA6 := hA5.frm0 hf6
        have hR6 := hR5.frm0 hf6
        have hB6 := hf6.blk hB5 (fun h => h)
        have hF6 := hF5.trans hf6
        clear hA5 hR5 hB5 hF5 hf6 p0 p1 p2 p3 p4 p5 p6
        obtain ⟨p0, p1, p2, p3, p4, p5, p6⟩ := Bk.c7 hB6
        go_wp2_with fail
        refine (at_any hR6 c.tenant c.key c.epoch).mono ?_
        obtain ⟨p, hp⟩ : ∃ p, place s5.ls c.tenant c.key c.epoch = p := ⟨_, rfl⟩
        rw [hp]
        have HPL := Lib.hid hp
        clear hp
        rintro e w7 ⟨rfl, hf7⟩
        have hA7 := hA6.frm0 hf7
        have hR7 := hR6.frm0 hf7
        have hF7 := hF6.trans hf7
        clear hA6 hR6 hB6 hF6 hf7 p0 p1 p2 p3 p4 p5 p6
        obtain ⟨a0, a1, a2⟩ := Bk.c3 hR7.blk
        have hif := idx_find s5.ls c.tenant c.key c.epoch
        have hile := idx_le s5.ls c.tenant c.key c.epoch
        have hpl : p = if idx s5.ls c.tenant c.key c.epoch < s5.ls.length then (idx s5.ls c.tenant c.key c.epoch : Int) else -1 := HPL.out.symm
        generalize idx s5.ls c.tenant c.key c.epoch = i at *
        by_cases hil : i < s5.ls.length
        · rw [if_pos hil] at hpl
          subst hpl
          have hf := (hif.1 hil).1
          have hxe : (x1, x2) = (s5.ls[i].tok, true) := by rw [← HX.out, hf]; rfl
          obtain ⟨g, cap, hv5⟩ : ∃ g cap, v5 = .slice (some ⟨g, 0, none⟩) s5.ls.length cap := by
            rcases hR7.r1.2 with ⟨_, h0⟩ | ⟨g, cap, cur, he, _⟩
            · omega
            · exact ⟨g, cap, he⟩
          subst hv5
          have htc := owns_range (f := Lf.cells) (l := s5.ls) hR7.r1 (fun _ => rfl) rfl i hil 3 _ rfl
          generalize s5.ls[i].tok = tok at *
          obtain ⟨rfl, rfl⟩ := Prod.mk.inj hxe
          clear hxe
          have hii : (i : Int) < (s5.ls.length : Int) := by omega
          have hi0 : (0 : Int) ≤ (i : Int) := by omega
          have hd0 : decide ((0 : Int) ≤ (i : Int)) = true := decide_eq_true hi0
          have HIL := Lib.hid hil
          clear hif hf hil hile
          go_upto_region 21 with (fail)
          have HRB := Lib.hid hR7.blk
          have HA7 := Lib.hid hA7
          have HR7 := Lib.hid hR7
          have HF7 := Lib.hid hF7
          have HS7 := Lib.hid (Sl.of_own hR7.r2)
          clear hR7 hA7 hF7
          refine wp_region_held_drew (S := fun w9 => Frm0 w7 w9) (by kernel_rfl) (((Frm.refl (fun _ => False) w7).drew)) (fun hHeld => ?_)
          skip
          refine wpAnyH_take (i := 0) (v := ?_) rfl (by kernel_rfl) (by kernel_rfl) (by kernel_rfl) (fun _ _ _ h => h) (Or.inl ⟨by rfl, ?_⟩) (by assumption) ?_
          rotate_left 1
          focus (intro w hSw; (try dsimp only at hSw); go_simp; (try with_reducible rfl))
          (try simp only [Act.put, List.getElem_toArray, List.getElem_cons_succ, List.getElem_cons_zero, List.setIfInBounds_toArray, List.set_cons_zero, List.set_cons_succ])
          refine wpAnyH_take (i := 1) (v := ?_) rfl (by kernel_rfl) (by kernel_rfl) (by kernel_rfl) (fun _ _ _ h => h) (Or.inl ⟨by rfl, ?_⟩) (by assumption) ?_
          rotate_left 1
          focus (intro w hSw; (try dsimp only at hSw); go_simp; (try with_reducible rfl))
          (try simp only [Act.put, List.getElem_toArray, List.getElem_cons_succ, List.getElem_cons_zero, List.setIfInBounds_toArray, List.set_cons_zero, List.set_cons_succ])
          refine wpAnyH_take (i := 2) (v := ?_) rfl (by kernel_rfl) (by kernel_rfl) (by kernel_rfl) (fun _ _ _ h => h) (Or.inl ⟨by rfl, ?_⟩) (by assumption) ?_
          rotate_left 1
          focus (intro w hSw; (try dsimp only at hSw); go_simp; (try with_reducible rfl))
          (try simp only [Act.put, List.getElem_toArray, List.getElem_cons_succ, List.getElem_cons_zero, List.setIfInBounds_toArray, List.set_cons_zero, List.set_cons_succ])
          refine wpAnyH_take (i := 3) (v := ?_) rfl (by kernel_rfl) (by kernel_rfl) (by kernel_rfl) (fun _ _ _ h => h) (Or.inl ⟨by rfl, ?_⟩) (by assumption) ?_
          rotate_left 1
          focus (intro w hSw; (try dsimp only at hSw); go_simp; (try with_reducible rfl))
          (try simp only [Act.put, List.getElem_toArray, List.getElem_cons_succ, List.getElem_cons_zero, List.setIfInBounds_toArray, List.set_cons_zero, List.set_cons_succ])
          refine wpAnyH_take (i := 4) (v := ?_) rfl (by kernel_rfl) (by kernel_rfl) (by kernel_rfl) (fun _ _ _ h => h) (Or.inl ⟨by rfl, ?_⟩) (by assumption) ?_
          rotate_left 1
          focus (intro w hSw; (try dsimp only at hSw); go_simp; (try with_reducible rfl))
          (try simp only [Act.put, List.getElem_toArray, List.getElem_cons_succ, List.getElem_cons_zero, List.setIfInBounds_toArray, List.set_cons_zero, List.set_cons_succ])
          refine wpAnyH_take (i := 5) (v := ?_) rfl (by kernel_rfl) (by kernel_rfl) (by kernel_rfl) (fun _ _ _ h => h) (Or.inl ⟨by rfl, ?_⟩) (by assumption) ?_
          rotate_left 1
          focus (intro w hSw; (try dsimp only at hSw); go_simp; (try with_reducible rfl))
          (try simp only [Act.put, List.getElem_toArray, List.getElem_cons_succ, List.getElem_cons_zero, List.setIfInBounds_toArray, List.set_cons_zero, List.set_cons_succ])
          refine wpAnyH_take (i := 6) (v := ?_) rfl (by kernel_rfl) (by kernel_rfl) (by kernel_rfl) (fun _ _ _ h => h) (Or.inl ⟨by rfl, ?_⟩) (by assumption) ?_
          rotate_left 1
          focus (intro w hSw; (try dsimp only at hSw); go_simp; (try with_reducible rfl))
          (try simp only [Act.put, List.getElem_toArray, List.getElem_cons_succ, List.getElem_cons_zero, List.setIfInBounds_toArray, List.set_cons_zero, List.set_cons_succ])
          refine wpAnyH_take (i := 7) (v := ?_) rfl (by kernel_rfl) (by kernel_rfl) (by kernel_rfl) (fun _ _ _ h => h) (Or.inl ⟨by rfl, ?_⟩) (by assumption) ?_
          rotate_left 1
          focus (intro w hSw; (try dsimp only at hSw); go_simp; (try with_reducible rfl))
          (try simp only [Act.put, List.getElem_toArray, List.getElem_cons_succ, List.getElem_cons_zero, List.setIfInBounds_toArray, List.set_cons_zero, List.set_cons_succ])
          refine wpAnyH_take (i := 8) (v := ?_) rfl (by kernel_rfl) (by kernel_rfl) (by kernel_rfl) (fun _ _ _ h => h) (Or.inl ⟨by rfl, ?_⟩) (by assumption) ?_
          rotate_left 1
          focus (intro w hSw; (try dsimp only at hSw); go_simp; (try with_reducible rfl))
          (try simp only [Act.put, List.getElem_toArray, List.getElem_cons_succ, List.getElem_cons_zero, List.setIfInBounds_toArray, List.set_cons_zero, List.set_cons_succ])
          refine wpAnyH_take (i := 9) (v := ?_) rfl (by kernel_rfl) (by kernel_rfl) (by kernel_rfl) (fun _ _ _ h => h) (Or.inl ⟨by rfl, ?_⟩) (by assumption) ?_
          rotate_left 1
          focus (intro w hSw; (try dsimp only at hSw); go_simp; (try with_reducible rfl))
          (try simp only [Act.put, List.getElem_toArray, List.getElem_cons_succ, List.getElem_cons_zero, List.setIfInBounds_toArray, List.set_cons_zero, List.set_cons_succ])
          refine wpAnyH_take (i := 10) (v := ?_) rfl (by kernel_rfl) (by kernel_rfl) (by kernel_rfl) (fun _ _ _ h => h) (Or.inl ⟨by rfl, ?_⟩) (by assumption) ?_
          rotate_left 1
          focus (intro w hSw; (try dsimp only at hSw); go_simp; (try with_reducible rfl))
          (try simp only [Act.put, List.getElem_toArray, List.getElem_cons_succ, List.getElem_cons_zero, List.setIfInBounds_toArray, List.set_cons_zero, List.set_cons_succ])
          refine wpAnyH_take (i := 12) (v := ?_) rfl (by kernel_rfl) (by kernel_rfl) (by kernel_rfl) (fun _ _ _ h => h) (Or.inl ⟨by rfl, ?_⟩) (by assumption) ?_
          rotate_left 1
          focus (intro w hSw; (try dsimp only at hSw); obtain ⟨q0, q1, q2⟩ := Bk.c3 (Frm.blk hSw HRB.out (fun h => h)); go_simp; (try with_reducible rfl))
          (try simp only [Act.put, List.getElem_toArray, List.getElem_cons_succ, List.getElem_cons_zero, List.setIfInBounds_toArray, List.set_cons_zero, List.set_cons_succ])
          refine wpAnyH_take (i := 13) (v := ?_) rfl (by kernel_rfl) (by kernel_rfl) (by kernel_rfl) (fun _ _ _ h => h) (Or.inl ⟨by rfl, ?_⟩) (by assumption) ?_
          rotate_left 1
          focus (intro w hSw; (try dsimp only at hSw); obtain ⟨q0, q1, q2⟩ := Bk.c3 (Frm.blk hSw HRB.out (fun h => h)); go_simp; (try with_reducible rfl))
          (try simp only [Act.put, List.getElem_toArray, List.getElem_cons_succ, List.getElem_cons_zero, List.setIfInBounds_toArray, List.set_cons_zero, List.set_cons_succ])
          refine wpAnyH_take (i := 14) (v := ?_) rfl (by kernel_rfl) (by kernel_rfl) (by kernel_rfl) (fun _ _ _ h => h) (Or.inl ⟨by rfl, ?_⟩) (by assumption) ?_
          rotate_left 1
          focus (intro w hSw; (try dsimp only at hSw); obtain ⟨q0, q1, q2⟩ := Bk.c3 (Frm.blk hSw HRB.out (fun h => h)); go_simp; (try with_reducible rfl))
          (try simp only [Act.put, List.getElem_toArray, List.getElem_cons_succ, List.getElem_cons_zero, List.setIfInBounds_toArray, List.set_cons_zero, List.set_cons_succ])
          refine wpAnyH_take (i := 15) (v := ?_) rfl (by kernel_rfl) (by kernel_rfl) (by kernel_rfl) (fun _ _ _ h => h) (Or.inl ⟨by rfl, ?_⟩) (by assumption) ?_
          rotate_left 1
          focus (intro w hSw; (try dsimp only at hSw); obtain ⟨q0, q1, q2⟩ := Bk.c3 (Frm.blk hSw HRB.out (fun h => h)); go_simp; (try with_reducible rfl))
          (try simp only [Act.put, List.getElem_toArray, List.getElem_cons_succ, List.getElem_cons_zero, List.setIfInBounds_toArray, List.set_cons_zero, List.set_cons_succ])
          refine wpAnyH_ready (rs := [11]) (by kernel_rfl) (by simp) ?_
          refine AllReadyH.cons rfl (fun K hK => ?_) AllReadyH.nil
          go_simp
          refine (left_any (HA7.out.frm0 (by assumption))).mono ?_
          rintro e w8 ⟨rfl, rfl⟩
          (try go_wp2_with fail)
          refine hK.out _ _ ?_ (fun hHeld => ?_)
          focus (assumption)
          clear hK K
          (try simp only [Act.put, List.getElem_toArray, List.getElem_cons_succ, List.getElem_cons_zero, List.setIfInBounds_toArray, List.set_cons_zero, List.set_cons_succ])
          refine wpAnyH_take (i := 16) (v := ?_) rfl (by kernel_rfl) (by kernel_rfl) (by kernel_rfl) (fun _ _ _ h => h) (Or.inl ⟨by rfl, ?_⟩) (by assumption) ?_
          rotate_left 1
          focus (intro w hSw; (try dsimp only at hSw); go_simp; (try with_reducible rfl))
          (try simp only [Act.put, List.getElem_toArray, List.getElem_cons_succ, List.getElem_cons_zero, List.setIfInBounds_toArray, List.set_cons_zero, List.set_cons_succ])
          refine wpAnyH_take (i := 17) (v := ?_) rfl (by kernel_rfl) (by kernel_rfl) (by kernel_rfl) (fun _ _ _ h => h) (Or.inl ⟨by rfl, ?_⟩) (by assumption) ?_
          rotate_left 1
          focus (intro w hSw; (try dsimp only at hSw); go_simp; (try with_reducible rfl))
          (try simp only [Act.put, List.getElem_toArray, List.getElem_cons_succ, List.getElem_cons_zero, List.setIfInBounds_toArray, List.set_cons_zero, List.set_cons_succ])
          refine wpAnyH_take (i := 18) (v := ?_) rfl (by kernel_rfl) (by kernel_rfl) (by kernel_rfl) (fun _ _ _ h => h) (Or.inl ⟨by rfl, ?_⟩) (by assumption) ?_
          rotate_left 1
          focus (intro w hSw; (try dsimp only at hSw); go_simp; (try with_reducible rfl))
          (try simp only [Act.put, List.getElem_toArray, List.getElem_cons_succ, List.getElem_cons_zero, List.setIfInBounds_toArray, List.set_cons_zero, List.set_cons_succ])
          refine wpAnyH_take (i := 19) (v := ?_) rfl (by kernel_rfl) (by kernel_rfl) (by kernel_rfl) (fun _ _ _ h => h) (Or.inl ⟨by rfl, ?_⟩) (by assumption) ?_
          rotate_left 1
          focus (intro w hSw; (try dsimp only at hSw); go_simp; (try with_reducible rfl))
          (try simp only [Act.put, List.getElem_toArray, List.getElem_cons_succ, List.getElem_cons_zero, List.setIfInBounds_toArray, List.set_cons_zero, List.set_cons_succ])
          refine wpAnyH_take (i := 21) (v := ?_) rfl (by kernel_rfl) (by kernel_rfl) (by kernel_rfl) (fun _ _ _ h => h) (Or.inl ⟨by rfl, ?_⟩) (by assumption) ?_
          rotate_left 1
          focus (intro w hSw; (try dsimp only at hSw); obtain ⟨q0, q1, q2⟩ := Bk.c3 (Frm.blk hSw HRB.out (fun h => h)); go_simp; (try with_reducible rfl))
          (try simp only [Act.put, List.getElem_toArray, List.getElem_cons_succ, List.getElem_cons_zero, List.setIfInBounds_toArray, List.set_cons_zero, List.set_cons_succ])
          refine wpAnyH_take (i := 22) (v := ?_) rfl (by kernel_rfl) (by kernel_rfl) (by kernel_rfl) (fun _ _ _ h => h) (Or.inl ⟨by rfl, ?_⟩) (by assumption) ?_
          rotate_left 1
          focus (intro w hSw; (try dsimp only at hSw); obtain ⟨q0, q1, q2⟩ := Bk.c3 (Frm.blk hSw HRB.out (fun h => h)); go_simp; (try with_reducible rfl))
          (try simp only [Act.put, List.getElem_toArray, List.getElem_cons_succ, List.getElem_cons_zero, List.setIfInBounds_toArray, List.set_cons_zero, List.set_cons_succ])
          refine wpAnyH_take (i := 23) (v := ?_) rfl (by kernel_rfl) (by kernel_rfl) (by kernel_rfl) (fun _ _ _ h => h) (Or.inl ⟨by rfl, ?_⟩) (by assumption) ?_
          rotate_left 1
          focus (intro w hSw; (try dsimp only at hSw); obtain ⟨q0, q1, q2⟩ := Bk.c3 (Frm.blk hSw HRB.out (fun h => h)); go_simp; (try with_reducible rfl))
          (try simp only [Act.put, List.getElem_toArray, List.getElem_cons_succ, List.getElem_cons_zero, List.setIfInBounds_toArray, List.set_cons_zero, List.set_cons_succ])
          refine wpAnyH_take (i := 24) (v := ?_) rfl (by kernel_rfl) (by kernel_rfl) (by kernel_rfl) (fun _ _ _ h => h) (Or.inl ⟨by rfl, ?_⟩) (by assumption) ?_
          rotate_left 1
          focus (intro w hSw; (try dsimp only at hSw); obtain ⟨q0, q1, q2⟩ := Bk.c3 (Frm.blk hSw HRB.out (fun h => h)); go_simp; (try with_reducible rfl))
          (try simp only [Act.put, List.getElem_toArray, List.getElem_cons_succ, List.getElem_cons_zero, List.setIfInBounds_toArray, List.set_cons_zero, List.set_cons_succ])
          refine wpAnyH_ready (rs := [20]) (by kernel_rfl) (by simp) ?_
          refine AllReadyH.cons rfl (fun K hK => ?_) AllReadyH.nil
          go_simp
          refine (effects_any (HA7.out.frm0 (by assumption)) (by omega)).mono ?_
          rintro e w9 ⟨y9, rfl, hr9, hf9⟩
          (try go_wp2_with fail)
          refine hK.out _ _ ?_ (fun hHeld => ?_)
          focus (exact Frm.trans (by assumption) hf9)
          clear hK K
          (try simp only [Act.put, List.getElem_toArray, List.getElem_cons_succ, List.getElem_cons_zero, List.setIfInBounds_toArray, List.set_cons_zero, List.set_cons_succ])
          refine wpAnyH_ready (rs := [25]) (by kernel_rfl) (by simp) ?_
          refine AllReadyH.cons rfl (fun K hK => ?_) AllReadyH.nil
          go_simp
          refine (same_any s5.ef _ _ _ (Sl.of_own hr9) (HS7.out.frm0 (Frm.trans (by assumption) hf9))).mono ?_
          rintro e w10 ⟨rfl, hf10⟩
          (try go_wp2_with fail)
          refine hK.out _ _ ?_ (fun hHeld => ?_)
          focus (exact Frm.trans (by assumption) hf10)
          clear hK K
          (try simp only [Act.put, List.getElem_toArray, List.getElem_cons_succ, List.getElem_cons_zero, List.setIfInBounds_toArray, List.set_cons_zero, List.set_cons_succ])
          refine wpAnyH_take (i := 26) (v := ?_) rfl (by kernel_rfl) (by kernel_rfl) (by kernel_rfl) (fun _ _ _ h => h) (Or.inl ⟨by rfl, ?_⟩) (by assumption) ?_
          rotate_left 1
          focus (intro w hSw; (try dsimp only at hSw); go_simp; (try with_reducible rfl))
          (try simp only [Act.put, List.getElem_toArray, List.getElem_cons_succ, List.getElem_cons_zero, List.setIfInBounds_toArray, List.set_cons_zero, List.set_cons_succ])
          refine wpAnyH_take (i := 27) (v := ?_) rfl (by kernel_rfl) (by kernel_rfl) (by kernel_rfl) (fun _ _ _ h => h) (Or.inl ⟨by rfl, ?_⟩) (by assumption) ?_
          rotate_left 1
          focus (intro w hSw; (try dsimp only at hSw); go_simp; (try with_reducible rfl))
          (try simp only [Act.put, List.getElem_toArray, List.getElem_cons_succ, List.getElem_cons_zero, List.setIfInBounds_toArray, List.set_cons_zero, List.set_cons_succ])
          refine wpAnyH_done (by kernel_rfl) ?_ _
          have hfz := (by assumption : Frm0 w7 w10)
          go_wp2_with fail
          go_roundw
          case rel => exact ⟨k + 1, s5, u5, _, y5, by omega, by go_num, (HA7.out.frm0 hfz).more (by omega), HR7.out.frm0 hfz, by omega, by omega, HSEP5.out, HF7.out.trans hfz⟩
          case measure => simp [intOf]; omega
        · rw [if_neg hil] at hpl
          subst hpl
          have hf := hif.2 (by omega)
          have hxe : (x1, x2) = ((0 : Int), false) := by rw [← HX.out, hf]; rfl
          obtain ⟨rfl, rfl⟩ := Prod.mk.inj hxe
          clear hxe
          clear hif hf hil hile
          go_upto_region 21 with (fail)
          have HRB := Lib.hid hR7.blk
          have HA7 := Lib.hid hA7
          have HR7 := Lib.hid hR7
          have HF7 := Lib.hid hF7
          have HS7 := Lib.hid (Sl.of_own hR7.r2)
          clear hR7 hA7 hF7
          refine wp_region_held_drew (S := fun w9 => Frm0 w7 w9) (by kernel_rfl) (((Frm.refl (fun _ => False) w7).drew)) (fun hHeld => ?_)
          skip
          refine wpAnyH_take (i := 0) (v := ?_) rfl (by kernel_rfl) (by kernel_rfl) (by kernel_rfl) (fun _ _ _ h => h) (Or.inl ⟨by rfl, ?_⟩) (by assumption) ?_
          rotate_left 1
          focus (intro w hSw; (try dsimp only at hSw); go_simp; (try with_reducible rfl))
          (try simp only [Act.put, List.getElem_toArray, List.getElem_cons_succ, List.getElem_cons_zero, List.setIfInBounds_toArray, List.set_cons_zero, List.set_cons_succ])
          refine wpAnyH_take (i := 1) (v := ?_) rfl (by kernel_rfl) (by kernel_rfl) (by kernel_rfl) (fun _ _ _ h => h) (Or.inl ⟨by rfl, ?_⟩) (by assumption) ?_
          rotate_left 1
          focus (intro w hSw; (try dsimp only at hSw); go_simp; (try with_reducible rfl))
          (try simp only [Act.put, List.getElem_toArray, List.getElem_cons_succ, List.getElem_cons_zero, List.setIfInBounds_toArray, List.set_cons_zero, List.set_cons_succ])
          refine wpAnyH_take (i := 2) (v := ?_) rfl (by kernel_rfl) (by kernel_rfl) (by kernel_rfl) (fun _ _ _ h => h) (Or.inl ⟨by rfl, ?_⟩) (by assumption) ?_
          rotate_left 1
          focus (intro w hSw; (try dsimp only at hSw); go_simp; (try with_reducible rfl))
          (try simp only [Act.put, List.getElem_toArray, List.getElem_cons_succ, List.getElem_cons_zero, List.setIfInBounds_toArray, List.set_cons_zero, List.set_cons_succ])
          refine wpAnyH_take (i := 3) (v := ?_) rfl (by kernel_rfl) (by kernel_rfl) (by kernel_rfl) (fun _ _ _ h => h) (Or.inl ⟨by rfl, ?_⟩) (by assumption) ?_
          rotate_left 1
          focus (intro w hSw; (try dsimp only at hSw); go_simp; (try with_reducible rfl))
          (try simp only [Act.put, List.getElem_toArray, List.getElem_cons_succ, List.getElem_cons_zero, List.setIfInBounds_toArray, List.set_cons_zero, List.set_cons_succ])
          refine wpAnyH_take (i := 4) (v := ?_) rfl (by kernel_rfl) (by kernel_rfl) (by kernel_rfl) (fun _ _ _ h => h) (Or.inl ⟨by rfl, ?_⟩) (by assumption) ?_
          rotate_left 1
          focus (intro w hSw; (try dsimp only at hSw); go_simp; (try with_reducible rfl))
          (try simp only [Act.put, List.getElem_toArray, List.getElem_cons_succ, List.getElem_cons_zero, List.setIfInBounds_toArray, List.set_cons_zero, List.set_cons_succ])
          refine wpAnyH_take (i := 5) (v := ?_) rfl (by kernel_rfl) (by kernel_rfl) (by kernel_rfl) (fun _ _ _ h => h) (Or.inl ⟨by rfl, ?_⟩) (by assumption) ?_
          rotate_left 1
          focus (intro w hSw; (try dsimp only at hSw); go_simp; (try with_reducible rfl))
          (try simp only [Act.put, List.getElem_toArray, List.getElem_cons_succ, List.getElem_cons_zero, List.setIfInBounds_toArray, List.set_cons_zero, List.set_cons_succ])
          refine wpAnyH_take (i := 6) (v := ?_) rfl (by kernel_rfl) (by kernel_rfl) (by kernel_rfl) (fun _ _ _ h => h) (Or.inl ⟨by rfl, ?_⟩) (by assumption) ?_
          rotate_left 1
          focus (intro w hSw; (try dsimp only at hSw); go_simp; (try with_reducible rfl))
          (try simp only [Act.put, List.getElem_toArray, List.getElem_cons_succ, List.getElem_cons_zero, List.setIfInBounds_toArray, List.set_cons_zero, List.set_cons_succ])
          refine wpAnyH_take (i := 7) (v := ?_) rfl (by kernel_rfl) (by kernel_rfl) (by kernel_rfl) (fun _ _ _ h => h) (Or.inl ⟨by rfl, ?_⟩) (by assumption) ?_
          rotate_left 1
          focus (intro w hSw; (try dsimp only at hSw); go_simp; (try with_reducible rfl))
          (try simp only [Act.put, List.getElem_toArray, List.getElem_cons_succ, List.getElem_cons_zero, List.setIfInBounds_toArray, List.set_cons_zero, List.set_cons_succ])
          refine wpAnyH_take (i := 8) (v := ?_) rfl (by kernel_rfl) (by kernel_rfl) (by kernel_rfl) (fun _ _ _ h => h) (Or.inl ⟨by rfl, ?_⟩) (by assumption) ?_
          rotate_left 1
          focus (intro w hSw; (try dsimp only at hSw); go_simp; (try with_reducible rfl))
          (try simp only [Act.put, List.getElem_toArray, List.getElem_cons_succ, List.getElem_cons_zero, List.setIfInBounds_toArray, List.set_cons_zero, List.set_cons_succ])
          refine wpAnyH_take (i := 9) (v := ?_) rfl (by kernel_rfl) (by kernel_rfl) (by kernel_rfl) (fun _ _ _ h => h) (Or.inl ⟨by rfl, ?_⟩) (by assumption) ?_
          rotate_left 1
          focus (intro w hSw; (try dsimp only at hSw); go_simp; (try with_reducible rfl))
          (try simp only [Act.put, List.getElem_toArray, List.getElem_cons_succ, List.getElem_cons_zero, List.setIfInBounds_toArray, List.set_cons_zero, List.set_cons_succ])
          refine wpAnyH_take (i := 10) (v := ?_) rfl (by kernel_rfl) (by kernel_rfl) (by kernel_rfl) (fun _ _ _ h => h) (Or.inl ⟨by rfl, ?_⟩) (by assumption) ?_
          rotate_left 1
          focus (intro w hSw; (try dsimp only at hSw); go_simp; (try with_reducible rfl))
          (try simp only [Act.put, List.getElem_toArray, List.getElem_cons_succ, List.getElem_cons_zero, List.setIfInBounds_toArray, List.set_cons_zero, List.set_cons_succ])
          refine wpAnyH_take (i := 12) (v := ?_) rfl (by kernel_rfl) (by kernel_rfl) (by kernel_rfl) (fun _ _ _ h => h) (Or.inl ⟨by rfl, ?_⟩) (by assumption) ?_
          rotate_left 1
          focus (intro w hSw; (try dsimp only at hSw); obtain ⟨q0, q1, q2⟩ := Bk.c3 (Frm.blk hSw HRB.out (fun h => h)); go_simp; (try with_reducible rfl))
          (try simp only [Act.put, List.getElem_toArray, List.getElem_cons_succ, List.getElem_cons_zero, List.setIfInBounds_toArray, List.set_cons_zero, List.set_cons_succ])
          refine wpAnyH_take (i := 13) (v := ?_) rfl (by kernel_rfl) (by kernel_rfl) (by kernel_rfl) (fun _ _ _ h => h) (Or.inl ⟨by rfl, ?_⟩) (by assumption) ?_
          rotate_left 1
          focus (intro w hSw; (try dsimp only at hSw); obtain ⟨q0, q1, q2⟩ := Bk.c3 (Frm.blk hSw HRB.out (fun h => h)); go_simp; (try with_reducible rfl))
          (try simp only [Act.put, List.getElem_toArray, List.getElem_cons_succ, List.getElem_cons_zero, List.setIfInBounds_toArray, List.set_cons_zero, List.set_cons_succ])
          refine wpAnyH_take (i := 14) (v := ?_) rfl (by kernel_rfl) (by kernel_rfl) (by kernel_rfl) (fun _ _ _ h => h) (Or.inl ⟨by rfl, ?_⟩) (by assumption) ?_
          rotate_left 1
          focus (intro w hSw; (try dsimp only at hSw); obtain ⟨q0, q1, q2⟩ := Bk.c3 (Frm.blk hSw HRB.out (fun h => h)); go_simp; (try with_reducible rfl))
          (try simp only [Act.put, List.getElem_toArray, List.getElem_cons_succ, List.getElem_cons_zero, List.setIfInBounds_toArray, List.set_cons_zero, List.set_cons_succ])
          refine wpAnyH_take (i := 15) (v := ?_) rfl (by kernel_rfl) (by kernel_rfl) (by kernel_rfl) (fun _ _ _ h => h) (Or.inl ⟨by rfl, ?_⟩) (by assumption) ?_
          rotate_left 1
          focus (intro w hSw; (try dsimp only at hSw); obtain ⟨q0, q1, q2⟩ := Bk.c3 (Frm.blk hSw HRB.out (fun h => h)); go_simp; (try with_reducible rfl))
          (try simp only [Act.put, List.getElem_toArray, List.getElem_cons_succ, List.getElem_cons_zero, List.setIfInBounds_toArray, List.set_cons_zero, List.set_cons_succ])
          refine wpAnyH_ready (rs := [11]) (by kernel_rfl) (by simp) ?_
          refine AllReadyH.cons rfl (fun K hK => ?_) AllReadyH.nil
          go_simp
          refine (left_any (HA7.out.frm0 (by assumption))).mono ?_
          rintro e w8 ⟨rfl, rfl⟩
          (try go_wp2_with fail)
          refine hK.out _ _ ?_ (fun hHeld => ?_)
          focus (assumption)
          clear hK K
          (try simp only [Act.put, List.getElem_toArray, List.getElem_cons_succ, List.getElem_cons_zero, List.setIfInBounds_toArray, List.set_cons_zero, List.set_cons_succ])
          refine wpAnyH_take (i := 16) (v := ?_) rfl (by kernel_rfl) (by kernel_rfl) (by kernel_rfl) (fun _ _ _ h => h) (Or.inl ⟨by rfl, ?_⟩) (by assumption) ?_
          rotate_left 1
          focus (intro w hSw; (try dsimp only at hSw); go_simp; (try with_reducible rfl))
          (try simp only [Act.put, List.getElem_toArray, List.getElem_cons_succ, List.getElem_cons_zero, List.setIfInBounds_toArray, List.set_cons_zero, List.set_cons_succ])
          refine wpAnyH_take (i := 17) (v := ?_) rfl (by kernel_rfl) (by kernel_rfl) (by kernel_rfl) (fun _ _ _ h => h) (Or.inl ⟨by rfl, ?_⟩) (by assumption) ?_
          rotate_left 1
          focus (intro w hSw; (try dsimp only at hSw); go_simp; (try with_reducible rfl))
          (try simp only [Act.put, List.getElem_toArray, List.getElem_cons_succ, List.getElem_cons_zero, List.setIfInBounds_toArray, List.set_cons_zero, List.set_cons_succ])
          refine wpAnyH_take (i := 18) (v := ?_) rfl (by kernel_rfl) (by kernel_rfl) (by kernel_rfl) (fun _ _ _ h => h) (Or.inl ⟨by rfl, ?_⟩) (by assumption) ?_
          rotate_left 1
          focus (intro w hSw; (try dsimp only at hSw); go_simp; (try with_reducible rfl))
          (try simp only [Act.put, List.getElem_toArray, List.getElem_cons_succ, List.getElem_cons_zero, List.setIfInBounds_toArray, List.set_cons_zero, List.set_cons_succ])
          refine wpAnyH_take (i := 19) (v := ?_) rfl (by kernel_rfl) (by kernel_rfl) (by kernel_rfl) (fun _ _ _ h => h) (Or.inl ⟨by rfl, ?_⟩) (by assumption) ?_
          rotate_left 1
          focus (intro w hSw; (try dsimp only at hSw); go_simp; (try with_reducible rfl))
          (try simp only [Act.put, List.getElem_toArray, List.getElem_cons_succ, List.getElem_cons_zero, List.setIfInBounds_toArray, List.set_cons_zero, List.set_cons_succ])
          refine wpAnyH_take (i := 21) (v := ?_) rfl (by kernel_rfl) (by kernel_rfl) (by kernel_rfl) (fun _ _ _ h => h) (Or.inl ⟨by rfl, ?_⟩) (by assumption) ?_
          rotate_left 1
          focus (intro w hSw; (try dsimp only at hSw); obtain ⟨q0, q1, q2⟩ := Bk.c3 (Frm.blk hSw HRB.out (fun h => h)); go_simp; (try with_reducible rfl))
          (try simp only [Act.put, List.getElem_toArray, List.getElem_cons_succ, List.getElem_cons_zero, List.setIfInBounds_toArray, List.set_cons_zero, List.set_cons_succ])
          refine wpAnyH_take (i := 22) (v := ?_) rfl (by kernel_rfl) (by kernel_rfl) (by kernel_rfl) (fun _ _ _ h => h) (Or.inl ⟨by rfl, ?_⟩) (by assumption) ?_
          rotate_left 1
          focus (intro w hSw; (try dsimp only at hSw); obtain ⟨q0, q1, q2⟩ := Bk.c3 (Frm.blk hSw HRB.out (fun h => h)); go_simp; (try with_reducible rfl))
          (try simp only [Act.put, List.getElem_toArray, List.getElem_cons_succ, List.getElem_cons_zero, List.setIfInBounds_toArray, List.set_cons_zero, List.set_cons_succ])
          refine wpAnyH_take (i := 23) (v := ?_) rfl (by kernel_rfl) (by kernel_rfl) (by kernel_rfl) (fun _ _ _ h => h) (Or.inl ⟨by rfl, ?_⟩) (by assumption) ?_
          rotate_left 1
          focus (intro w hSw; (try dsimp only at hSw); obtain ⟨q0, q1, q2⟩ := Bk.c3 (Frm.blk hSw HRB.out (fun h => h)); go_simp; (try with_reducible rfl))
          (try simp only [Act.put, List.getElem_toArray, List.getElem_cons_succ, List.getElem_cons_zero, List.setIfInBounds_toArray, List.set_cons_zero, List.set_cons_succ])
          refine wpAnyH_take (i := 24) (v := ?_) rfl (by kernel_rfl) (by kernel_rfl) (by kernel_rfl) (fun _ _ _ h => h) (Or.inl ⟨by rfl, ?_⟩) (by assumption) ?_
          rotate_left 1
          focus (intro w hSw; (try dsimp only at hSw); obtain ⟨q0, q1, q2⟩ := Bk.c3 (Frm.blk hSw HRB.out (fun h => h)); go_simp; (try with_reducible rfl))
          (try simp only [Act.put, List.getElem_toArray, List.getElem_cons_succ, List.getElem_cons_zero, List.setIfInBounds_toArray, List.set_cons_zero, List.set_cons_succ])
          refine wpAnyH_ready (rs := [20]) (by kernel_rfl) (by simp) ?_
          refine AllReadyH.cons rfl (fun K hK => ?_) AllReadyH.nil
          go_simp
          refine (effects_any (HA7.out.frm0 (by assumption)) (by omega)).mono ?_
          rintro e w9 ⟨y9, rfl, hr9, hf9⟩
          (try go_wp2_with fail)
          refine hK.out _ _ ?_ (fun hHeld => ?_)
          focus (exact Frm.trans (by assumption) hf9)
          clear hK K
          (try simp only [Act.put, List.getElem_toArray, List.getElem_cons_succ, List.getElem_cons_zero, List.setIfInBounds_toArray, List.set_cons_zero, List.set_cons_succ])
          refine wpAnyH_ready (rs := [25]) (by kernel_rfl) (by simp) ?_
          refine AllReadyH.cons rfl (fun K hK => ?_) AllReadyH.nil
          go_simp
          refine (same_any s5.ef _ _ _ (Sl.of_own hr9) (HS7.out.frm0 (Frm.trans (by assumption) hf9))).mono ?_
          rintro e w10 ⟨rfl, hf10⟩
          (try go_wp2_with fail)
          refine hK.out _ _ ?_ (fun hHeld => ?_)
          focus (exact Frm.trans (by assumption) hf10)
          clear hK K
          (try simp only [Act.put, List.getElem_toArray, List.getElem_cons_succ, List.getElem_cons_zero, List.setIfInBounds_toArray, List.set_cons_zero, List.set_cons_succ])
          refine wpAnyH_take (i := 26) (v := ?_) rfl (by kernel_rfl) (by kernel_rfl) (by kernel_rfl) (fun _ _ _ h => h) (Or.inl ⟨by rfl, ?_⟩) (by assumption) ?_
          rotate_left 1
          focus (intro w hSw; (try dsimp only at hSw); go_simp; (try with_reducible rfl))
          (try simp only [Act.put, List.getElem_toArray, List.getElem_cons_succ, List.getElem_cons_zero, List.setIfInBounds_toArray, List.set_cons_zero, List.set_cons_succ])
          refine wpAnyH_take (i := 27) (v := ?_) rfl (by kernel_rfl) (by kernel_rfl) (by kernel_rfl) (fun _ _ _ h => h) (Or.inl ⟨by rfl, ?_⟩) (by assumption) ?_
          rotate_left 1
          focus (intro w hSw; (try dsimp only at hSw); go_simp; (try with_reducible rfl))
          (try simp only [Act.put, List.getElem_toArray, List.getElem_cons_succ, List.getElem_cons_zero, List.setIfInBounds_toArray, List.set_cons_zero, List.set_cons_succ])
          refine wpAnyH_done (by kernel_rfl) ?_ _
          have hfz := (by assumption : Frm0 w7 w10)
          go_wp2_with fail
          go_roundw
          case rel => exact ⟨k + 1, s5, u5, _, y5, by omega, by go_num, (HA7.out.frm0 hfz).more (by omega), HR7.out.frm0 hfz, by omega, by omega, HSEP5.out, HF7.out.trans hfz⟩
          case measure => simp [intOf]; omega
      · have d3 : (kd % 4 == 3) = false := beq_eq_false_iff_ne.2 h3
        have hN3 : 2 * k + 2 < 1000000 := by omega
        obtain ⟨⟨s5, x⟩, hcall⟩ : ∃ r, call s c = r := ⟨_, rfl⟩
        have hdo := do_to c (hA3.frm0 ((Frm.refl (fun _ => False) w3).drew)) hN3 (by omega) HKOK.out HPOK.out hcall
        unfold Ca.reply at hdo
        have HDO := Lib.hid hdo
        clear hdo
        have hfp7 : ¬ fp b u (D + 1) := by
          rintro (e | e | e | e)
          · omega
          · omega
          · omega
          · have := (HOWN.out _ e).2; omega
        have hce := call_ef s c
        have hcl := call_ls s c
        have hlate := hA3.late
        have hpl := fun sp => putL_len s.ls c.tenant c.key c.epoch c.token sp
        rw [hcall] at hce hcl
        simp only at hce hcl
        have hl5 : s5.ls.length ≤ k + 1 ∧ s5.ef.length ≤ k + 1 := by
          constructor
          · rcases hcl with ⟨_, h⟩ | ⟨_, sp, h, _⟩
            · obtain ⟨rfl, _⟩ := Prod.mk.inj h; omega
            · rw [h]; have := hpl sp; omega
          · rcases hce with ⟨h, _⟩ | ⟨h, _⟩
            · rw [h]; omega
            · rw [h]; simp; omega
        have HNE := Lib.hid (fun w => ne_reply c x w)
        have HCALL := Lib.hid hcall
        clear hcall
        clear hce hcl hpl
        go_upto_region 14 with (fail)
        refine wp_region_held_drew (S := fun w9 => w9.heap[D + 1]? = some (.cells #[.int .i64 c.tenant, .string c.key, .int .i64 c.epoch, .int .i64 c.phase, .int .i64 c.token, .string c.name, .string c.body] 28 (0, 0))) (by kernel_rfl) (hB7) (fun hHeld => ?_)
        skip
        refine wpAnyH_take (i := 0) (v := ?_) rfl (by kernel_rfl) (by kernel_rfl) (by kernel_rfl) (fun _ _ _ h => h) (Or.inl ⟨by rfl, ?_⟩) (by assumption) ?_
        rotate_left 1
        focus (intro w hSw; (try dsimp only at hSw); obtain ⟨p0, p1, p2, p3, p4, p5, p6⟩ := Bk.c7 hSw; go_simp; (try with_reducible rfl))
        (try simp only [Act.put, List.getElem_toArray, List.getElem_cons_succ, List.getElem_cons_zero, List.setIfInBounds_toArray, List.set_cons_zero, List.set_cons_succ])
        refine wpAnyH_take (i := 1) (v := ?_) rfl (by kernel_rfl) (by kernel_rfl) (by kernel_rfl) (fun _ _ _ h => h) (Or.inl ⟨by rfl, ?_⟩) (by assumption) ?_
        rotate_left 1
        focus (intro w hSw; (try dsimp only at hSw); obtain ⟨p0, p1, p2, p3, p4, p5, p6⟩ := Bk.c7 hSw; go_simp; (try with_reducible rfl))
        (try simp only [Act.put, List.getElem_toArray, List.getElem_cons_succ, List.getElem_cons_zero, List.setIfInBounds_toArray, List.set_cons_zero, List.set_cons_succ])
        refine wpAnyH_take (i := 3) (v := ?_) rfl (by kernel_rfl) (by kernel_rfl) (by kernel_rfl) (fun _ _ _ h => h) (Or.inl ⟨by rfl, ?_⟩) (by assumption) ?_
        rotate_left 1
        focus (intro w hSw; (try dsimp only at hSw); obtain ⟨p0, p1, p2, p3, p4, p5, p6⟩ := Bk.c7 hSw; go_simp; (try with_reducible rfl))
        (try simp only [Act.put, List.getElem_toArray, List.getElem_cons_succ, List.getElem_cons_zero, List.setIfInBounds_toArray, List.set_cons_zero, List.set_cons_succ])
        refine wpAnyH_take (i := 4) (v := ?_) rfl (by kernel_rfl) (by kernel_rfl) (by kernel_rfl) (fun _ _ _ h => h) (Or.inl ⟨by rfl, ?_⟩) (by assumption) ?_
        rotate_left 1
        focus (intro w hSw; (try dsimp only at hSw); obtain ⟨p0, p1, p2, p3, p4, p5, p6⟩ := Bk.c7 hSw; go_simp; (try with_reducible rfl))
        (try simp only [Act.put, List.getElem_toArray, List.getElem_cons_succ, List.getElem_cons_zero, List.setIfInBounds_toArray, List.set_cons_zero, List.set_cons_succ])
        refine wpAnyH_take (i := 5) (v := ?_) rfl (by kernel_rfl) (by kernel_rfl) (by kernel_rfl) (fun _ _ _ h => h) (Or.inl ⟨by rfl, ?_⟩) (by assumption) ?_
        rotate_left 1
        focus (intro w hSw; (try dsimp only at hSw); obtain ⟨p0, p1, p2, p3, p4, p5, p6⟩ := Bk.c7 hSw; go_simp; (try with_reducible rfl))
        (try simp only [Act.put, List.getElem_toArray, List.getElem_cons_succ, List.getElem_cons_zero, List.setIfInBounds_toArray, List.set_cons_zero, List.set_cons_succ])
        refine wpAnyH_take (i := 6) (v := ?_) rfl (by kernel_rfl) (by kernel_rfl) (by kernel_rfl) (fun _ _ _ h => h) (Or.inl ⟨by rfl, ?_⟩) (by assumption) ?_
        rotate_left 1
        focus (intro w hSw; (try dsimp only at hSw); obtain ⟨p0, p1, p2, p3, p4, p5, p6⟩ := Bk.c7 hSw; go_simp; (try with_reducible rfl))
        (try simp only [Act.put, List.getElem_toArray, List.getElem_cons_succ, List.getElem_cons_zero, List.setIfInBounds_toArray, List.set_cons_zero, List.set_cons_succ])
        refine wpAnyH_take (i := 7) (v := ?_) rfl (by kernel_rfl) (by kernel_rfl) (by kernel_rfl) (fun _ _ _ h => h) (Or.inl ⟨by rfl, ?_⟩) (by assumption) ?_
        rotate_left 1
        focus (intro w hSw; (try dsimp only at hSw); obtain ⟨p0, p1, p2, p3, p4, p5, p6⟩ := Bk.c7 hSw; go_simp; (try with_reducible rfl))
        (try simp only [Act.put, List.getElem_toArray, List.getElem_cons_succ, List.getElem_cons_zero, List.setIfInBounds_toArray, List.set_cons_zero, List.set_cons_succ])
        refine wpAnyH_take (i := 8) (v := ?_) rfl (by kernel_rfl) (by kernel_rfl) (by kernel_rfl) (fun _ _ _ h => h) (Or.inl ⟨by rfl, ?_⟩) (by assumption) ?_
        rotate_left 1
        focus (intro w hSw; (try dsimp only at hSw); obtain ⟨p0, p1, p2, p3, p4, p5, p6⟩ := Bk.c7 hSw; go_simp; (try with_reducible rfl))
        (try simp only [Act.put, List.getElem_toArray, List.getElem_cons_succ, List.getElem_cons_zero, List.setIfInBounds_toArray, List.set_cons_zero, List.set_cons_succ])
        refine wpAnyH_take (i := 9) (v := ?_) rfl (by kernel_rfl) (by kernel_rfl) (by kernel_rfl) (fun _ _ _ h => h) (Or.inl ⟨by rfl, ?_⟩) (by assumption) ?_
        rotate_left 1
        focus (intro w hSw; (try dsimp only at hSw); obtain ⟨p0, p1, p2, p3, p4, p5, p6⟩ := Bk.c7 hSw; go_simp; (try with_reducible rfl))
        (try simp only [Act.put, List.getElem_toArray, List.getElem_cons_succ, List.getElem_cons_zero, List.setIfInBounds_toArray, List.set_cons_zero, List.set_cons_succ])
        refine wpAnyH_take (i := 10) (v := ?_) rfl (by kernel_rfl) (by kernel_rfl) (by kernel_rfl) (fun _ _ _ h => h) (Or.inl ⟨by rfl, ?_⟩) (by assumption) ?_
        rotate_left 1
        focus (intro w hSw; (try dsimp only at hSw); obtain ⟨p0, p1, p2, p3, p4, p5, p6⟩ := Bk.c7 hSw; go_simp; (try with_reducible rfl))
        (try simp only [Act.put, List.getElem_toArray, List.getElem_cons_succ, List.getElem_cons_zero, List.setIfInBounds_toArray, List.set_cons_zero, List.set_cons_succ])
        refine wpAnyH_take (i := 11) (v := ?_) rfl (by kernel_rfl) (by kernel_rfl) (by kernel_rfl) (fun _ _ _ h => h) (Or.inl ⟨by rfl, ?_⟩) (by assumption) ?_
        rotate_left 1
        focus (intro w hSw; (try dsimp only at hSw); obtain ⟨p0, p1, p2, p3, p4, p5, p6⟩ := Bk.c7 hSw; go_simp; (try with_reducible rfl))
        (try simp only [Act.put, List.getElem_toArray, List.getElem_cons_succ, List.getElem_cons_zero, List.setIfInBounds_toArray, List.set_cons_zero, List.set_cons_succ])
        refine wpAnyH_take (i := 12) (v := ?_) rfl (by kernel_rfl) (by kernel_rfl) (by kernel_rfl) (fun _ _ _ h => h) (Or.inl ⟨by rfl, ?_⟩) (by assumption) ?_
        rotate_left 1
        focus (intro w hSw; (try dsimp only at hSw); obtain ⟨p0, p1, p2, p3, p4, p5, p6⟩ := Bk.c7 hSw; go_simp; (try with_reducible rfl))
        (try simp only [Act.put, List.getElem_toArray, List.getElem_cons_succ, List.getElem_cons_zero, List.setIfInBounds_toArray, List.set_cons_zero, List.set_cons_succ])
        refine wpAnyH_take (i := 13) (v := ?_) rfl (by kernel_rfl) (by kernel_rfl) (by kernel_rfl) (fun _ _ _ h => h) (Or.inl ⟨by rfl, ?_⟩) (by assumption) ?_
        rotate_left 1
        focus (intro w hSw; (try dsimp only at hSw); obtain ⟨p0, p1, p2, p3, p4, p5, p6⟩ := Bk.c7 hSw; go_simp; (try with_reducible rfl))
        (try simp only [Act.put, List.getElem_toArray, List.getElem_cons_succ, List.getElem_cons_zero, List.setIfInBounds_toArray, List.set_cons_zero, List.set_cons_succ])
        refine wpAnyH_take (i := 14) (v := ?_) rfl (by kernel_rfl) (by kernel_rfl) (by kernel_rfl) (fun _ _ _ h => h) (Or.inl ⟨by rfl, ?_⟩) (by assumption) ?_
        rotate_left 1
        focus (intro w hSw; (try dsimp only at hSw); obtain ⟨p0, p1, p2, p3, p4, p5, p6⟩ := Bk.c7 hSw; go_simp; (try with_reducible rfl))
        (try simp only [Act.put, List.getElem_toArray, List.getElem_cons_succ, List.getElem_cons_zero, List.setIfInBounds_toArray, List.set_cons_zero, List.set_cons_succ])
        refine wpAnyH_ready (rs := [2]) (by kernel_rfl) (by simp) ?_
        refine AllReadyH.cons rfl (fun K hK => ?_) AllReadyH.nil
        go_simp
        refine HDO.out.mono ?_
        rintro e w4 ⟨rfl, u5, hA4, hf4, ho4⟩
        have hB4 := hf4.blk hB7 hfp7
        have hR4 := (hR3.frm0 ((Frm.refl (fun _ => False) w3).drew)).frm hf4 (fun k hk e => HSEP.out k e hk)
        have hs4 := hf4.size
        (try go_wp2_with fail)
        refine hK.out _ _ ?_ (fun hHeld => ?_)
        focus (exact hB4)
        clear hK K
        (try simp only [Act.put, List.getElem_toArray, List.getElem_cons_succ, List.getElem_cons_zero, List.setIfInBounds_toArray, List.set_cons_zero, List.set_cons_succ])
        refine wpAnyH_ready (rs := [15]) (by kernel_rfl) (by simp) ?_
        refine AllReadyH.cons rfl (fun K hK => ?_) AllReadyH.nil
        go_simp
        refine (rdo_to c hR4 (by omega) (by omega) hlate HCALL.out).mono ?_
        rintro e w5 ⟨rfl, v5, y5, hR5, hf5, ho51, ho52⟩
        have hrf7 : ¬ rfp rb v1 v2 (D + 1) := by
          rintro (e | e | e)
          · omega
          · have := (HVL.out.1 _ e); omega
          · have := (HVL.out.2 _ e); omega
        have hB5 := hf5.blk hB4 hrf7
        (try go_wp2_with fail)
        refine hK.out _ _ ?_ (fun hHeld => ?_)
        focus (exact hB5)
        clear hK K
        (try simp only [Act.put, List.getElem_toArray, List.getElem_cons_succ, List.getElem_cons_zero, List.setIfInBounds_toArray, List.set_cons_zero, List.set_cons_succ])
        refine wpAnyH_take (i := 16) (v := ?_) rfl (by kernel_rfl) (by kernel_rfl) (by kernel_rfl) (fun _ _ _ h => h) (Or.inl ⟨by rfl, ?_⟩) (by assumption) ?_
        rotate_left 1
        focus (intro w hSw; (try dsimp only at hSw); go_simp; (try with_reducible rfl))
        (try simp only [Act.put, List.getElem_toArray, List.getElem_cons_succ, List.getElem_cons_zero, List.setIfInBounds_toArray, List.set_cons_zero, List.set_cons_succ])
        refine wpAnyH_take (i := 17) (v := ?_) rfl (by kernel_rfl) (by kernel_rfl) (by kernel_rfl) (fun _ _ _ h => h) (Or.inl ⟨by rfl, ?_⟩) (by assumption) ?_
        rotate_left 1
        focus (intro w hSw; (try dsimp only at hSw); have qn := HNE.out; go_simp; (try with_reducible rfl))
        (try simp only [Act.put, List.getElem_toArray, List.getElem_cons_succ, List.getElem_cons_zero, List.setIfInBounds_toArray, List.set_cons_zero, List.set_cons_succ])
        refine wpAnyH_done (by kernel_rfl) ?_ _
        have hds : w3.drew.heap.size = w3.heap.size := rfl
        have hDl := Bk.lt hB7
        have hUl : ∀ i, fp b u5 i → i < w4.heap.size := fun i hi => by
          have := hA4.lt
          rcases hi with h | h | h | h
          · omega
          · omega
          · omega
          · exact (hA4.own i h).2
        have hU : ∀ i, fp b u5 i → ¬ rfp rb v1 v2 i := fun i hi e => by
          rcases hi with h | h | h | h
          · exact HSEP.out i (.inl h) e
          · exact HSEP.out i (.inr (.inl h)) e
          · exact HSEP.out i (.inr (.inr (.inl h))) e
          · rcases ho4 with h2 | h2
            · rw [h2] at h; exact HSEP.out i (.inr (.inr (.inr h))) e
            · have h3 := h2 i h
              rcases e with e | e | e
              · omega
              · have := HVL.out.1 i e; omega
              · have := HVL.out.2 i e; omega
        have hA5 := hA4.frm hf5 hU
        have HSEP5 := Lib.hid (show ∀ i, fp b u5 i → ¬ rfp rb v5 y5 i from fun i hi e => by
          have h1 := hUl i hi
          rcases e with e | e | e
          · exact hU i hi (.inl e)
          · rcases ho51 with h2 | h2
            · rw [h2] at e; exact hU i hi (.inr (.inl e))
            · have := h2 i e; omega
          · rcases ho52 with h2 | h2
            · rw [h2] at e; exact hU i hi (.inr (.inr e))
            · have := h2 i e; omega)
        have hF5 := (hF3.drew.then_ hf4 (fun i hi e => by
          rcases e with e | e | e | e
          · omega
          · omega
          · omega
          · have := (hA3.own i e).1; omega)).then_ hf5 (fun i hi e => by
          rcases e with e | e | e
          · omega
          · have := (hR3.r1.lt i e).1; omega
          · have := (hR3.r2.lt i e).1; omega)
        have hl51 := hl5.1
        have hl52 := hl5.2
        clear hU hUl hf4 hf5 ho4 ho51 ho52 hA4 hR4 hB4 hrf7 hfp7 hA3 hR3 hF3 hds hl5 hlate hB6 hB7 m0 m1 m2 m3 m4 m5 m6 m7 m8
        obtain ⟨p0, p1, p2, p3, p4, p5, p6⟩ := Bk.c7 hB5
        obtain ⟨⟨x1, x2⟩, hx⟩ : ∃ x, seenV (find s5.ls c.tenant c.key c.epoch) = x := ⟨_, rfl⟩
        have HX := Lib.hid hx
        clear hx
        go_wp2_with fail
        refine (seen_to HKOK.out hA5 HX.out).mono ?_
        rintro e w6 ⟨rfl, hf6⟩
        have hA6 := hA5.frm0 hf6
        have hR6 := hR5.frm0 hf6
        have hB6 := hf6.blk hB5 (fun h => h)
        have hF6 := hF5.trans hf6
        clear hA5 hR5 hB5 hF5 hf6 p0 p1 p2 p3 p4 p5 p6
        obtain ⟨p0, p1, p2, p3, p4, p5, p6⟩ := Bk.c7 hB6
        go_wp2_with fail
        refine (at_any hR6 c.tenant c.key c.epoch).mono ?_
        obtain ⟨p, hp⟩ : ∃ p, place s5.ls c.tenant c.key c.epoch = p := ⟨_, rfl⟩
        rw [hp]
        have HPL := Lib.hid hp
        clear hp
        rintro e w7 ⟨rfl, hf7⟩
        have hA7 := hA6.frm0 hf7
        have hR7 := hR6.frm0 hf7
        have hF7 := hF6.trans hf7
        clear hA6 hR6 hB6 hF6 hf7 p0 p1 p2 p3 p4 p5 p6
        obtain ⟨a0, a1, a2⟩ := Bk.c3 hR7.blk
        have hif := idx_find s5.ls c.tenant c.key c.epoch
        have hile := idx_le s5.ls c.tenant c.key c.epoch
        have hpl : p = if idx s5.ls c.tenant c.key c.epoch < s5.ls.length then (idx s5.ls c.tenant c.key c.epoch : Int) else -1 := HPL.out.symm
        generalize idx s5.ls c.tenant c.key c.epoch = i at *
        by_cases hil : i < s5.ls.length
        · rw [if_pos hil] at hpl
          subst hpl
          have hf := (hif.1 hil).1
          have hxe : (x1, x2) = (s5.ls[i].tok, true) := by rw [← HX.out, hf]; rfl
          obtain ⟨g, cap, hv5⟩ : ∃ g cap, v5 = .slice (some ⟨g, 0, none⟩) s5.ls.length cap := by
            rcases hR7.r1.2 with ⟨_, h0⟩ | ⟨g, cap, cur, he, _⟩
            · omega
            · exact ⟨g, cap, he⟩
          subst hv5
          have htc := owns_range (f := Lf.cells) (l := s5.ls) hR7.r1 (fun _ => rfl) rfl i hil 3 _ rfl
          generalize s5.ls[i].tok = tok at *
          obtain ⟨rfl, rfl⟩ := Prod.mk.inj hxe
          clear hxe
          have hii : (i : Int) < (s5.ls.length : Int) := by omega
          have hi0 : (0 : Int) ≤ (i : Int) := by omega
          have hd0 : decide ((0 : Int) ≤ (i : Int)) = true := decide_eq_true hi0
          have HIL := Lib.hid hil
          clear hif hf hil hile
          go_upto_region 21 with (fail)
          have HRB := Lib.hid hR7.blk
          have HA7 := Lib.hid hA7
          have HR7 := Lib.hid hR7
          have HF7 := Lib.hid hF7
          have HS7 := Lib.hid (Sl.of_own hR7.r2)
          clear hR7 hA7 hF7
          refine wp_region_held_drew (S := fun w9 => Frm0 w7 w9) (by kernel_rfl) (((Frm.refl (fun _ => False) w7).drew)) (fun hHeld => ?_)
          skip
          refine wpAnyH_take (i := 0) (v := ?_) rfl (by kernel_rfl) (by kernel_rfl) (by kernel_rfl) (fun _ _ _ h => h) (Or.inl ⟨by rfl, ?_⟩) (by assumption) ?_
          rotate_left 1
          focus (intro w hSw; (try dsimp only at hSw); go_simp; (try with_reducible rfl))
          (try simp only [Act.put, List.getElem_toArray, List.getElem_cons_succ, List.getElem_cons_zero, List.setIfInBounds_toArray, List.set_cons_zero, List.set_cons_succ])
          refine wpAnyH_take (i := 1) (v := ?_) rfl (by kernel_rfl) (by kernel_rfl) (by kernel_rfl) (fun _ _ _ h => h) (Or.inl ⟨by rfl, ?_⟩) (by assumption) ?_
          rotate_left 1
          focus (intro w hSw; (try dsimp only at hSw); go_simp; (try with_reducible rfl))
          (try simp only [Act.put, List.getElem_toArray, List.getElem_cons_succ, List.getElem_cons_zero, List.setIfInBounds_toArray, List.set_cons_zero, List.set_cons_succ])
          refine wpAnyH_take (i := 2) (v := ?_) rfl (by kernel_rfl) (by kernel_rfl) (by kernel_rfl) (fun _ _ _ h => h) (Or.inl ⟨by rfl, ?_⟩) (by assumption) ?_
          rotate_left 1
          focus (intro w hSw; (try dsimp only at hSw); go_simp; (try with_reducible rfl))
          (try simp only [Act.put, List.getElem_toArray, List.getElem_cons_succ, List.getElem_cons_zero, List.setIfInBounds_toArray, List.set_cons_zero, List.set_cons_succ])
          refine wpAnyH_take (i := 3) (v := ?_) rfl (by kernel_rfl) (by kernel_rfl) (by kernel_rfl) (fun _ _ _ h => h) (Or.inl ⟨by rfl, ?_⟩) (by assumption) ?_
          rotate_left 1
          focus (intro w hSw; (try dsimp only at hSw); go_simp; (try with_reducible rfl))
          (try simp only [Act.put, List.getElem_toArray, List.getElem_cons_succ, List.getElem_cons_zero, List.setIfInBounds_toArray, List.set_cons_zero, List.set_cons_succ])
          refine wpAnyH_take (i := 4) (v := ?_) rfl (by kernel_rfl) (by kernel_rfl) (by kernel_rfl) (fun _ _ _ h => h) (Or.inl ⟨by rfl, ?_⟩) (by assumption) ?_
          rotate_left 1
          focus (intro w hSw; (try dsimp only at hSw); go_simp; (try with_reducible rfl))
          (try simp only [Act.put, List.getElem_toArray, List.getElem_cons_succ, List.getElem_cons_zero, List.setIfInBounds_toArray, List.set_cons_zero, List.set_cons_succ])
          refine wpAnyH_take (i := 5) (v := ?_) rfl (by kernel_rfl) (by kernel_rfl) (by kernel_rfl) (fun _ _ _ h => h) (Or.inl ⟨by rfl, ?_⟩) (by assumption) ?_
          rotate_left 1
          focus (intro w hSw; (try dsimp only at hSw); go_simp; (try with_reducible rfl))
          (try simp only [Act.put, List.getElem_toArray, List.getElem_cons_succ, List.getElem_cons_zero, List.setIfInBounds_toArray, List.set_cons_zero, List.set_cons_succ])
          refine wpAnyH_take (i := 6) (v := ?_) rfl (by kernel_rfl) (by kernel_rfl) (by kernel_rfl) (fun _ _ _ h => h) (Or.inl ⟨by rfl, ?_⟩) (by assumption) ?_
          rotate_left 1
          focus (intro w hSw; (try dsimp only at hSw); go_simp; (try with_reducible rfl))
          (try simp only [Act.put, List.getElem_toArray, List.getElem_cons_succ, List.getElem_cons_zero, List.setIfInBounds_toArray, List.set_cons_zero, List.set_cons_succ])
          refine wpAnyH_take (i := 7) (v := ?_) rfl (by kernel_rfl) (by kernel_rfl) (by kernel_rfl) (fun _ _ _ h => h) (Or.inl ⟨by rfl, ?_⟩) (by assumption) ?_
          rotate_left 1
          focus (intro w hSw; (try dsimp only at hSw); go_simp; (try with_reducible rfl))
          (try simp only [Act.put, List.getElem_toArray, List.getElem_cons_succ, List.getElem_cons_zero, List.setIfInBounds_toArray, List.set_cons_zero, List.set_cons_succ])
          refine wpAnyH_take (i := 8) (v := ?_) rfl (by kernel_rfl) (by kernel_rfl) (by kernel_rfl) (fun _ _ _ h => h) (Or.inl ⟨by rfl, ?_⟩) (by assumption) ?_
          rotate_left 1
          focus (intro w hSw; (try dsimp only at hSw); go_simp; (try with_reducible rfl))
          (try simp only [Act.put, List.getElem_toArray, List.getElem_cons_succ, List.getElem_cons_zero, List.setIfInBounds_toArray, List.set_cons_zero, List.set_cons_succ])
          refine wpAnyH_take (i := 9) (v := ?_) rfl (by kernel_rfl) (by kernel_rfl) (by kernel_rfl) (fun _ _ _ h => h) (Or.inl ⟨by rfl, ?_⟩) (by assumption) ?_
          rotate_left 1
          focus (intro w hSw; (try dsimp only at hSw); go_simp; (try with_reducible rfl))
          (try simp only [Act.put, List.getElem_toArray, List.getElem_cons_succ, List.getElem_cons_zero, List.setIfInBounds_toArray, List.set_cons_zero, List.set_cons_succ])
          refine wpAnyH_take (i := 10) (v := ?_) rfl (by kernel_rfl) (by kernel_rfl) (by kernel_rfl) (fun _ _ _ h => h) (Or.inl ⟨by rfl, ?_⟩) (by assumption) ?_
          rotate_left 1
          focus (intro w hSw; (try dsimp only at hSw); go_simp; (try with_reducible rfl))
          (try simp only [Act.put, List.getElem_toArray, List.getElem_cons_succ, List.getElem_cons_zero, List.setIfInBounds_toArray, List.set_cons_zero, List.set_cons_succ])
          refine wpAnyH_take (i := 12) (v := ?_) rfl (by kernel_rfl) (by kernel_rfl) (by kernel_rfl) (fun _ _ _ h => h) (Or.inl ⟨by rfl, ?_⟩) (by assumption) ?_
          rotate_left 1
          focus (intro w hSw; (try dsimp only at hSw); obtain ⟨q0, q1, q2⟩ := Bk.c3 (Frm.blk hSw HRB.out (fun h => h)); go_simp; (try with_reducible rfl))
          (try simp only [Act.put, List.getElem_toArray, List.getElem_cons_succ, List.getElem_cons_zero, List.setIfInBounds_toArray, List.set_cons_zero, List.set_cons_succ])
          refine wpAnyH_take (i := 13) (v := ?_) rfl (by kernel_rfl) (by kernel_rfl) (by kernel_rfl) (fun _ _ _ h => h) (Or.inl ⟨by rfl, ?_⟩) (by assumption) ?_
          rotate_left 1
          focus (intro w hSw; (try dsimp only at hSw); obtain ⟨q0, q1, q2⟩ := Bk.c3 (Frm.blk hSw HRB.out (fun h => h)); go_simp; (try with_reducible rfl))
          (try simp only [Act.put, List.getElem_toArray, List.getElem_cons_succ, List.getElem_cons_zero, List.setIfInBounds_toArray, List.set_cons_zero, List.set_cons_succ])
          refine wpAnyH_take (i := 14) (v := ?_) rfl (by kernel_rfl) (by kernel_rfl) (by kernel_rfl) (fun _ _ _ h => h) (Or.inl ⟨by rfl, ?_⟩) (by assumption) ?_
          rotate_left 1
          focus (intro w hSw; (try dsimp only at hSw); obtain ⟨q0, q1, q2⟩ := Bk.c3 (Frm.blk hSw HRB.out (fun h => h)); go_simp; (try with_reducible rfl))
          (try simp only [Act.put, List.getElem_toArray, List.getElem_cons_succ, List.getElem_cons_zero, List.setIfInBounds_toArray, List.set_cons_zero, List.set_cons_succ])
          refine wpAnyH_take (i := 15) (v := ?_) rfl (by kernel_rfl) (by kernel_rfl) (by kernel_rfl) (fun _ _ _ h => h) (Or.inl ⟨by rfl, ?_⟩) (by assumption) ?_
          rotate_left 1
          focus (intro w hSw; (try dsimp only at hSw); obtain ⟨q0, q1, q2⟩ := Bk.c3 (Frm.blk hSw HRB.out (fun h => h)); go_simp; (try with_reducible rfl))
          (try simp only [Act.put, List.getElem_toArray, List.getElem_cons_succ, List.getElem_cons_zero, List.setIfInBounds_toArray, List.set_cons_zero, List.set_cons_succ])
          refine wpAnyH_ready (rs := [11]) (by kernel_rfl) (by simp) ?_
          refine AllReadyH.cons rfl (fun K hK => ?_) AllReadyH.nil
          go_simp
          refine (left_any (HA7.out.frm0 (by assumption))).mono ?_
          rintro e w8 ⟨rfl, rfl⟩
          (try go_wp2_with fail)
          refine hK.out _ _ ?_ (fun hHeld => ?_)
          focus (assumption)
          clear hK K
          (try simp only [Act.put, List.getElem_toArray, List.getElem_cons_succ, List.getElem_cons_zero, List.setIfInBounds_toArray, List.set_cons_zero, List.set_cons_succ])
          refine wpAnyH_take (i := 16) (v := ?_) rfl (by kernel_rfl) (by kernel_rfl) (by kernel_rfl) (fun _ _ _ h => h) (Or.inl ⟨by rfl, ?_⟩) (by assumption) ?_
          rotate_left 1
          focus (intro w hSw; (try dsimp only at hSw); go_simp; (try with_reducible rfl))
          (try simp only [Act.put, List.getElem_toArray, List.getElem_cons_succ, List.getElem_cons_zero, List.setIfInBounds_toArray, List.set_cons_zero, List.set_cons_succ])
          refine wpAnyH_take (i := 17) (v := ?_) rfl (by kernel_rfl) (by kernel_rfl) (by kernel_rfl) (fun _ _ _ h => h) (Or.inl ⟨by rfl, ?_⟩) (by assumption) ?_
          rotate_left 1
          focus (intro w hSw; (try dsimp only at hSw); go_simp; (try with_reducible rfl))
          (try simp only [Act.put, List.getElem_toArray, List.getElem_cons_succ, List.getElem_cons_zero, List.setIfInBounds_toArray, List.set_cons_zero, List.set_cons_succ])
          refine wpAnyH_take (i := 18) (v := ?_) rfl (by kernel_rfl) (by kernel_rfl) (by kernel_rfl) (fun _ _ _ h => h) (Or.inl ⟨by rfl, ?_⟩) (by assumption) ?_
          rotate_left 1
          focus (intro w hSw; (try dsimp only at hSw); go_simp; (try with_reducible rfl))
          (try simp only [Act.put, List.getElem_toArray, List.getElem_cons_succ, List.getElem_cons_zero, List.setIfInBounds_toArray, List.set_cons_zero, List.set_cons_succ])
          refine wpAnyH_take (i := 19) (v := ?_) rfl (by kernel_rfl) (by kernel_rfl) (by kernel_rfl) (fun _ _ _ h => h) (Or.inl ⟨by rfl, ?_⟩) (by assumption) ?_
          rotate_left 1
          focus (intro w hSw; (try dsimp only at hSw); go_simp; (try with_reducible rfl))
          (try simp only [Act.put, List.getElem_toArray, List.getElem_cons_succ, List.getElem_cons_zero, List.setIfInBounds_toArray, List.set_cons_zero, List.set_cons_succ])
          refine wpAnyH_take (i := 21) (v := ?_) rfl (by kernel_rfl) (by kernel_rfl) (by kernel_rfl) (fun _ _ _ h => h) (Or.inl ⟨by rfl, ?_⟩) (by assumption) ?_
          rotate_left 1
          focus (intro w hSw; (try dsimp only at hSw); obtain ⟨q0, q1, q2⟩ := Bk.c3 (Frm.blk hSw HRB.out (fun h => h)); go_simp; (try with_reducible rfl))
          (try simp only [Act.put, List.getElem_toArray, List.getElem_cons_succ, List.getElem_cons_zero, List.setIfInBounds_toArray, List.set_cons_zero, List.set_cons_succ])
          refine wpAnyH_take (i := 22) (v := ?_) rfl (by kernel_rfl) (by kernel_rfl) (by kernel_rfl) (fun _ _ _ h => h) (Or.inl ⟨by rfl, ?_⟩) (by assumption) ?_
          rotate_left 1
          focus (intro w hSw; (try dsimp only at hSw); obtain ⟨q0, q1, q2⟩ := Bk.c3 (Frm.blk hSw HRB.out (fun h => h)); go_simp; (try with_reducible rfl))
          (try simp only [Act.put, List.getElem_toArray, List.getElem_cons_succ, List.getElem_cons_zero, List.setIfInBounds_toArray, List.set_cons_zero, List.set_cons_succ])
          refine wpAnyH_take (i := 23) (v := ?_) rfl (by kernel_rfl) (by kernel_rfl) (by kernel_rfl) (fun _ _ _ h => h) (Or.inl ⟨by rfl, ?_⟩) (by assumption) ?_
          rotate_left 1
          focus (intro w hSw; (try dsimp only at hSw); obtain ⟨q0, q1, q2⟩ := Bk.c3 (Frm.blk hSw HRB.out (fun h => h)); go_simp; (try with_reducible rfl))
          (try simp only [Act.put, List.getElem_toArray, List.getElem_cons_succ, List.getElem_cons_zero, List.setIfInBounds_toArray, List.set_cons_zero, List.set_cons_succ])
          refine wpAnyH_take (i := 24) (v := ?_) rfl (by kernel_rfl) (by kernel_rfl) (by kernel_rfl) (fun _ _ _ h => h) (Or.inl ⟨by rfl, ?_⟩) (by assumption) ?_
          rotate_left 1
          focus (intro w hSw; (try dsimp only at hSw); obtain ⟨q0, q1, q2⟩ := Bk.c3 (Frm.blk hSw HRB.out (fun h => h)); go_simp; (try with_reducible rfl))
          (try simp only [Act.put, List.getElem_toArray, List.getElem_cons_succ, List.getElem_cons_zero, List.setIfInBounds_toArray, List.set_cons_zero, List.set_cons_succ])
          refine wpAnyH_ready (rs := [20]) (by kernel_rfl) (by simp) ?_
          refine AllReadyH.cons rfl (fun K hK => ?_) AllReadyH.nil
          go_simp
          refine (effects_any (HA7.out.frm0 (by assumption)) (by omega)).mono ?_
          rintro e w9 ⟨y9, rfl, hr9, hf9⟩
          (try go_wp2_with fail)
          refine hK.out _ _ ?_ (fun hHeld => ?_)
          focus (exact Frm.trans (by assumption) hf9)
          clear hK K
          (try simp only [Act.put, List.getElem_toArray, List.getElem_cons_succ, List.getElem_cons_zero, List.setIfInBounds_toArray, List.set_cons_zero, List.set_cons_succ])
          refine wpAnyH_ready (rs := [25]) (by kernel_rfl) (by simp) ?_
          refine AllReadyH.cons rfl (fun K hK => ?_) AllReadyH.nil
          go_simp
          refine (same_any s5.ef _ _ _ (Sl.of_own hr9) (HS7.out.frm0 (Frm.trans (by assumption) hf9))).mono ?_
          rintro e w10 ⟨rfl, hf10⟩
          (try go_wp2_with fail)
          refine hK.out _ _ ?_ (fun hHeld => ?_)
          focus (exact Frm.trans (by assumption) hf10)
          clear hK K
          (try simp only [Act.put, List.getElem_toArray, List.getElem_cons_succ, List.getElem_cons_zero, List.setIfInBounds_toArray, List.set_cons_zero, List.set_cons_succ])
          refine wpAnyH_take (i := 26) (v := ?_) rfl (by kernel_rfl) (by kernel_rfl) (by kernel_rfl) (fun _ _ _ h => h) (Or.inl ⟨by rfl, ?_⟩) (by assumption) ?_
          rotate_left 1
          focus (intro w hSw; (try dsimp only at hSw); go_simp; (try with_reducible rfl))
          (try simp only [Act.put, List.getElem_toArray, List.getElem_cons_succ, List.getElem_cons_zero, List.setIfInBounds_toArray, List.set_cons_zero, List.set_cons_succ])
          refine wpAnyH_take (i := 27) (v := ?_) rfl (by kernel_rfl) (by kernel_rfl) (by kernel_rfl) (fun _ _ _ h => h) (Or.inl ⟨by rfl, ?_⟩) (by assumption) ?_
          rotate_left 1
          focus (intro w hSw; (try dsimp only at hSw); go_simp; (try with_reducible rfl))
          (try simp only [Act.put, List.getElem_toArray, List.getElem_cons_succ, List.getElem_cons_zero, List.setIfInBounds_toArray, List.set_cons_zero, List.set_cons_succ])
          refine wpAnyH_done (by kernel_rfl) ?_ _
          have hfz := (by assumption : Frm0 w7 w10)
          go_wp2_with fail
          go_roundw
          case rel => exact ⟨k + 1, s5, u5, _, y5, by omega, by go_num, (HA7.out.frm0 hfz).more (by omega), HR7.out.frm0 hfz, by omega, by omega, HSEP5.out, HF7.out.trans hfz⟩
          case measure => simp [intOf]; omega
        · rw [if_neg hil] at hpl
          subst hpl
          have hf := hif.2 (by omega)
          have hxe : (x1, x2) = ((0 : Int), false) := by rw [← HX.out, hf]; rfl
          obtain ⟨rfl, rfl⟩ := Prod.mk.inj hxe
          clear hxe
          clear hif hf hil hile
          go_upto_region 21 with (fail)
          have HRB := Lib.hid hR7.blk
          have HA7 := Lib.hid hA7
          have HR7 := Lib.hid hR7
          have HF7 := Lib.hid hF7
          have HS7 := Lib.hid (Sl.of_own hR7.r2)
          clear hR7 hA7 hF7
          refine wp_region_held_drew (S := fun w9 => Frm0 w7 w9) (by kernel_rfl) (((Frm.refl (fun _ => False) w7).drew)) (fun hHeld => ?_)
          skip
          refine wpAnyH_take (i := 0) (v := ?_) rfl (by kernel_rfl) (by kernel_rfl) (by kernel_rfl) (fun _ _ _ h => h) (Or.inl ⟨by rfl, ?_⟩) (by assumption) ?_
          rotate_left 1
          focus (intro w hSw; (try dsimp only at hSw); go_simp; (try with_reducible rfl))
          (try simp only [Act.put, List.getElem_toArray, List.getElem_cons_succ, List.getElem_cons_zero, List.setIfInBounds_toArray, List.set_cons_zero, List.set_cons_succ])
          refine wpAnyH_take (i := 1) (v := ?_) rfl (by kernel_rfl) (by kernel_rfl) (by kernel_rfl) (fun _ _ _ h => h) (Or.inl ⟨by rfl, ?_⟩) (by assumption) ?_
          rotate_left 1
          focus (intro w hSw; (try dsimp only at hSw); go_simp; (try with_reducible rfl))
          (try simp only [Act.put, List.getElem_toArray, List.getElem_cons_succ, List.getElem_cons_zero, List.setIfInBounds_toArray, List.set_cons_zero, List.set_cons_succ])
          refine wpAnyH_take (i := 2) (v := ?_) rfl (by kernel_rfl) (by kernel_rfl) (by kernel_rfl) (fun _ _ _ h => h) (Or.inl ⟨by rfl, ?_⟩) (by assumption) ?_
          rotate_left 1
          focus (intro w hSw; (try dsimp only at hSw); go_simp; (try with_reducible rfl))
          (try simp only [Act.put, List.getElem_toArray, List.getElem_cons_succ, List.getElem_cons_zero, List.setIfInBounds_toArray, List.set_cons_zero, List.set_cons_succ])
          refine wpAnyH_take (i := 3) (v := ?_) rfl (by kernel_rfl) (by kernel_rfl) (by kernel_rfl) (fun _ _ _ h => h) (Or.inl ⟨by rfl, ?_⟩) (by assumption) ?_
          rotate_left 1
          focus (intro w hSw; (try dsimp only at hSw); go_simp; (try with_reducible rfl))
          (try simp only [Act.put, List.getElem_toArray, List.getElem_cons_succ, List.getElem_cons_zero, List.setIfInBounds_toArray, List.set_cons_zero, List.set_cons_succ])
          refine wpAnyH_take (i := 4) (v := ?_) rfl (by kernel_rfl) (by kernel_rfl) (by kernel_rfl) (fun _ _ _ h => h) (Or.inl ⟨by rfl, ?_⟩) (by assumption) ?_
          rotate_left 1
          focus (intro w hSw; (try dsimp only at hSw); go_simp; (try with_reducible rfl))
          (try simp only [Act.put, List.getElem_toArray, List.getElem_cons_succ, List.getElem_cons_zero, List.setIfInBounds_toArray, List.set_cons_zero, List.set_cons_succ])
          refine wpAnyH_take (i := 5) (v := ?_) rfl (by kernel_rfl) (by kernel_rfl) (by kernel_rfl) (fun _ _ _ h => h) (Or.inl ⟨by rfl, ?_⟩) (by assumption) ?_
          rotate_left 1
          focus (intro w hSw; (try dsimp only at hSw); go_simp; (try with_reducible rfl))
          (try simp only [Act.put, List.getElem_toArray, List.getElem_cons_succ, List.getElem_cons_zero, List.setIfInBounds_toArray, List.set_cons_zero, List.set_cons_succ])
          refine wpAnyH_take (i := 6) (v := ?_) rfl (by kernel_rfl) (by kernel_rfl) (by kernel_rfl) (fun _ _ _ h => h) (Or.inl ⟨by rfl, ?_⟩) (by assumption) ?_
          rotate_left 1
          focus (intro w hSw; (try dsimp only at hSw); go_simp; (try with_reducible rfl))
          (try simp only [Act.put, List.getElem_toArray, List.getElem_cons_succ, List.getElem_cons_zero, List.setIfInBounds_toArray, List.set_cons_zero, List.set_cons_succ])
          refine wpAnyH_take (i := 7) (v := ?_) rfl (by kernel_rfl) (by kernel_rfl) (by kernel_rfl) (fun _ _ _ h => h) (Or.inl ⟨by rfl, ?_⟩) (by assumption) ?_
          rotate_left 1
          focus (intro w hSw; (try dsimp only at hSw); go_simp; (try with_reducible rfl))
          (try simp only [Act.put, List.getElem_toArray, List.getElem_cons_succ, List.getElem_cons_zero, List.setIfInBounds_toArray, List.set_cons_zero, List.set_cons_succ])
          refine wpAnyH_take (i := 8) (v := ?_) rfl (by kernel_rfl) (by kernel_rfl) (by kernel_rfl) (fun _ _ _ h => h) (Or.inl ⟨by rfl, ?_⟩) (by assumption) ?_
          rotate_left 1
          focus (intro w hSw; (try dsimp only at hSw); go_simp; (try with_reducible rfl))
          (try simp only [Act.put, List.getElem_toArray, List.getElem_cons_succ, List.getElem_cons_zero, List.setIfInBounds_toArray, List.set_cons_zero, List.set_cons_succ])
          refine wpAnyH_take (i := 9) (v := ?_) rfl (by kernel_rfl) (by kernel_rfl) (by kernel_rfl) (fun _ _ _ h => h) (Or.inl ⟨by rfl, ?_⟩) (by assumption) ?_
          rotate_left 1
          focus (intro w hSw; (try dsimp only at hSw); go_simp; (try with_reducible rfl))
          (try simp only [Act.put, List.getElem_toArray, List.getElem_cons_succ, List.getElem_cons_zero, List.setIfInBounds_toArray, List.set_cons_zero, List.set_cons_succ])
          refine wpAnyH_take (i := 10) (v := ?_) rfl (by kernel_rfl) (by kernel_rfl) (by kernel_rfl) (fun _ _ _ h => h) (Or.inl ⟨by rfl, ?_⟩) (by assumption) ?_
          rotate_left 1
          focus (intro w hSw; (try dsimp only at hSw); go_simp; (try with_reducible rfl))
          (try simp only [Act.put, List.getElem_toArray, List.getElem_cons_succ, List.getElem_cons_zero, List.setIfInBounds_toArray, List.set_cons_zero, List.set_cons_succ])
          refine wpAnyH_take (i := 12) (v := ?_) rfl (by kernel_rfl) (by kernel_rfl) (by kernel_rfl) (fun _ _ _ h => h) (Or.inl ⟨by rfl, ?_⟩) (by assumption) ?_
          rotate_left 1
          focus (intro w hSw; (try dsimp only at hSw); obtain ⟨q0, q1, q2⟩ := Bk.c3 (Frm.blk hSw HRB.out (fun h => h)); go_simp; (try with_reducible rfl))
          (try simp only [Act.put, List.getElem_toArray, List.getElem_cons_succ, List.getElem_cons_zero, List.setIfInBounds_toArray, List.set_cons_zero, List.set_cons_succ])
          refine wpAnyH_take (i := 13) (v := ?_) rfl (by kernel_rfl) (by kernel_rfl) (by kernel_rfl) (fun _ _ _ h => h) (Or.inl ⟨by rfl, ?_⟩) (by assumption) ?_
          rotate_left 1
          focus (intro w hSw; (try dsimp only at hSw); obtain ⟨q0, q1, q2⟩ := Bk.c3 (Frm.blk hSw HRB.out (fun h => h)); go_simp; (try with_reducible rfl))
          (try simp only [Act.put, List.getElem_toArray, List.getElem_cons_succ, List.getElem_cons_zero, List.setIfInBounds_toArray, List.set_cons_zero, List.set_cons_succ])
          refine wpAnyH_take (i := 14) (v := ?_) rfl (by kernel_rfl) (by kernel_rfl) (by kernel_rfl) (fun _ _ _ h => h) (Or.inl ⟨by rfl, ?_⟩) (by assumption) ?_
          rotate_left 1
          focus (intro w hSw; (try dsimp only at hSw); obtain ⟨q0, q1, q2⟩ := Bk.c3 (Frm.blk hSw HRB.out (fun h => h)); go_simp; (try with_reducible rfl))
          (try simp only [Act.put, List.getElem_toArray, List.getElem_cons_succ, List.getElem_cons_zero, List.setIfInBounds_toArray, List.set_cons_zero, List.set_cons_succ])
          refine wpAnyH_take (i := 15) (v := ?_) rfl (by kernel_rfl) (by kernel_rfl) (by kernel_rfl) (fun _ _ _ h => h) (Or.inl ⟨by rfl, ?_⟩) (by assumption) ?_
          rotate_left 1
          focus (intro w hSw; (try dsimp only at hSw); obtain ⟨q0, q1, q2⟩ := Bk.c3 (Frm.blk hSw HRB.out (fun h => h)); go_simp; (try with_reducible rfl))
          (try simp only [Act.put, List.getElem_toArray, List.getElem_cons_succ, List.getElem_cons_zero, List.setIfInBounds_toArray, List.set_cons_zero, List.set_cons_succ])
          refine wpAnyH_ready (rs := [11]) (by kernel_rfl) (by simp) ?_
          refine AllReadyH.cons rfl (fun K hK => ?_) AllReadyH.nil
          go_simp
          refine (left_any (HA7.out.frm0 (by assumption))).mono ?_
          rintro e w8 ⟨rfl, rfl⟩
          (try go_wp2_with fail)
          refine hK.out _ _ ?_ (fun hHeld => ?_)
          focus (assumption)
          clear hK K
          (try simp only [Act.put, List.getElem_toArray, List.getElem_cons_succ, List.getElem_cons_zero, List.setIfInBounds_toArray, List.set_cons_zero, List.set_cons_succ])
          refine wpAnyH_take (i := 16) (v := ?_) rfl (by kernel_rfl) (by kernel_rfl) (by kernel_rfl) (fun _ _ _ h => h) (Or.inl ⟨by rfl, ?_⟩) (by assumption) ?_
          rotate_left 1
          focus (intro w hSw; (try dsimp only at hSw); go_simp; (try with_reducible rfl))
          (try simp only [Act.put, List.getElem_toArray, List.getElem_cons_succ, List.getElem_cons_zero, List.setIfInBounds_toArray, List.set_cons_zero, List.set_cons_succ])
          refine wpAnyH_take (i := 17) (v := ?_) rfl (by kernel_rfl) (by kernel_rfl) (by kernel_rfl) (fun _ _ _ h => h) (Or.inl ⟨by rfl, ?_⟩) (by assumption) ?_
          rotate_left 1
          focus (intro w hSw; (try dsimp only at hSw); go_simp; (try with_reducible rfl))
          (try simp only [Act.put, List.getElem_toArray, List.getElem_cons_succ, List.getElem_cons_zero, List.setIfInBounds_toArray, List.set_cons_zero, List.set_cons_succ])
          refine wpAnyH_take (i := 18) (v := ?_) rfl (by kernel_rfl) (by kernel_rfl) (by kernel_rfl) (fun _ _ _ h => h) (Or.inl ⟨by rfl, ?_⟩) (by assumption) ?_
          rotate_left 1
          focus (intro w hSw; (try dsimp only at hSw); go_simp; (try with_reducible rfl))
          (try simp only [Act.put, List.getElem_toArray, List.getElem_cons_succ, List.getElem_cons_zero, List.setIfInBounds_toArray, List.set_cons_zero, List.set_cons_succ])
          refine wpAnyH_take (i := 19) (v := ?_) rfl (by kernel_rfl) (by kernel_rfl) (by kernel_rfl) (fun _ _ _ h => h) (Or.inl ⟨by rfl, ?_⟩) (by assumption) ?_
          rotate_left 1
          focus (intro w hSw; (try dsimp only at hSw); go_simp; (try with_reducible rfl))
          (try simp only [Act.put, List.getElem_toArray, List.getElem_cons_succ, List.getElem_cons_zero, List.setIfInBounds_toArray, List.set_cons_zero, List.set_cons_succ])
          refine wpAnyH_take (i := 21) (v := ?_) rfl (by kernel_rfl) (by kernel_rfl) (by kernel_rfl) (fun _ _ _ h => h) (Or.inl ⟨by rfl, ?_⟩) (by assumption) ?_
          rotate_left 1
          focus (intro w hSw; (try dsimp only at hSw); obtain ⟨q0, q1, q2⟩ := Bk.c3 (Frm.blk hSw HRB.out (fun h => h)); go_simp; (try with_reducible rfl))
          (try simp only [Act.put, List.getElem_toArray, List.getElem_cons_succ, List.getElem_cons_zero, List.setIfInBounds_toArray, List.set_cons_zero, List.set_cons_succ])
          refine wpAnyH_take (i := 22) (v := ?_) rfl (by kernel_rfl) (by kernel_rfl) (by kernel_rfl) (fun _ _ _ h => h) (Or.inl ⟨by rfl, ?_⟩) (by assumption) ?_
          rotate_left 1
          focus (intro w hSw; (try dsimp only at hSw); obtain ⟨q0, q1, q2⟩ := Bk.c3 (Frm.blk hSw HRB.out (fun h => h)); go_simp; (try with_reducible rfl))
          (try simp only [Act.put, List.getElem_toArray, List.getElem_cons_succ, List.getElem_cons_zero, List.setIfInBounds_toArray, List.set_cons_zero, List.set_cons_succ])
          refine wpAnyH_take (i := 23) (v := ?_) rfl (by kernel_rfl) (by kernel_rfl) (by kernel_rfl) (fun _ _ _ h => h) (Or.inl ⟨by rfl, ?_⟩) (by assumption) ?_
          rotate_left 1
          focus (intro w hSw; (try dsimp only at hSw); obtain ⟨q0, q1, q2⟩ := Bk.c3 (Frm.blk hSw HRB.out (fun h => h)); go_simp; (try with_reducible rfl))
          (try simp only [Act.put, List.getElem_toArray, List.getElem_cons_succ, List.getElem_cons_zero, List.setIfInBounds_toArray, List.set_cons_zero, List.set_cons_succ])
          refine wpAnyH_take (i := 24) (v := ?_) rfl (by kernel_rfl) (by kernel_rfl) (by kernel_rfl) (fun _ _ _ h => h) (Or.inl ⟨by rfl, ?_⟩) (by assumption) ?_
          rotate_left 1
          focus (intro w hSw; (try dsimp only at hSw); obtain ⟨q0, q1, q2⟩ := Bk.c3 (Frm.blk hSw HRB.out (fun h => h)); go_simp; (try with_reducible rfl))
          (try simp only [Act.put, List.getElem_toArray, List.getElem_cons_succ, List.getElem_cons_zero, List.setIfInBounds_toArray, List.set_cons_zero, List.set_cons_succ])
          refine wpAnyH_ready (rs := [20]) (by kernel_rfl) (by simp) ?_
          refine AllReadyH.cons rfl (fun K hK => ?_) AllReadyH.nil
          go_simp
          refine (effects_any (HA7.out.frm0 (by assumption)) (by omega)).mono ?_
          rintro e w9 ⟨y9, rfl, hr9, hf9⟩
          (try go_wp2_with fail)
          refine hK.out _ _ ?_ (fun hHeld => ?_)
          focus (exact Frm.trans (by assumption) hf9)
          clear hK K
          (try simp only [Act.put, List.getElem_toArray, List.getElem_cons_succ, List.getElem_cons_zero, List.setIfInBounds_toArray, List.set_cons_zero, List.set_cons_succ])
          refine wpAnyH_ready (rs := [25]) (by kernel_rfl) (by simp) ?_
          refine AllReadyH.cons rfl (fun K hK => ?_) AllReadyH.nil
          go_simp
          refine (same_any s5.ef _ _ _ (Sl.of_own hr9) (HS7.out.frm0 (Frm.trans (by assumption) hf9))).mono ?_
          rintro e w10 ⟨rfl, hf10⟩
          (try go_wp2_with fail)
          refine hK.out _ _ ?_ (fun hHeld => ?_)
          focus (exact Frm.trans (by assumption) hf10)
          clear hK K
          (try simp only [Act.put, List.getElem_toArray, List.getElem_cons_succ, List.getElem_cons_zero, List.setIfInBounds_toArray, List.set_cons_zero, List.set_cons_succ])
          refine wpAnyH_take (i := 26) (v := ?_) rfl (by kernel_rfl) (by kernel_rfl) (by kernel_rfl) (fun _ _ _ h => h) (Or.inl ⟨by rfl, ?_⟩) (by assumption) ?_
          rotate_left 1
          focus (intro w hSw; (try dsimp only at hSw); go_simp; (try with_reducible rfl))
          (try simp only [Act.put, List.getElem_toArray, List.getElem_cons_succ, List.getElem_cons_zero, List.setIfInBounds_toArray, List.set_cons_zero, List.set_cons_succ])
          refine wpAnyH_take (i := 27) (v := ?_) rfl (by kernel_rfl) (by kernel_rfl) (by kernel_rfl) (fun _ _ _ h => h) (Or.inl ⟨by rfl, ?_⟩) (by assumption) ?_
          rotate_left 1
          focus (intro w hSw; (try dsimp only at hSw); go_simp; (try with_reducible rfl))
          (try simp only [Act.put, List.getElem_toArray, List.getElem_cons_succ, List.getElem_cons_zero, List.setIfInBounds_toArray, List.set_cons_zero, List.set_cons_succ])
          refine wpAnyH_done (by kernel_rfl) ?_ _
          have hfz := (by assumption : Frm0 w7 w10)
          go_wp2_with fail
          go_roundw
          case rel => exact ⟨k + 1, s5, u5, _, y5, by omega, by go_num, (HA7.out.frm0 hfz).more (by omega), HR7.out.frm0 hfz, by omega, by omega, HSEP5.out, HF7.out.trans hfz⟩
          case measure => simp [intOf]; omega
    · obtain rfl : k = l.length := by omega
      go_wp2_with fail
      go_ret
      exact ⟨rfl, hF.below (fun _ _ h => h)⟩
end Bk25
end Go.Proofs.Yteokiiolchpndaa
