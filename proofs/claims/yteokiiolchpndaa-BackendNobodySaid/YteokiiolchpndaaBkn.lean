/- The walk of BackendNobody. -/
import Derived.Test.YteokiiolchpndaaBkm
namespace Go.Proofs.Yteokiiolchpndaa
open Go.RowKit Go.ChangeShapes Go.WideShapes Go.Maps
set_option linter.unusedVariables false
set_option linter.unusedSimpArgs false
set_option maxRecDepth 100000
namespace Bk25
def turned : Ca := ⟨0, { data := #[116, 117, 114, 110, 101, 100] }, 0, 0, 0, ⟨#[]⟩, ⟨#[]⟩⟩
theorem iE : (Try.prog.info? 37).map (·.size) = some 7 := by kernel_rfl
set_option maxHeartbeats 8000000 in
theorem bnobody_walk (v : Value) (l : List KDeed) (w : World) (hs : Sl w v l.length (l.flatMap KDeed.cells)) (hg : ∀ a ∈ l, KDeed.Good a) :
    Calls Try.prog 6 #[v] w fun e w' => e = .returned (.bool true) ∧ Below w.heap.size w w' := by
  have hlen := hs.len
  by_cases h60 : 20 < l.length
  · obtain ⟨A, c, rfl⟩ := hs.form
    go_enter Try.func6, Try.ntmps6
    go_wp2_with fail
    refine (bawake _).mono ?_
    rintro e w1 ⟨rfl, hf1⟩
    go_wp2
    go_ret
    exact ⟨rfl, hf1.below (fun _ _ h => h)⟩
  have hcell : ∀ k (hk : k < l.length), ∃ b o c, v = .slice (some ⟨b, o, none⟩) l.length c ∧ w.rangeAt b (o + k * 9) (l[k]).cells := by
    intro k hk
    rcases hs with ⟨A, c, rfl, hn, _⟩ | ⟨b, o, c, rfl, h0, h1, h2, _, hc⟩
    · omega
    · exact ⟨b, o, c, rfl, deed_range hc k hk⟩
  obtain ⟨A, cp, rfl⟩ := hs.form
  have HC := Lib.hid hcell
  have HG := Lib.hid hg
  clear hcell hs hg
  go_enter Try.func6, Try.ntmps6
  go_wp2_with fail
  refine (bawake _).mono ?_
  rintro e w1 ⟨rfl, hf1⟩
  go_wp2_with fail
  refine (new_any _).mono ?_
  rintro e w2 ⟨rfl, hA, hf2⟩
  have hF2 := hf1.trans hf2
  have hbb : w.heap.size ≤ w1.heap.size := hf1.size
  have hrb : w1.heap.size + 2 < w2.heap.size := hA.lt
  generalize w1.heap.size = b at *
  clear hf1 hf2
  go_wp2_with fail
  have hal := (Frm.refl (fun _ => False) w2).alloc (.cells #[.slice none 0 0, .slice none 0 0, .int .i64 0] 44)
  have hA := hA.frm0 hal
  have hF2 := hF2.trans hal
  have hRb : Rb (w2.alloc (.cells #[.slice none 0 0, .slice none 0 0, .int .i64 0] 44)) w2.heap.size (.slice none 0 0) (.slice none 0 0) ⟨[], [], 0⟩ := ⟨Bk.new _ _, World.ownsRow_nil _ _ _ _, World.ownsRow_nil _ _ _ _, fun k hk => by cases hk⟩
  clear hal
  generalize w2.alloc (.cells #[.slice none 0 0, .slice none 0 0, .int .i64 0] 44) = w2a at *
  obtain ⟨rb, hrbe⟩ : ∃ rb, w2.heap.size = rb := ⟨_, rfl⟩
  rw [hrbe] at hrb hRb ⊢
  clear hrbe
  go_loopw [24] (fun i wr => ∃ (k : Nat) (s : St) (u v1 v2 : Value), k ≤ l.length ∧ i = .int .i64 k ∧ At wr b u s (2 * k) ∧ Rb wr rb v1 v2 s ∧ s.ls.length ≤ k ∧ s.ef.length ≤ k ∧ Hid (∀ k, fp b u k → ¬ rfp rb v1 v2 k) ∧ Frm0 w wr) (fun i _ => l.length - (intOf i).toNat)
  case atStart =>
    refine ⟨0, _, _, _, _, by omega, rfl, hA, hRb, by decide, by decide, Lib.hid (fun k hk => ?_), hF2⟩
    rintro (e | e | e)
    · rcases hk with h | h | h | h
      · omega
      · omega
      · omega
      · cases h
    · cases e
    · cases e
  case round =>
    clear hA hF2 hRb
    obtain ⟨k, s, u, v1, v2, hk, rfl, hA, hR, hll, hel, hsep, hF⟩ := hrel
    by_cases hlt : k < l.length
    · obtain ⟨b0, o0, c0, he, hrg⟩ := HC.out k hlt
      cases he
      have hrg : wr.rangeAt b0 (o0 + k * 9) (l[k]).cells := fun j x hx => hF.cell (hrg j x hx) (fun h => h)
      have hgd := HG.out (l[k]) (List.getElem_mem hlt)
      obtain ⟨c, hcc⟩ : ∃ c, (l[k]).call = c := ⟨_, rfl⟩
      obtain ⟨kd, hkd⟩ : ∃ kd, (l[k]).kind = kd := ⟨_, rfl⟩
      obtain ⟨n, hn⟩ : ∃ n, (l[k]).n = n := ⟨_, rfl⟩
      have hcells : (l[k]).cells = [.int .u8 kd, .int .i64 c.tenant, .string c.key, .int .i64 c.epoch, .int .i64 c.phase, .int .i64 c.token, .string c.name, .string c.body, .int .i64 n] := by rw [← hcc, ← hkd, ← hn]; rfl
      have hkok : Kok c.tenant c.key c.epoch := by have := hgd.call; rw [hcc] at this; exact ⟨this.tenant, this.key, this.epoch⟩
      have hpok : (Lit.int .i64 c.phase).wf = true := by have := hgd.call; rw [hcc] at this; exact this.phase
      rw [hcells] at hrg
      have HKOK := Lib.hid hkok
      have HPOK := Lib.hid hpok
      clear hgd hcells hkd hn hkok hpok hcc
      have hlb := hA.lt
      have HOWN := Lib.hid hA.own
      have hrbl := Bk.lt hR.blk
      go_upto_region 12 with (first
        | (refine wpList_load_mid rfl 30 (.tmp 26) rfl b0 (o0 + k * 9) rfl _ _ hrg Try.underlying30 rfl (by rw [iDd]; rfl) ?_))
      have hB7 := new_second wr (.cells #[.int .u8 kd, .int .i64 c.tenant, .string c.key, .int .i64 c.epoch, .int .i64 c.phase, .int .i64 c.token, .string c.name, .string c.body, .int .i64 n] 30) (.cells #[.int .i64 c.tenant, .string c.key, .int .i64 c.epoch, .int .i64 c.phase, .int .i64 c.token, .string c.name, .string c.body] 28)
      have hal3 := ((Frm.refl (fun _ => False) wr).alloc (.cells #[.int .u8 kd, .int .i64 c.tenant, .string c.key, .int .i64 c.epoch, .int .i64 c.phase, .int .i64 c.token, .string c.name, .string c.body, .int .i64 n] 30)).alloc (.cells #[.int .i64 c.tenant, .string c.key, .int .i64 c.epoch, .int .i64 c.phase, .int .i64 c.token, .string c.name, .string c.body] 28)
      have hB6 := Bk.alloc (Bk.new wr (.cells #[.int .u8 kd, .int .i64 c.tenant, .string c.key, .int .i64 c.epoch, .int .i64 c.phase, .int .i64 c.token, .string c.name, .string c.body, .int .i64 n] 30)) (.cells #[.int .i64 c.tenant, .string c.key, .int .i64 c.epoch, .int .i64 c.phase, .int .i64 c.token, .string c.name, .string c.body] 28)
      have hA3 := hA.frm0 hal3
      have hR3 := hR.frm0 hal3
      have hF3 := hF.trans hal3
      have hs3 := hal3.size
      have hwr := hF.size
      have hvl1 : ∀ g, v1.ownBlock = some g → g < wr.heap.size := fun g hg => (hR.r1.lt g hg).2
      have hvl2 : ∀ g, v2.ownBlock = some g → g < wr.heap.size := fun g hg => (hR.r2.lt g hg).2
      have HSEP := Lib.hid hsep.out
      have HVL := Lib.hid (And.intro hvl1 hvl2)
      clear hA hR hF hal3 hsep hrg hvl1 hvl2
      generalize (wr.alloc (.cells #[.int .u8 kd, .int .i64 c.tenant, .string c.key, .int .i64 c.epoch, .int .i64 c.phase, .int .i64 c.token, .string c.name, .string c.body, .int .i64 n] 30)).alloc (.cells #[.int .i64 c.tenant, .string c.key, .int .i64 c.epoch, .int .i64 c.phase, .int .i64 c.token, .string c.name, .string c.body] 28) = w3 at *
      generalize wr.heap.size = D at *
      obtain ⟨⟨s5, x⟩, hcall⟩ : ∃ r, call s c = r := ⟨_, rfl⟩
      have hN3 : 2 * k + 2 < 1000000 := by omega
      have hdo := do_to c hA3 hN3 (by omega) HKOK.out HPOK.out hcall
      unfold Ca.reply at hdo
      have HDO := Lib.hid hdo
      have hfp7 : ∀ i, D ≤ i → ¬ fp b u i := fun i hi => by
        rintro (e | e | e | e)
        · omega
        · omega
        · omega
        · have := (HOWN.out _ e).2; omega
      have hrf7 : ∀ i, D ≤ i → ¬ rfp rb v1 v2 i := fun i hi => by
        rintro (e | e | e)
        · omega
        · have := (HVL.out.1 _ e); omega
        · have := (HVL.out.2 _ e); omega
      have hce := call_ef s c
      have hcl := call_ls s c
      have hlate := hA3.late
      have hpl := fun sp => putL_len s.ls c.tenant c.key c.epoch c.token sp
      rw [hcall] at hce hcl
      simp only at hce hcl
      have hl5 : s5.ls.length ≤ k + 1 ∧ s5.ef.length ≤ k + 1 := by
        constructor
        · rcases hcl with ⟨_, h⟩ | ⟨_, sp, h, _⟩
          · obtain ⟨rfl, _⟩ := Prod.mk.inj h; omega
          · rw [h]; have := hpl sp; omega
        · rcases hce with ⟨h, _⟩ | ⟨h, _⟩
          · rw [h]; omega
          · rw [h]; simp; omega
      have HNE := Lib.hid (fun w => ne_reply c 0 w)
      have hdn := fun w => do_nil c w
      unfold Ca.reply at hdn
      have HDN := Lib.hid hdn
      have HCALL := Lib.hid hcall
      clear hce hcl hpl hcall hdo hdn
      obtain ⟨m0, m1, m2, m3, m4, m5, m6, m7, m8⟩ := Bk.c9' hB6
      obtain ⟨p0, p1, p2, p3, p4, p5, p6⟩ := Bk.c7 hB7
      go_wp2_with fail
      refine HDO.out.mono ?_
      rintro e w4 ⟨rfl, u5, hA4, hf4, ho4⟩
      have hB47 := hf4.blk hB7 (hfp7 _ (by omega))
      have hB46 := hf4.blk hB6 (hfp7 _ (by omega))
      have hR4 := hR3.frm hf4 (fun k hk e => HSEP.out k e hk)
      have hs4 := hf4.size
      have hds := Bk.lt hB7
      clear m0 m1 m2 m3 m4 m5 m6 m7 m8 p0 p1 p2 p3 p4 p5 p6
      obtain ⟨p0, p1, p2, p3, p4, p5, p6⟩ := Bk.c7 hB47
      go_wp2_with fail
      refine (rdo_to c hR4 (by omega) (by omega) hlate HCALL.out).mono ?_
      rintro e w5 ⟨rfl, v5, y5, hR5, hf5, ho51, ho52⟩
      have hB5 := hf5.blk hB47 (hrf7 _ (by omega))
      have hB56 := hf5.blk hB46 (hrf7 _ (by omega))
      have hUl : ∀ i, fp b u5 i → i < w4.heap.size := fun i hi => by
        have := hA4.lt
        rcases hi with h | h | h | h
        · omega
        · omega
        · omega
        · exact (hA4.own i h).2
      have hU : ∀ i, fp b u5 i → ¬ rfp rb v1 v2 i := fun i hi e => by
        rcases hi with h | h | h | h
        · exact HSEP.out i (.inl h) e
        · exact HSEP.out i (.inr (.inl h)) e
        · exact HSEP.out i (.inr (.inr (.inl h))) e
        · rcases ho4 with h2 | h2
          · rw [h2] at h; exact HSEP.out i (.inr (.inr (.inr h))) e
          · have h3 := h2 i h
            rcases e with e | e | e
            · omega
            · have := HVL.out.1 i e; omega
            · have := HVL.out.2 i e; omega
      have hA5 := hA4.frm hf5 hU
      have HSEP5 := Lib.hid (show ∀ i, fp b u5 i → ¬ rfp rb v5 y5 i from fun i hi e => by
        have h1 := hUl i hi
        rcases e with e | e | e
        · exact hU i hi (.inl e)
        · rcases ho51 with h2 | h2
          · rw [h2] at e; exact hU i hi (.inr (.inl e))
          · have := h2 i e; omega
        · rcases ho52 with h2 | h2
          · rw [h2] at e; exact hU i hi (.inr (.inr e))
          · have := h2 i e; omega)
      have hF5 := (hF3.then_ hf4 (fun i hi e => by
        rcases e with e | e | e | e
        · omega
        · omega
        · omega
        · have := (hA3.own i e).1; omega)).then_ hf5 (fun i hi e => by
        rcases e with e | e | e
        · omega
        · have := (hR3.r1.lt i e).1; omega
        · have := (hR3.r2.lt i e).1; omega)
      have hl51 := hl5.1
      have hl52 := hl5.2
      clear hU hUl hf4 hf5 ho4 ho51 ho52 hA4 hR4 hB47 hB46 hrf7 hfp7 hA3 hR3 hF3 hds hl5 hlate hB6 hB7 p0 p1 p2 p3 p4 p5 p6 hs4 hs3
      obtain ⟨m0, m1, m2, m3, m4, m5, m6, m7, m8⟩ := Bk.c9' hB56
      go_wp2_with fail
      refine (later_nil _ _).mono ?_
      rintro e w5' ⟨rfl, rfl⟩
      clear m0 m1 m2 m3 m4 m5 m6 m7 m8
      go_upto_region 15 with (fail)
      refine wp_region_held_drew (S := fun w9 => w9.heap[D + 1]? = some (.cells #[.int .i64 c.tenant, .string c.key, .int .i64 c.epoch, .int .i64 c.phase, .int .i64 c.token, .string c.name, .string c.body] 28 (0, 0))) (by kernel_rfl) (hB5) (fun hHeld => ?_)
      skip
      refine wpAnyH_take (i := 0) (v := ?_) rfl (by kernel_rfl) (by kernel_rfl) (by kernel_rfl) (fun _ _ _ h => h) (Or.inl ⟨by rfl, ?_⟩) (by assumption) ?_
      rotate_left 1
      focus (intro w hSw; (try dsimp only at hSw); obtain ⟨p0, p1, p2, p3, p4, p5, p6⟩ := Bk.c7 hSw; go_simp; (try with_reducible rfl))
      (try simp only [Act.put, List.getElem_toArray, List.getElem_cons_succ, List.getElem_cons_zero, List.setIfInBounds_toArray, List.set_cons_zero, List.set_cons_succ])
      refine wpAnyH_take (i := 1) (v := ?_) rfl (by kernel_rfl) (by kernel_rfl) (by kernel_rfl) (fun _ _ _ h => h) (Or.inl ⟨by rfl, ?_⟩) (by assumption) ?_
      rotate_left 1
      focus (intro w hSw; (try dsimp only at hSw); obtain ⟨p0, p1, p2, p3, p4, p5, p6⟩ := Bk.c7 hSw; go_simp; (try with_reducible rfl))
      (try simp only [Act.put, List.getElem_toArray, List.getElem_cons_succ, List.getElem_cons_zero, List.setIfInBounds_toArray, List.set_cons_zero, List.set_cons_succ])
      refine wpAnyH_take (i := 3) (v := ?_) rfl (by kernel_rfl) (by kernel_rfl) (by kernel_rfl) (fun _ _ _ h => h) (Or.inl ⟨by rfl, ?_⟩) (by assumption) ?_
      rotate_left 1
      focus (intro w hSw; (try dsimp only at hSw); obtain ⟨p0, p1, p2, p3, p4, p5, p6⟩ := Bk.c7 hSw; go_simp; (try with_reducible rfl))
      (try simp only [Act.put, List.getElem_toArray, List.getElem_cons_succ, List.getElem_cons_zero, List.setIfInBounds_toArray, List.set_cons_zero, List.set_cons_succ])
      refine wpAnyH_take (i := 4) (v := ?_) rfl (by kernel_rfl) (by kernel_rfl) (by kernel_rfl) (fun _ _ _ h => h) (Or.inl ⟨by rfl, ?_⟩) (by assumption) ?_
      rotate_left 1
      focus (intro w hSw; (try dsimp only at hSw); obtain ⟨p0, p1, p2, p3, p4, p5, p6⟩ := Bk.c7 hSw; go_simp; (try with_reducible rfl))
      (try simp only [Act.put, List.getElem_toArray, List.getElem_cons_succ, List.getElem_cons_zero, List.setIfInBounds_toArray, List.set_cons_zero, List.set_cons_succ])
      refine wpAnyH_take (i := 5) (v := ?_) rfl (by kernel_rfl) (by kernel_rfl) (by kernel_rfl) (fun _ _ _ h => h) (Or.inl ⟨by rfl, ?_⟩) (by assumption) ?_
      rotate_left 1
      focus (intro w hSw; (try dsimp only at hSw); obtain ⟨p0, p1, p2, p3, p4, p5, p6⟩ := Bk.c7 hSw; go_simp; (try with_reducible rfl))
      (try simp only [Act.put, List.getElem_toArray, List.getElem_cons_succ, List.getElem_cons_zero, List.setIfInBounds_toArray, List.set_cons_zero, List.set_cons_succ])
      refine wpAnyH_take (i := 6) (v := ?_) rfl (by kernel_rfl) (by kernel_rfl) (by kernel_rfl) (fun _ _ _ h => h) (Or.inl ⟨by rfl, ?_⟩) (by assumption) ?_
      rotate_left 1
      focus (intro w hSw; (try dsimp only at hSw); obtain ⟨p0, p1, p2, p3, p4, p5, p6⟩ := Bk.c7 hSw; go_simp; (try with_reducible rfl))
      (try simp only [Act.put, List.getElem_toArray, List.getElem_cons_succ, List.getElem_cons_zero, List.setIfInBounds_toArray, List.set_cons_zero, List.set_cons_succ])
      refine wpAnyH_take (i := 7) (v := ?_) rfl (by kernel_rfl) (by kernel_rfl) (by kernel_rfl) (fun _ _ _ h => h) (Or.inl ⟨by rfl, ?_⟩) (by assumption) ?_
      rotate_left 1
      focus (intro w hSw; (try dsimp only at hSw); obtain ⟨p0, p1, p2, p3, p4, p5, p6⟩ := Bk.c7 hSw; go_simp; (try with_reducible rfl))
      (try simp only [Act.put, List.getElem_toArray, List.getElem_cons_succ, List.getElem_cons_zero, List.setIfInBounds_toArray, List.set_cons_zero, List.set_cons_succ])
      refine wpAnyH_take (i := 8) (v := ?_) rfl (by kernel_rfl) (by kernel_rfl) (by kernel_rfl) (fun _ _ _ h => h) (Or.inl ⟨by rfl, ?_⟩) (by assumption) ?_
      rotate_left 1
      focus (intro w hSw; (try dsimp only at hSw); obtain ⟨p0, p1, p2, p3, p4, p5, p6⟩ := Bk.c7 hSw; go_simp; (try with_reducible rfl))
      (try simp only [Act.put, List.getElem_toArray, List.getElem_cons_succ, List.getElem_cons_zero, List.setIfInBounds_toArray, List.set_cons_zero, List.set_cons_succ])
      refine wpAnyH_take (i := 9) (v := ?_) rfl (by kernel_rfl) (by kernel_rfl) (by kernel_rfl) (fun _ _ _ h => h) (Or.inl ⟨by rfl, ?_⟩) (by assumption) ?_
      rotate_left 1
      focus (intro w hSw; (try dsimp only at hSw); obtain ⟨p0, p1, p2, p3, p4, p5, p6⟩ := Bk.c7 hSw; go_simp; (try with_reducible rfl))
      (try simp only [Act.put, List.getElem_toArray, List.getElem_cons_succ, List.getElem_cons_zero, List.setIfInBounds_toArray, List.set_cons_zero, List.set_cons_succ])
      refine wpAnyH_take (i := 10) (v := ?_) rfl (by kernel_rfl) (by kernel_rfl) (by kernel_rfl) (fun _ _ _ h => h) (Or.inl ⟨by rfl, ?_⟩) (by assumption) ?_
      rotate_left 1
      focus (intro w hSw; (try dsimp only at hSw); obtain ⟨p0, p1, p2, p3, p4, p5, p6⟩ := Bk.c7 hSw; go_simp; (try with_reducible rfl))
      (try simp only [Act.put, List.getElem_toArray, List.getElem_cons_succ, List.getElem_cons_zero, List.setIfInBounds_toArray, List.set_cons_zero, List.set_cons_succ])
      refine wpAnyH_take (i := 11) (v := ?_) rfl (by kernel_rfl) (by kernel_rfl) (by kernel_rfl) (fun _ _ _ h => h) (Or.inl ⟨by rfl, ?_⟩) (by assumption) ?_
      rotate_left 1
      focus (intro w hSw; (try dsimp only at hSw); obtain ⟨p0, p1, p2, p3, p4, p5, p6⟩ := Bk.c7 hSw; go_simp; (try with_reducible rfl))
      (try simp only [Act.put, List.getElem_toArray, List.getElem_cons_succ, List.getElem_cons_zero, List.setIfInBounds_toArray, List.set_cons_zero, List.set_cons_succ])
      refine wpAnyH_take (i := 12) (v := ?_) rfl (by kernel_rfl) (by kernel_rfl) (by kernel_rfl) (fun _ _ _ h => h) (Or.inl ⟨by rfl, ?_⟩) (by assumption) ?_
      rotate_left 1
      focus (intro w hSw; (try dsimp only at hSw); obtain ⟨p0, p1, p2, p3, p4, p5, p6⟩ := Bk.c7 hSw; go_simp; (try with_reducible rfl))
      (try simp only [Act.put, List.getElem_toArray, List.getElem_cons_succ, List.getElem_cons_zero, List.setIfInBounds_toArray, List.set_cons_zero, List.set_cons_succ])
      refine wpAnyH_take (i := 13) (v := ?_) rfl (by kernel_rfl) (by kernel_rfl) (by kernel_rfl) (fun _ _ _ h => h) (Or.inl ⟨by rfl, ?_⟩) (by assumption) ?_
      rotate_left 1
      focus (intro w hSw; (try dsimp only at hSw); obtain ⟨p0, p1, p2, p3, p4, p5, p6⟩ := Bk.c7 hSw; go_simp; (try with_reducible rfl))
      (try simp only [Act.put, List.getElem_toArray, List.getElem_cons_succ, List.getElem_cons_zero, List.setIfInBounds_toArray, List.set_cons_zero, List.set_cons_succ])
      refine wpAnyH_ready (rs := [2]) (by kernel_rfl) (by simp) ?_
      refine AllReadyH.cons rfl (fun K hK => ?_) AllReadyH.nil
      go_simp
      refine (HDN.out _).mono ?_
      rintro e w6 ⟨rfl, hf6⟩
      have hB6 := hf6.blk (show w5.drew.heap[D + 1]? = _ from hB5) (fun h => h)
      (try go_wp2_with fail)
      refine hK.out _ _ ?_ (fun hHeld => ?_)
      focus (exact hB6)
      clear hK K
      (try simp only [Act.put, List.getElem_toArray, List.getElem_cons_succ, List.getElem_cons_zero, List.setIfInBounds_toArray, List.set_cons_zero, List.set_cons_succ])
      refine wpAnyH_take (i := 14) (v := ?_) rfl (by kernel_rfl) (by kernel_rfl) (by kernel_rfl) (fun _ _ _ h => h) (Or.inl ⟨by rfl, ?_⟩) (by assumption) ?_
      rotate_left 1
      focus (intro w hSw; (try dsimp only at hSw); have qn := HNE.out; go_simp; (try with_reducible rfl))
      (try simp only [Act.put, List.getElem_toArray, List.getElem_cons_succ, List.getElem_cons_zero, List.setIfInBounds_toArray, List.set_cons_zero, List.set_cons_succ])
      refine wpAnyH_done (by kernel_rfl) ?_ _
      have hF6 := (hF5.drew).trans hf6
      have hd6 := ((Frm.refl (fun _ => False) w5).drew).trans hf6
      have hA6 := hA5.frm0 hd6
      have hR6 := hR5.frm0 hd6
      clear hd6 hf6 hF5 hA5 hR5 hB5 hB56 hB6
      go_wp2_with fail
      refine (effects_any hA6 (by omega)).mono ?_
      rintro e w7 ⟨y7, rfl, hr7, hf7⟩
      have hA7 := hA6.frm0 hf7
      have hR7 := hR6.frm0 hf7
      have hF7 := hF6.trans hf7
      have HY := Lib.hid (show ∀ g, y7.ownBlock = some g → w6.heap.size ≤ g from fun g hg => (hr7.lt g hg).1)
      have HAL := Lib.hid (show ∀ i, fp b u5 i → i < w6.heap.size from fun i hi => by
        have := hA6.lt
        rcases hi with h | h | h | h
        · omega
        · omega
        · omega
        · exact (hA6.own i h).2)
      have HRL := Lib.hid (show ∀ i, rfp rb v5 y5 i → i < w6.heap.size from fun i hi => by
        have := Bk.lt hR6.blk
        rcases hi with h | h | h
        · omega
        · exact (hR6.r1.lt i h).2
        · exact (hR6.r2.lt i h).2)
      have hw6 : w.heap.size ≤ w6.heap.size := hF6.size
      obtain ⟨A7, cp7, rfl⟩ := owns_nil_form' hr7
      clear hA6 hR6 hF6 hf7
      go_upto_region 18 with (fail)
      have hZ := Bk.new w7 (.cells #[.slice A7 s5.ef.length cp7] 26)
      have hal8 := (Frm.refl (fun _ => False) w7).alloc (.cells #[.slice A7 s5.ef.length cp7] 26)
      have hr8 := owns_frm0 hr7 hal8
      have hA8 := hA7.frm0 hal8
      have hR8 := hR7.frm0 hal8
      have hF8 := hF7.trans hal8
      have HZY := Lib.hid (show (Value.slice A7 s5.ef.length cp7).ownBlock ≠ some w7.heap.size from fun e => by have := (hr7.lt _ e).2; omega)
      clear hr7 hA7 hR7 hF7 hal8
      generalize w7.alloc (.cells #[.slice A7 s5.ef.length cp7] 26) = w8 at *
      generalize w7.heap.size = Z at *
      go_loopw [59] (fun i wq => ∃ (j : Nat) (L : List Ca), j ≤ 1 ∧ i = .int .i64 j ∧ L.length = s5.ef.length ∧ wq.ownsRow w6.heap.size 37 7 (.slice A7 s5.ef.length cp7) s5.ef.length (L.flatMap Ca.cells) ∧ Frm (fun i => (Value.slice A7 s5.ef.length cp7).ownBlock = some i) w8 wq) (fun i _ => 1 - (intOf i).toNat)
      case atStart => exact ⟨0, s5.ef, by omega, rfl, rfl, hr8, Frm.refl _ _⟩
      case round =>
        clear hr8
        obtain ⟨j, L, hj, rfl, hL, hr, hf⟩ := hrel
        by_cases hj0 : j < 1
        · obtain rfl : j = 0 := by omega
          have hz : wr.cell? ⟨Z, 0, none⟩ = some (.slice A7 s5.ef.length cp7) := Bk.cell (hf.blk hZ HZY.out) 0
          go_wp2_with fail
          have HL := Lib.hid hL
          clear hL
          go_loopw [65] (fun i wq => ∃ (j : Nat) (L : List Ca), j ≤ s5.ef.length ∧ i = .int .i64 j ∧ L.length = s5.ef.length ∧ wq.ownsRow w6.heap.size 37 7 (.slice A7 s5.ef.length cp7) s5.ef.length (L.flatMap Ca.cells) ∧ Frm (fun i => (Value.slice A7 s5.ef.length cp7).ownBlock = some i) w8 wq) (fun i _ => s5.ef.length - (intOf i).toNat)
          case atStart => exact ⟨0, L, by omega, rfl, HL.out, hr, hf⟩
          case round =>
            clear hr hf hz
            obtain ⟨m, L2, hm, rfl, hL2, hr2, hf2⟩ := hrel
            have HL2 := Lib.hid hL2
            clear hL2
            by_cases hmlt : m < s5.ef.length
            · have hmi : (m : Int) < (s5.ef.length : Int) := by omega
              have hmi0 : (0 : Int) ≤ (m : Int) := by omega
              rcases hr2.2 with ⟨_, h0⟩ | ⟨g, cap, cur, he, hx⟩
              · omega
              · cases he
                clear hx
                go_wp2_with (refine wpList_store_row (f := Ca.cells) (l := L2) rfl 37 (.tmp 71) (.tmp 70) rfl turned hr2 (fun _ => rfl) HL2.out (by rw [HL2.out]; exact hmlt) rfl rfl iE rfl rfl ?_; intro w9 hr9 hf9)
                go_roundw
                case rel => first
                  | exact ⟨m + 1, L2.set m turned, by omega, by go_num, by rw [List.length_set, HL2.out], hr9, hf2.then_ hf9 (fun i hi e => by have e2 : i = g := e; rw [e2]; rfl)⟩
                  | ((repeat apply Exists.intro); refine And.intro ?_ rfl; exact ⟨m + 1, L2.set m turned, by omega, by go_num, by rw [List.length_set, HL2.out], hr9, hf2.then_ hf9 (fun i hi e => by have e2 : i = g := e; rw [e2]; rfl)⟩)
                case measure => simp [intOf]; omega
            · obtain rfl : m = s5.ef.length := by omega
              go_wp2_with fail
              go_roundw
              case rel => exact ⟨1, L2, by omega, rfl, HL2.out, hr2, hf2⟩
              case measure => simp [intOf]
        · obtain rfl : j = 1 := by omega
          go_wp2_with fail
          have hZl := hf.size
          go_roundw
          case rel => exact ⟨k + 1, s5, u5, v5, y5, by omega, by go_num, (hA8.frm hf (fun i hi e => by have := HAL.out i hi; have := HY.out i e; omega)).more (by omega), hR8.frm hf (fun i hi e => by have := HRL.out i hi; have := HY.out i e; omega), by omega, by omega, HSEP5.out, hF8.then_ hf (fun i hi e => by have := HY.out i e; omega)⟩
          case measure => simp [intOf]; omega
    · obtain rfl : k = l.length := by omega
      have hefl : s.ef.length ≤ 1000 := by omega
      go_wp2_with fail
      refine (seen_nil _ _ _ _).mono ?_
      rintro e w1 ⟨rfl, rfl⟩
      have HRB := Lib.hid hR.blk
      have HA7 := Lib.hid hA
      have HS7 := Lib.hid (Sl.of_own hR.r2)
      have HF7 := Lib.hid hF
      clear hR hA hF hsep
      go_upto_region 28 with (fail)
      refine wp_region_held_drew (S := fun w9 => Frm0 wr w9) (by kernel_rfl) (((Frm.refl (fun _ => False) wr).drew)) (fun hHeld => ?_)
      skip
      refine wpAnyH_take (i := 0) (v := ?_) rfl (by kernel_rfl) (by kernel_rfl) (by kernel_rfl) (fun _ _ _ h => h) (Or.inl ⟨by rfl, ?_⟩) (by assumption) ?_
      rotate_left 1
      focus (intro w hSw; (try dsimp only at hSw); go_simp; (try with_reducible rfl))
      (try simp only [Act.put, List.getElem_toArray, List.getElem_cons_succ, List.getElem_cons_zero, List.setIfInBounds_toArray, List.set_cons_zero, List.set_cons_succ])
      refine wpAnyH_take (i := 2) (v := ?_) rfl (by kernel_rfl) (by kernel_rfl) (by kernel_rfl) (fun _ _ _ h => h) (Or.inl ⟨by rfl, ?_⟩) (by assumption) ?_
      rotate_left 1
      focus (intro w hSw; (try dsimp only at hSw); obtain ⟨q0, q1, q2⟩ := Bk.c3 (Frm.blk hSw HRB.out (fun h => h)); go_simp; (try with_reducible rfl))
      (try simp only [Act.put, List.getElem_toArray, List.getElem_cons_succ, List.getElem_cons_zero, List.setIfInBounds_toArray, List.set_cons_zero, List.set_cons_succ])
      refine wpAnyH_take (i := 3) (v := ?_) rfl (by kernel_rfl) (by kernel_rfl) (by kernel_rfl) (fun _ _ _ h => h) (Or.inl ⟨by rfl, ?_⟩) (by assumption) ?_
      rotate_left 1
      focus (intro w hSw; (try dsimp only at hSw); obtain ⟨q0, q1, q2⟩ := Bk.c3 (Frm.blk hSw HRB.out (fun h => h)); go_simp; (try with_reducible rfl))
      (try simp only [Act.put, List.getElem_toArray, List.getElem_cons_succ, List.getElem_cons_zero, List.setIfInBounds_toArray, List.set_cons_zero, List.set_cons_succ])
      refine wpAnyH_take (i := 4) (v := ?_) rfl (by kernel_rfl) (by kernel_rfl) (by kernel_rfl) (fun _ _ _ h => h) (Or.inl ⟨by rfl, ?_⟩) (by assumption) ?_
      rotate_left 1
      focus (intro w hSw; (try dsimp only at hSw); obtain ⟨q0, q1, q2⟩ := Bk.c3 (Frm.blk hSw HRB.out (fun h => h)); go_simp; (try with_reducible rfl))
      (try simp only [Act.put, List.getElem_toArray, List.getElem_cons_succ, List.getElem_cons_zero, List.setIfInBounds_toArray, List.set_cons_zero, List.set_cons_succ])
      refine wpAnyH_take (i := 5) (v := ?_) rfl (by kernel_rfl) (by kernel_rfl) (by kernel_rfl) (fun _ _ _ h => h) (Or.inl ⟨by rfl, ?_⟩) (by assumption) ?_
      rotate_left 1
      focus (intro w hSw; (try dsimp only at hSw); obtain ⟨q0, q1, q2⟩ := Bk.c3 (Frm.blk hSw HRB.out (fun h => h)); go_simp; (try with_reducible rfl))
      (try simp only [Act.put, List.getElem_toArray, List.getElem_cons_succ, List.getElem_cons_zero, List.setIfInBounds_toArray, List.set_cons_zero, List.set_cons_succ])
      refine wpAnyH_ready (rs := [1]) (by kernel_rfl) (by simp) ?_
      refine AllReadyH.cons rfl (fun K hK => ?_) AllReadyH.nil
      go_simp
      refine (effects_any (HA7.out.frm0 (by assumption)) (by omega)).mono ?_
      rintro e w9 ⟨y9, rfl, hr9, hf9⟩
      (try go_wp2_with fail)
      refine hK.out _ _ ?_ (fun hHeld => ?_)
      focus (exact Frm.trans (by assumption) hf9)
      clear hK K
      (try simp only [Act.put, List.getElem_toArray, List.getElem_cons_succ, List.getElem_cons_zero, List.setIfInBounds_toArray, List.set_cons_zero, List.set_cons_succ])
      refine wpAnyH_ready (rs := [6]) (by kernel_rfl) (by simp) ?_
      refine AllReadyH.cons rfl (fun K hK => ?_) AllReadyH.nil
      go_simp
      refine (same_any s.ef _ _ _ (Sl.of_own hr9) (HS7.out.frm0 (Frm.trans (by assumption) hf9))).mono ?_
      rintro e w10 ⟨rfl, hf10⟩
      (try go_wp2_with fail)
      refine hK.out _ _ ?_ (fun hHeld => ?_)
      focus (exact Frm.trans (by assumption) hf10)
      clear hK K
      (try simp only [Act.put, List.getElem_toArray, List.getElem_cons_succ, List.getElem_cons_zero, List.setIfInBounds_toArray, List.set_cons_zero, List.set_cons_succ])
      refine wpAnyH_take (i := 7) (v := ?_) rfl (by kernel_rfl) (by kernel_rfl) (by kernel_rfl) (fun _ _ _ h => h) (Or.inl ⟨by rfl, ?_⟩) (by assumption) ?_
      rotate_left 1
      focus (intro w hSw; (try dsimp only at hSw); go_simp; (try with_reducible rfl))
      (try simp only [Act.put, List.getElem_toArray, List.getElem_cons_succ, List.getElem_cons_zero, List.setIfInBounds_toArray, List.set_cons_zero, List.set_cons_succ])
      refine wpAnyH_take (i := 8) (v := ?_) rfl (by kernel_rfl) (by kernel_rfl) (by kernel_rfl) (fun _ _ _ h => h) (Or.inl ⟨by rfl, ?_⟩) (by assumption) ?_
      rotate_left 1
      focus (intro w hSw; (try dsimp only at hSw); go_simp; (try with_reducible rfl))
      (try simp only [Act.put, List.getElem_toArray, List.getElem_cons_succ, List.getElem_cons_zero, List.setIfInBounds_toArray, List.set_cons_zero, List.set_cons_succ])
      refine wpAnyH_ready (rs := [9]) (by kernel_rfl) (by simp) ?_
      refine AllReadyH.cons rfl (fun K hK => ?_) AllReadyH.nil
      go_simp
      refine (left_nil _).mono ?_
      rintro e w11 ⟨rfl, rfl⟩
      (try go_wp2_with fail)
      refine hK.out _ _ ?_ (fun hHeld => ?_)
      focus (assumption)
      clear hK K
      (try simp only [Act.put, List.getElem_toArray, List.getElem_cons_succ, List.getElem_cons_zero, List.setIfInBounds_toArray, List.set_cons_zero, List.set_cons_succ])
      refine wpAnyH_take (i := 10) (v := ?_) rfl (by kernel_rfl) (by kernel_rfl) (by kernel_rfl) (fun _ _ _ h => h) (Or.inl ⟨by rfl, ?_⟩) (by assumption) ?_
      rotate_left 1
      focus (intro w hSw; (try dsimp only at hSw); go_simp; (try with_reducible rfl))
      (try simp only [Act.put, List.getElem_toArray, List.getElem_cons_succ, List.getElem_cons_zero, List.setIfInBounds_toArray, List.set_cons_zero, List.set_cons_succ])
      refine wpAnyH_take (i := 11) (v := ?_) rfl (by kernel_rfl) (by kernel_rfl) (by kernel_rfl) (fun _ _ _ h => h) (Or.inl ⟨by rfl, ?_⟩) (by assumption) ?_
      rotate_left 1
      focus (intro w hSw; (try dsimp only at hSw); go_simp; (try with_reducible rfl))
      (try simp only [Act.put, List.getElem_toArray, List.getElem_cons_succ, List.getElem_cons_zero, List.setIfInBounds_toArray, List.set_cons_zero, List.set_cons_succ])
      refine wpAnyH_take (i := 12) (v := ?_) rfl (by kernel_rfl) (by kernel_rfl) (by kernel_rfl) (fun _ _ _ h => h) (Or.inl ⟨by rfl, ?_⟩) (by assumption) ?_
      rotate_left 1
      focus (intro w hSw; (try dsimp only at hSw); go_simp; (try with_reducible rfl))
      (try simp only [Act.put, List.getElem_toArray, List.getElem_cons_succ, List.getElem_cons_zero, List.setIfInBounds_toArray, List.set_cons_zero, List.set_cons_succ])
      refine wpAnyH_take (i := 13) (v := ?_) rfl (by kernel_rfl) (by kernel_rfl) (by kernel_rfl) (fun _ _ _ h => h) (Or.inl ⟨by rfl, ?_⟩) (by assumption) ?_
      rotate_left 1
      focus (intro w hSw; (try dsimp only at hSw); go_simp; (try with_reducible rfl))
      (try simp only [Act.put, List.getElem_toArray, List.getElem_cons_succ, List.getElem_cons_zero, List.setIfInBounds_toArray, List.set_cons_zero, List.set_cons_succ])
      refine wpAnyH_take (i := 14) (v := ?_) rfl (by kernel_rfl) (by kernel_rfl) (by kernel_rfl) (fun _ _ _ h => h) (Or.inl ⟨by rfl, ?_⟩) (by assumption) ?_
      rotate_left 1
      focus (intro w hSw; (try dsimp only at hSw); go_simp; (try with_reducible rfl))
      (try simp only [Act.put, List.getElem_toArray, List.getElem_cons_succ, List.getElem_cons_zero, List.setIfInBounds_toArray, List.set_cons_zero, List.set_cons_succ])
      refine wpAnyH_take (i := 15) (v := ?_) rfl (by kernel_rfl) (by kernel_rfl) (by kernel_rfl) (fun _ _ _ h => h) (Or.inl ⟨by rfl, ?_⟩) (by assumption) ?_
      rotate_left 1
      focus (intro w hSw; (try dsimp only at hSw); go_simp; (try with_reducible rfl))
      (try simp only [Act.put, List.getElem_toArray, List.getElem_cons_succ, List.getElem_cons_zero, List.setIfInBounds_toArray, List.set_cons_zero, List.set_cons_succ])
      refine wpAnyH_take (i := 16) (v := ?_) rfl (by kernel_rfl) (by kernel_rfl) (by kernel_rfl) (fun _ _ _ h => h) (Or.inl ⟨by rfl, ?_⟩) (by assumption) ?_
      rotate_left 1
      focus (intro w hSw; (try dsimp only at hSw); go_simp; (try with_reducible rfl))
      (try simp only [Act.put, List.getElem_toArray, List.getElem_cons_succ, List.getElem_cons_zero, List.setIfInBounds_toArray, List.set_cons_zero, List.set_cons_succ])
      refine wpAnyH_take (i := 17) (v := ?_) rfl (by kernel_rfl) (by kernel_rfl) (by kernel_rfl) (fun _ _ _ h => h) (Or.inl ⟨by rfl, ?_⟩) (by assumption) ?_
      rotate_left 1
      focus (intro w hSw; (try dsimp only at hSw); go_simp; (try with_reducible rfl))
      (try simp only [Act.put, List.getElem_toArray, List.getElem_cons_succ, List.getElem_cons_zero, List.setIfInBounds_toArray, List.set_cons_zero, List.set_cons_succ])
      refine wpAnyH_ready (rs := [18]) (by kernel_rfl) (by simp) ?_
      refine AllReadyH.cons rfl (fun K hK => ?_) AllReadyH.nil
      go_simp
      refine (effects_nil _).mono ?_
      rintro e w12 ⟨rfl, rfl⟩
      (try go_wp2_with fail)
      refine hK.out _ _ ?_ (fun hHeld => ?_)
      focus (assumption)
      clear hK K
      (try simp only [Act.put, List.getElem_toArray, List.getElem_cons_succ, List.getElem_cons_zero, List.setIfInBounds_toArray, List.set_cons_zero, List.set_cons_succ])
      refine wpAnyH_take (i := 19) (v := ?_) rfl (by kernel_rfl) (by kernel_rfl) (by kernel_rfl) (fun _ _ _ h => h) (Or.inl ⟨by rfl, ?_⟩) (by assumption) ?_
      rotate_left 1
      focus (intro w hSw; (try dsimp only at hSw); go_simp; (try with_reducible rfl))
      (try simp only [Act.put, List.getElem_toArray, List.getElem_cons_succ, List.getElem_cons_zero, List.setIfInBounds_toArray, List.set_cons_zero, List.set_cons_succ])
      refine wpAnyH_take (i := 20) (v := ?_) rfl (by kernel_rfl) (by kernel_rfl) (by kernel_rfl) (fun _ _ _ h => h) (Or.inl ⟨by rfl, ?_⟩) (by assumption) ?_
      rotate_left 1
      focus (intro w hSw; (try dsimp only at hSw); go_simp; (try with_reducible rfl))
      (try simp only [Act.put, List.getElem_toArray, List.getElem_cons_succ, List.getElem_cons_zero, List.setIfInBounds_toArray, List.set_cons_zero, List.set_cons_succ])
      refine wpAnyH_take (i := 21) (v := ?_) rfl (by kernel_rfl) (by kernel_rfl) (by kernel_rfl) (fun _ _ _ h => h) (Or.inl ⟨by rfl, ?_⟩) (by assumption) ?_
      rotate_left 1
      focus (intro w hSw; (try dsimp only at hSw); go_simp; (try with_reducible rfl))
      (try simp only [Act.put, List.getElem_toArray, List.getElem_cons_succ, List.getElem_cons_zero, List.setIfInBounds_toArray, List.set_cons_zero, List.set_cons_succ])
      refine wpAnyH_take (i := 22) (v := ?_) rfl (by kernel_rfl) (by kernel_rfl) (by kernel_rfl) (fun _ _ _ h => h) (Or.inl ⟨by rfl, ?_⟩) (by assumption) ?_
      rotate_left 1
      focus (intro w hSw; (try dsimp only at hSw); go_simp; (try with_reducible rfl))
      (try simp only [Act.put, List.getElem_toArray, List.getElem_cons_succ, List.getElem_cons_zero, List.setIfInBounds_toArray, List.set_cons_zero, List.set_cons_succ])
      refine wpAnyH_done (by kernel_rfl) ?_ _
      have hfz := (by assumption : Frm0 wr w10)
      go_wp2_with fail
      go_ret
      exact ⟨rfl, (HF7.out.trans hfz).below (fun _ _ h => h)⟩
end Bk25
end Go.Proofs.Yteokiiolchpndaa
