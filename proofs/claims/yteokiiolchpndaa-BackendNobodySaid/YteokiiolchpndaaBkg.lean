/- The walk of BackendFences. -/
import Derived.Test.YteokiiolchpndaaBke
import Derived.Test.YteokiiolchpndaaBkf
import Derived.Test.YteokiiolchpndaaO
namespace Go.Proofs.Yteokiiolchpndaa
open Go.RowKit Go.ChangeShapes Go.WideShapes Go.Maps
set_option linter.unusedVariables false
set_option linter.unusedSimpArgs false
set_option maxRecDepth 100000
namespace Bk25
theorem Bk.c9' {w : World} {g : Nat} {t : TypeId} {v0 v1 v2 v3 v4 v5 v6 v7 v8 : Value} (h : w.heap[g]? = some (.cells #[v0, v1, v2, v3, v4, v5, v6, v7, v8] t (0, 0))) : w.cell? ⟨g, 0, none⟩ = some v0 ∧ w.cell? ⟨g, 1, none⟩ = some v1 ∧ w.cell? ⟨g, 2, none⟩ = some v2 ∧ w.cell? ⟨g, 3, none⟩ = some v3 ∧ w.cell? ⟨g, 4, none⟩ = some v4 ∧ w.cell? ⟨g, 5, none⟩ = some v5 ∧ w.cell? ⟨g, 6, none⟩ = some v6 ∧ w.cell? ⟨g, 7, none⟩ = some v7 ∧ w.cell? ⟨g, 8, none⟩ = some v8 :=
  ⟨Go.Proofs.Yteokiiolchpndaa.Bk.cell h 0, Go.Proofs.Yteokiiolchpndaa.Bk.cell h 1, Go.Proofs.Yteokiiolchpndaa.Bk.cell h 2, Go.Proofs.Yteokiiolchpndaa.Bk.cell h 3, Go.Proofs.Yteokiiolchpndaa.Bk.cell h 4, Go.Proofs.Yteokiiolchpndaa.Bk.cell h 5, Go.Proofs.Yteokiiolchpndaa.Bk.cell h 6, Go.Proofs.Yteokiiolchpndaa.Bk.cell h 7, Go.Proofs.Yteokiiolchpndaa.Bk.cell h 8⟩
theorem iDd : (Try.prog.info? 30).map (·.size) = some 9 := by kernel_rfl
theorem deed_range {w : World} {b o : Nat} {l : List KDeed} (h : ∀ j u, (l.flatMap KDeed.cells)[j]? = some u → w.cell? ⟨b, o + j, none⟩ = some u) (k : Nat) (hk : k < l.length) : w.rangeAt b (o + k * 9) (l[k]).cells := fun j u hu => by
  have hj : j < 9 := (List.getElem?_eq_some_iff.1 hu).1
  have := h (k * 9 + j) u (by rw [flat_at' KDeed.cells 9 (fun _ => rfl) l k j l[k] (List.getElem?_eq_getElem hk) hj]; exact hu)
  rwa [← Nat.add_assoc] at this
theorem alloc_size' (w : World) (o : Obj) : (w.alloc o).heap.size = w.heap.size + 1 := by simp
theorem u8mod {x : Int} (h : 0 ≤ x ∧ x ≤ 255) : IntKind.u8.wrap (x % 4) = x % 4 := by rw [IntKind.wrap_u8']; omega
set_option maxHeartbeats 8000000 in
theorem fences_walk (v : Value) (l : List KDeed) (w : World) (hs : Sl w v l.length (l.flatMap KDeed.cells)) (hg : ∀ a ∈ l, KDeed.Good a) :
    Calls Try.prog 4 #[v] w fun e w' => e = .returned (.bool true) ∧ Below w.heap.size w w' := by
  have hlen := hs.len
  by_cases h60 : 60 < l.length
  · obtain ⟨A, c, rfl⟩ := hs.form
    go_enter Try.func4, Try.ntmps4
    go_wp2_with fail
    refine (bawake _).mono ?_
    rintro e w1 ⟨rfl, hf1⟩
    go_wp2
    go_ret
    exact ⟨rfl, hf1.below (fun _ _ h => h)⟩
  have hcell : ∀ k (hk : k < l.length), ∃ b o c, v = .slice (some ⟨b, o, none⟩) l.length c ∧ w.rangeAt b (o + k * 9) (l[k]).cells := by
    intro k hk
    rcases hs with ⟨A, c, rfl, hn, _⟩ | ⟨b, o, c, rfl, h0, h1, h2, _, hc⟩
    · omega
    · exact ⟨b, o, c, rfl, deed_range hc k hk⟩
  obtain ⟨A, cp, rfl⟩ := hs.form
  have HC := Lib.hid hcell
  have HG := Lib.hid hg
  clear hcell hs hg
  go_enter Try.func4, Try.ntmps4
  go_wp2_with fail
  refine (bawake _).mono ?_
  rintro e w1 ⟨rfl, hf1⟩
  go_wp2_with fail
  refine (new_any _).mono ?_
  rintro e w2 ⟨rfl, hA, hf2⟩
  have hF2 := hf1.trans hf2
  have hbb : w.heap.size ≤ w1.heap.size := hf1.size
  generalize w1.heap.size = b at *
  clear hf1 hf2
  go_wp2_with fail
  go_loopw [4, 21] (fun cv i wr => ∃ (k : Nat) (s : St) (u : Value) (cs : List Int), k ≤ l.length ∧ i = .int .i64 k ∧ At wr b u s (2 * k) ∧ wr.ownsRow (b + 3) 3 1 cv k (wints cs) ∧ Hid (cs.length = k) ∧ Hid (∀ j (h : j < k) (h1 : j < l.length) (h2 : j < cs.length), Fen s (l[j]).call cs[j]) ∧ s.ef.length ≤ k ∧ Hid (∀ g, cv.ownBlock = some g → u.ownBlock ≠ some g) ∧ Frm0 w wr) (fun _ i _ => l.length - (intOf i).toNat)
  case atStart => exact ⟨0, _, _, [], by omega, rfl, hA, World.ownsRow_nil _ _ _ _, rfl, fun j h => absurd h (Nat.not_lt_zero _), by decide, (by intro g hg; simp [Value.ownBlock] at hg), hF2⟩
  case round =>
    clear hA hF2
    obtain ⟨k, s, u, cs, hk, rfl, hA, hC, hcl, hfn, hel, hsep, hF⟩ := hrel
    by_cases hlt : k < l.length
    · obtain ⟨b0, o0, c0, he, hrg⟩ := HC.out k hlt
      cases he
      have hrg : wr.rangeAt b0 (o0 + k * 9) (l[k]).cells := fun j x hx => hF.cell (hrg j x hx) (fun h => h)
      have hgd := HG.out (l[k]) (List.getElem_mem hlt)
      obtain ⟨c, hcc⟩ : ∃ c, (l[k]).call = c := ⟨_, rfl⟩
      obtain ⟨kd, hkd⟩ : ∃ kd, (l[k]).kind = kd := ⟨_, rfl⟩
      obtain ⟨n, hn⟩ : ∃ n, (l[k]).n = n := ⟨_, rfl⟩
      have hcells : (l[k]).cells = [.int .u8 kd, .int .i64 c.tenant, .string c.key, .int .i64 c.epoch, .int .i64 c.phase, .int .i64 c.token, .string c.name, .string c.body, .int .i64 n] := by rw [← hcc, ← hkd, ← hn]; rfl
      have hk8 := bounds_u8 (hkd ▸ hgd.kind)
      have hkok : Kok c.tenant c.key c.epoch := by have := hgd.call; rw [hcc] at this; exact ⟨this.tenant, this.key, this.epoch⟩
      have hpok : (Lit.int .i64 c.phase).wf = true := by have := hgd.call; rw [hcc] at this; exact this.phase
      rw [hcells] at hrg
      have HKOK := Lib.hid hkok
      have HPOK := Lib.hid hpok
      have HCC := Lib.hid hcc
      clear hgd hcells hkd hn hkok hpok hcc
      have hlb := hA.lt
      have HOWN := Lib.hid hA.own
      go_upto_region 11 with (first
        | (refine wpList_load_mid rfl 30 (.tmp 24) rfl b0 (o0 + k * 9) rfl _ _ hrg Try.underlying30 rfl (by rw [iDd]; rfl) ?_)
        | (refine wpList_alloc_any rfl 30 6 rfl rfl (.cells _ 30) (by rfl) ?_; intro w3 hz3 hN3 hf3)
        | (refine wpList_store_blk rfl 30 (.tmp 6) (.tmp 25) rfl hN3 rfl rfl iDd (us := #[.int .u8 kd, .int .i64 c.tenant, .string c.key, .int .i64 c.epoch, .int .i64 c.phase, .int .i64 c.token, .string c.name, .string c.body, .int .i64 n]) rfl rfl rfl ?_; intro w4 hb4 hf4; obtain ⟨m0, m1, m2, m3, m4, m5, m6, m7, m8⟩ := Bk.c9' hb4))
      have hB7 := new_second wr (.cells #[.int .u8 kd, .int .i64 c.tenant, .string c.key, .int .i64 c.epoch, .int .i64 c.phase, .int .i64 c.token, .string c.name, .string c.body, .int .i64 n] 30) (.cells #[.int .i64 c.tenant, .string c.key, .int .i64 c.epoch, .int .i64 c.phase, .int .i64 c.token, .string c.name, .string c.body] 28)
      have hal3 := ((Frm.refl (fun _ => False) wr).alloc (.cells #[.int .u8 kd, .int .i64 c.tenant, .string c.key, .int .i64 c.epoch, .int .i64 c.phase, .int .i64 c.token, .string c.name, .string c.body, .int .i64 n] 30)).alloc (.cells #[.int .i64 c.tenant, .string c.key, .int .i64 c.epoch, .int .i64 c.phase, .int .i64 c.token, .string c.name, .string c.body] 28)
      have hB6 := Bk.alloc (Bk.new wr (.cells #[.int .u8 kd, .int .i64 c.tenant, .string c.key, .int .i64 c.epoch, .int .i64 c.phase, .int .i64 c.token, .string c.name, .string c.body, .int .i64 n] 30)) (.cells #[.int .i64 c.tenant, .string c.key, .int .i64 c.epoch, .int .i64 c.phase, .int .i64 c.token, .string c.name, .string c.body] 28)
      have hA3 := hA.frm0 hal3
      have hC3 := owns_frm0 hC hal3
      have hF3 := hF.trans hal3
      have hs3 := hal3.size
      have hwr := hF.size
      obtain ⟨m0, m1, m2, m3, m4, m5, m6, m7, m8⟩ := Bk.c9' hB6
      have HD7 := Lib.hid (show ∀ j (h : j < l.length), w.cell? ⟨b0, o0 + j * 9 + 1, none⟩ = some (.int .i64 (l[j]).call.tenant) ∧ w.cell? ⟨b0, o0 + j * 9 + 2, none⟩ = some (.string (l[j]).call.key) ∧ w.cell? ⟨b0, o0 + j * 9 + 3, none⟩ = some (.int .i64 (l[j]).call.epoch) ∧ w.cell? ⟨b0, o0 + j * 9 + 4, none⟩ = some (.int .i64 (l[j]).call.phase) ∧ w.cell? ⟨b0, o0 + j * 9 + 5, none⟩ = some (.int .i64 (l[j]).call.token) ∧ w.cell? ⟨b0, o0 + j * 9 + 6, none⟩ = some (.string (l[j]).call.name) ∧ w.cell? ⟨b0, o0 + j * 9 + 7, none⟩ = some (.string (l[j]).call.body) from fun j h => by
        obtain ⟨b9, o9, c9, he, hr⟩ := HC.out j h
        cases he
        exact ⟨hr 1 _ rfl, hr 2 _ rfl, hr 3 _ rfl, hr 4 _ rfl, hr 5 _ rfl, hr 6 _ rfl, hr 7 _ rfl⟩)
      have HSEP := Lib.hid hsep.out
      have HCLT := Lib.hid hC.lt
      have HFN := Lib.hid hfn.out
      have HCL := Lib.hid hcl.out
      clear hA hC hF hal3 hB6 hsep hfn hcl hrg
      generalize (wr.alloc (.cells #[.int .u8 kd, .int .i64 c.tenant, .string c.key, .int .i64 c.epoch, .int .i64 c.phase, .int .i64 c.token, .string c.name, .string c.body, .int .i64 n] 30)).alloc (.cells #[.int .i64 c.tenant, .string c.key, .int .i64 c.epoch, .int .i64 c.phase, .int .i64 c.token, .string c.name, .string c.body] 28) = w3 at *
      generalize wr.heap.size = D at *
      have hmod := u8mod hk8
      by_cases h3 : kd % 4 = 3
      · have d3 : (kd % 4 == 3) = true := beq_iff_eq.2 h3
        go_wp2_with fail
        refine (later_any n hA3).mono ?_
        rintro e w5 ⟨rfl, hA5, hf5⟩
        have hC5 := owns_frm hC3 hf5 (fun g hg e => by have := (hC3.lt g hg).1; omega)
        have hF5 := hF3.then_ hf5 (fun i hi e => by omega)
        have hs5 := hf5.size
        have hA5l := hA5.lt
        go_wp2_with (at_builtin; refine wpList_append_sl rfl (.tmp 36) (.tmp 37) rfl Ewin (b + 3) _ (.slice (some ⟨w5.heap.size, 0, none⟩) 1 1) k 1 (wints cs) (wints [0]) rfl rfl (hC5.alloc _) (Sl.new _ _ _ 1 (by decide) (by omega)) rfl (wints_one _) (by unfold maxLen; omega) (by omega) (by simp; omega) ?_; intro cv6 w6 hown6 hf6 hat6)
        go_roundw
        case rel =>
          have hal := (Frm.refl (fun _ => False) w5).alloc (.cells (wints [0]).toArray 3)
          have hA6 : At w6 b u ⟨s.ls, s.ef, nb n⟩ (2 * k) := (hA5.frm0 hal).frm hf6 (fun g hg e => by
            rcases hg with e' | e' | e' | e'
            · have := (hC5.lt g e).1; omega
            · have := (hC5.lt g e).1; omega
            · have := (hC5.lt g e).1; omega
            · exact HSEP.out g e e')
          refine ⟨k + 1, ⟨s.ls, s.ef, nb n⟩, u, cs ++ [0], by omega, by go_num, hA6.more (show 2 * k ≤ 2 * (k + 1) by omega), by rw [wints_app]; exact hown6, by unfold Hid; rw [List.length_append, HCL.out]; rfl, ?_, (show s.ef.length ≤ k + 1 by omega), ?_, (hF5.trans hal).then_ hf6 (fun i hi e => by have := (hC5.lt i e).1; omega)⟩
          · intro j hj h1 h2
            by_cases hjk : j < k
            · rw [List.getElem_append_left (by rw [HCL.out]; exact hjk)]
              exact fen_later (HFN.out j hjk h1 (by rw [HCL.out]; exact hjk)) (nb n)
            · obtain rfl : j = k := by omega
              have : (cs ++ [0])[j] = 0 := by rw [List.getElem_append_right (by rw [HCL.out]; exact Nat.le_refl _)]; simp
              rw [this]
              exact fen_zero _ _
          · intro g hg e
            rcases hat6 with h6 | h6
            · rw [h6] at hg; exact HSEP.out g hg e
            · rw [h6] at hg
              cases hg
              have := (hA5.own _ e).2
              rw [alloc_size'] at this
              omega
        case measure => simp [intOf]; omega
      · have d3 : (kd % 4 == 3) = false := beq_eq_false_iff_ne.2 h3
        go_wp2_with fail
        refine (effects_any hA3 (by omega)).mono ?_
        rintro e w4 ⟨e4, rfl, hr4, hf4⟩
        obtain ⟨A4, c4, rfl⟩ := owns_nil_form' hr4
        have hA4 := hA3.frm0 hf4
        have hC4 := owns_frm0 hC3 hf4
        have hB4 := hf4.blk hB7 (fun h => h)
        have hF4 := hF3.trans hf4
        obtain ⟨⟨s', x⟩, hcall⟩ : ∃ r, call s c = r := ⟨_, rfl⟩
        have HCALL := Lib.hid hcall
        have HDO := Lib.hid (do_to c hA4 (by omega) (by omega) HKOK.out HPOK.out hcall)
        have hfp7 : ¬ fp b u (D + 1) := by
          rintro (e | e | e | e)
          · omega
          · omega
          · omega
          · have := (HOWN.out _ e).2; omega
        have hefl : s'.ef.length ≤ s.ef.length + 1 := by
          rcases call_ef s c with ⟨h, _⟩ | ⟨h, _⟩
          · rw [hcall] at h; simp only at h; rw [h]; omega
          · rw [hcall] at h; simp only at h; rw [h]; simp
        clear hcall hr4 hf4
        obtain ⟨p0, p1, p2, p3, p4, p5, p6⟩ := Bk.c7 hB4
        go_wp2_with fail
        refine HDO.out.mono ?_
        rintro e w5 ⟨rfl, u5, hA5, hf5, ho5⟩
        have hB5 := hf5.blk hB4 hfp7
        have hC5 := owns_frm hC4 hf5 (fun g hg e => by
          have := (hC4.lt g hg).1
          rcases e with e | e | e | e
          · omega
          · omega
          · omega
          · exact HSEP.out g hg e)
        have hF5 := hF4.then_ hf5 (fun i hi e => by
          rcases e with e | e | e | e
          · omega
          · omega
          · omega
          · have := (hA4.own i e).1; omega)
        have hs4 := hF4.size
        have hs5 := hf5.size
        have hA5l := hA5.lt
        have hsep5 : ∀ g, u4.ownBlock = some g → u5.ownBlock ≠ some g := fun g hg e => by
          rcases ho5 with h | h
          · exact HSEP.out g hg (h ▸ e)
          · have := h g e; have := (hC4.lt g hg).2; omega
        have HSEP5 := Lib.hid hsep5
        clear p0 p1 p2 p3 p4 p5 p6 hB4 hf5 ho5 hsep5 hA4 hF4
        have hfd : ∀ w, (Instr.field 33 (.agg (Ca.reply c x).toArray) 5).run Try.prog w = .ok (.int .i64 x) w := fun w => by rfl
        go_wp2_with (at_builtin; refine wpList_append_sl rfl (.tmp 46) (.tmp 48) rfl Ewin (b + 3) _ (.slice (some ⟨w5.heap.size, 0, none⟩) 1 1) k 1 (wints cs) (wints [x]) rfl rfl (hC5.alloc _) (Sl.new _ _ _ 1 (by decide) (by omega)) rfl (wints_one _) (by unfold maxLen; omega) (by omega) (by simp; omega) ?_; intro cv6 w6 hown6 hf6 hat6)
        have hal := (Frm.refl (fun _ => False) w5).alloc (.cells (wints [x]).toArray 3)
        have hA6 : At w6 b u5 s' (2 * k + 2) := (hA5.frm0 hal).frm hf6 (fun g hg e => by
          rcases hg with e' | e' | e' | e'
          · have := (hC5.lt g e).1; omega
          · have := (hC5.lt g e).1; omega
          · have := (hC5.lt g e).1; omega
          · exact HSEP5.out g e e')
        have hB6 := (hal.blk hB5 (fun h => h))
        have hB6 := hf6.blk hB6 (fun e => by have := (HCLT.out _ e).2; omega)
        have hF6 := (hF5.trans hal).then_ hf6 (fun i hi e => by have := (hC5.lt i e).1; omega)
        have hsep6 : ∀ g, cv6.ownBlock = some g → u5.ownBlock ≠ some g := fun g hg e => by
          rcases hat6 with h6 | h6
          · rw [h6] at hg; exact HSEP5.out g hg e
          · rw [h6] at hg
            cases hg
            have := (hA5.own _ e).2
            rw [alloc_size'] at this
            omega
        have HSEP6 := Lib.hid hsep6
        have HFN2 := Lib.hid (show ∀ j (h : j < k + 1) (h1 : j < l.length) (h2 : j < (cs ++ [x]).length), Fen s' (l[j]).call (cs ++ [x])[j] from fun j hj h1 h2 => by
          have hs' : (call s c).1 = s' := by rw [HCALL.out]
          have hx' : (call s c).2 = x := by rw [HCALL.out]
          by_cases hjk : j < k
          · rw [List.getElem_append_left (by rw [HCL.out]; exact hjk), ← hs']
            exact fen_old (HFN.out j hjk h1 (by rw [HCL.out]; exact hjk)) c
          · obtain rfl : j = k := by omega
            have : (cs ++ [x])[j] = x := by rw [List.getElem_append_right (by rw [HCL.out]; exact Nat.le_refl _)]; simp
            rw [this, ← hs', ← hx', HCC.out]
            exact fen_new s c)
        have HCL2 := Lib.hid (show (cs ++ [x]).length = k + 1 by rw [List.length_append, HCL.out]; rfl)
        clear hal hA5 hC5 hF5 hB5 hsep6 hat6 hf6
        have hown6 : w6.ownsRow (b + 3) 3 1 cv6 (k + 1) (wints (cs ++ [x])) := by rw [wints_app]; exact hown6
        have hs6 := hF6.size
        go_wp2_with fail
        refine (effects_any hA6 (by omega)).mono ?_
        rintro e w7 ⟨e7, rfl, hr7, hf7⟩
        obtain ⟨A7, c7, rfl⟩ := owns_nil_form' hr7
        have hA8 := hA6.frm0 hf7
        have hown8 := owns_frm0 hown6 hf7
        have hB8 := hf7.blk hB6 (fun h => h)
        have hF8 := hF6.trans hf7
        clear hA6 hown6 hB6 hF6 hr7 hf7
        by_cases hq : s'.ef.length = s.ef.length
        · have hqi : (s'.ef.length : Int) = (s.ef.length : Int) := by omega
          have hqb : ((s'.ef.length : Int) == (s.ef.length : Int)) = true := beq_iff_eq.2 hqi
          clear hqi
          go_wp2_with fail
          go_roundw
          case rel => exact ⟨k + 1, s', u5, cs ++ [x], by omega, by go_num, hA8.more (show 2 * k + 2 ≤ 2 * (k + 1) by omega), hown8, HCL2.out, HFN2.out, by omega, HSEP6.out, hF8⟩
          case measure => simp [intOf]; omega
        · have hqb : ((s'.ef.length : Int) == (s.ef.length : Int)) = false := beq_eq_false_iff_ne.2 (by omega)
          have HGR := Lib.hid (show ∀ (d : Ca) (y : Int), Fen s d y → (d.tenant = c.tenant ∧ d.key = c.key ∧ d.epoch = c.epoch) → ¬ ((y = 1 ∧ c.token < d.token) ∨ (y = 2 ∧ c.token ≤ d.token)) from fun d y h1 h2 => fen_grow h1 (by rw [HCALL.out]; exact hq) h2)
          have hlen2 : s'.ef.length ≤ k + 1 := by omega
          obtain ⟨g8, c8, rfl⟩ := owns_form hown8
          have HB7 := Lib.hid hB8
          have HFW := Lib.hid hF8
          have HA8 := Lib.hid hA8
          have HOW8 := Lib.hid hown8
          rw [wints_app] at hown8
          generalize w7 = w8 at *
          clear hB8 hF8 hA8 hq
          go_wp2_with fail
          clear hqb
          go_loopw [56] (fun m wq => ∃ (j : Nat), j ≤ k ∧ m = .int .i64 j ∧ Frm0 w8 wq) (fun m _ => k - (intOf m).toNat)
          case atStart => exact ⟨0, by omega, rfl, Frm.refl _ _⟩
          case round =>
            obtain ⟨j, hj, rfl, hFi⟩ := hrel
            by_cases hjk0 : j < k
            · obtain ⟨k0, k1, k2, k3, k4, k5, k6⟩ := HD7.out j (by omega)
              have hfen := HFN.out j (by omega) (by omega) (by rw [HCL.out]; omega)
              obtain ⟨d, hd⟩ : ∃ d, (l[j]'(by omega)).call = d := ⟨_, rfl⟩
              obtain ⟨y, hy⟩ : ∃ y, cs[j]'(by rw [HCL.out]; omega) = y := ⟨_, rfl⟩
              rw [hd] at k0 k1 k2 k3 k4 k5 k6 hfen
              rw [hy] at hfen
              have hcy : w8.cell? ⟨g8, j, none⟩ = some (.int .i64 y) := by
                rw [hown8.cellAt j (by omega), ← wints_app, wints_at (cs ++ [x]) j (by rw [List.length_append, HCL.out]; simp; omega), List.getElem_append_left (by rw [HCL.out]; omega), hy]
              have hcy := hFi.cell hcy (fun h => h)
              have hnx := HGR.out d y hfen
              have hfw := HFW.out.trans hFi
              have k0 := hfw.cell k0 (fun h => h)
              have k1 := hfw.cell k1 (fun h => h)
              have k2 := hfw.cell k2 (fun h => h)
              have k3 := hfw.cell k3 (fun h => h)
              have k4 := hfw.cell k4 (fun h => h)
              have k5 := hfw.cell k5 (fun h => h)
              have k6 := hfw.cell k6 (fun h => h)
              obtain ⟨q0, q1, q2, q3, q4, q5, q6⟩ := Bk.c7 (hFi.blk HB7.out (fun h => h))
              have hji : (j : Int) < (k : Int) := by omega
              have hjl : (j : Int) < (l.length : Int) := by omega
              have hjk : (j : Int) < (k : Int) + 1 := by omega
              clear hfen hfw hd hy hown8
              generalize d.tenant = dt at *
              generalize d.key = dk at *
              generalize d.epoch = de at *
              generalize d.token = dtok at *
              generalize d.phase = dph at *
              generalize d.name = dnm at *
              generalize d.body = dbd at *
              have r0 := cell_al (o := .cells #[.int .i64 dt, .string dk, .int .i64 de, .int .i64 dph, .int .i64 dtok, .string dnm, .string dbd] 28) q0
              have r1 := cell_al (o := .cells #[.int .i64 dt, .string dk, .int .i64 de, .int .i64 dph, .int .i64 dtok, .string dnm, .string dbd] 28) q1
              have r2 := cell_al (o := .cells #[.int .i64 dt, .string dk, .int .i64 de, .int .i64 dph, .int .i64 dtok, .string dnm, .string dbd] 28) q2
              have r4 := cell_al (o := .cells #[.int .i64 dt, .string dk, .int .i64 de, .int .i64 dph, .int .i64 dtok, .string dnm, .string dbd] 28) q4
              have ry := cell_al (o := .cells #[.int .i64 dt, .string dk, .int .i64 de, .int .i64 dph, .int .i64 dtok, .string dnm, .string dbd] 28) hcy
              by_cases h1 : dt = c.tenant
              · subst h1
                by_cases h2 : dk = c.key
                · subst h2
                  by_cases h3 : de = c.epoch
                  · subst h3
                    have hno := hnx ⟨rfl, rfl, rfl⟩
                    clear hnx
                    by_cases y1 : y = 1
                    · subst y1
                      have hle : ¬ c.token < dtok := fun h => hno (.inl ⟨rfl, h⟩)
                      have d1 : decide (c.token < dtok) = false := decide_eq_false hle
                      clear hno
                      go_wp2_with fail
                      go_roundw
                      case rel =>
                        first
                          | exact ⟨j + 1, by omega, by go_num, hFi.alloc _⟩
                          | ((repeat apply Exists.intro); refine And.intro ?_ rfl; exact ⟨j + 1, by omega, by go_num, hFi.alloc _⟩)
                      case measure => simp [intOf]; omega
                    · by_cases y2 : y = 2
                      · subst y2
                        have hle : ¬ c.token ≤ dtok := fun h => hno (.inr ⟨rfl, h⟩)
                        have d1 : decide (c.token ≤ dtok) = false := decide_eq_false hle
                        clear hno y1
                        go_wp2_with fail
                        go_roundw
                        case rel =>
                          first
                            | exact ⟨j + 1, by omega, by go_num, hFi.alloc _⟩
                            | ((repeat apply Exists.intro); refine And.intro ?_ rfl; exact ⟨j + 1, by omega, by go_num, hFi.alloc _⟩)
                        case measure => simp [intOf]; omega
                      · have d1 : (y == 1) = false := beq_eq_false_iff_ne.2 y1
                        have d2 : (y == 2) = false := beq_eq_false_iff_ne.2 y2
                        clear hno
                        go_wp2_with fail
                        go_roundw
                        case rel =>
                          first
                            | exact ⟨j + 1, by omega, by go_num, hFi.alloc _⟩
                            | ((repeat apply Exists.intro); refine And.intro ?_ rfl; exact ⟨j + 1, by omega, by go_num, hFi.alloc _⟩)
                        case measure => simp [intOf]; omega
                  · have d1 : (de == c.epoch) = false := beq_eq_false_iff_ne.2 h3
                    clear hnx
                    go_wp2_with fail
                    go_roundw
                    case rel =>
                      first
                        | exact ⟨j + 1, by omega, by go_num, hFi.alloc _⟩
                        | ((repeat apply Exists.intro); refine And.intro ?_ rfl; exact ⟨j + 1, by omega, by go_num, hFi.alloc _⟩)
                    case measure => simp [intOf]; omega
                · have d1 := str_ne h2
                  clear hnx
                  go_wp2_with fail
                  go_roundw
                  case rel =>
                    first
                      | exact ⟨j + 1, by omega, by go_num, hFi.alloc _⟩
                      | ((repeat apply Exists.intro); refine And.intro ?_ rfl; exact ⟨j + 1, by omega, by go_num, hFi.alloc _⟩)
                  case measure => simp [intOf]; omega
              · have d1 : (dt == c.tenant) = false := beq_eq_false_iff_ne.2 h1
                clear hnx
                go_wp2_with fail
                go_roundw
                case rel =>
                  first
                    | exact ⟨j + 1, by omega, by go_num, hFi.alloc _⟩
                    | ((repeat apply Exists.intro); refine And.intro ?_ rfl; exact ⟨j + 1, by omega, by go_num, hFi.alloc _⟩)
                case measure => simp [intOf]; omega
            · obtain rfl : j = k := by omega
              have hjj : ¬ (j : Int) < (j : Int) := Int.lt_irrefl _
              go_wp2_with fail
              go_roundw
              case rel => exact ⟨j + 1, s', u5, cs ++ [x], by omega, by go_num, (HA8.out.frm0 hFi).more (show 2 * j + 2 ≤ 2 * (j + 1) by omega), owns_frm0 HOW8.out hFi, HCL2.out, HFN2.out, by omega, HSEP6.out, HFW.out.trans hFi⟩
              case measure => simp [intOf]; omega
    · obtain rfl : k = l.length := by omega
      go_wp2_with fail
      go_ret
      exact ⟨rfl, hF.below (fun _ _ h => h)⟩
end Bk25
end Go.Proofs.Yteokiiolchpndaa
