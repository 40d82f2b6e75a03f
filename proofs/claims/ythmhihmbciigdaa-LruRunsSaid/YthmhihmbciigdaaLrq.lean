/- The walk of LruRuns. -/
import Derived.Test.YthmhihmbciigdaaLrp
import Derived.Deep.QuietTactic
import Derived.BigQuiet
namespace Go.Proofs.Ythmhihmbciigdaa
open Go.RowKit Go.Maps Go.ChangeShapes Go.WideShapes
set_option linter.unusedVariables false
set_option linter.unusedSimpArgs false
set_option maxRecDepth 100000
namespace Lr
theorem u8mod5 {x : Int} (h : 0 ≤ x ∧ x ≤ 255) : IntKind.u8.wrap (x % 5) = x % 5 := by rw [IntKind.wrap_u8']; omega
set_option maxHeartbeats 16000000 in
theorem runs_walk (n : Int) (v : Value) (l : List LDeed) (w : World) (hs : Sl w v l.length (l.flatMap LDeed.cells)) (hg : ∀ a ∈ l, LDeed.Good a) :
    Calls Try.prog 8 #[.int .i64 n, v] w fun e w' => e = .returned (.bool true) ∧ Below w.heap.size w w' := by
  have hlen := hs.len
  have HSM := Lib.hid (fun w1 (hf : Frm0 w w1) => small_any v l w1 (hs.frm0 hf))
  obtain ⟨A, cp, rfl⟩ := hs.form
  have hcell : ∀ k (hk : k < l.length), ∃ b o, A = some ⟨b, o, none⟩ ∧ w.cell? ⟨b, o + k * 3, none⟩ = some (.int .u8 (l[k]).kind) ∧ w.cell? ⟨b, o + k * 3 + 1, none⟩ = some (.string (l[k]).key) ∧ w.cell? ⟨b, o + k * 3 + 2, none⟩ = some (.string (l[k]).val) ∧ (0 ≤ (l[k]).kind ∧ (l[k]).kind ≤ 255) := by
    intro k hk
    rcases hs with ⟨A', c', _, hn, _⟩ | ⟨b, o, c', he, h0, h1, h2, h3, h4⟩
    · omega
    · cases he
      obtain ⟨x0, x1, x2⟩ := ldeed_at h4 k hk
      exact ⟨b, o, rfl, x0, x1, x2, bounds_u8 (hg _ (List.getElem_mem hk)).kind⟩
  have HC := Lib.hid hcell
  have HMB := Lib.hid (most_bd n)
  clear hcell hs hg
  go_enter Try.func8, Try.ntmps8
  go_wp2_with fail
  refine (lawake _).mono ?_
  rintro e w1 ⟨rfl, hf1⟩
  go_wp2_with fail
  refine (HSM.out w1 hf1).mono ?_
  rintro e w2 ⟨bs, rfl, hsm, hf2⟩
  have hF2 := hf1.trans hf2
  clear hf1 hf2
  cases bs
  · go_wp2
    go_ret
    exact ⟨rfl, hF2.below (fun _ _ h => h)⟩
  have HSS := Lib.hid (hsm rfl)
  have h80 := (hsm rfl).1
  clear hsm
  go_wp2_with fail
  refine (ca_new n _).mono ?_
  rintro e w3 ⟨rfl, hA, hf3⟩
  have hF3 := hF2.trans hf3
  have hs2 := hF2.size
  generalize w2.heap.size + 2 = c at *
  generalize w2.heap.size + 1 = m at *
  have hA := hA.mono (V := fun j => w.heap.size ≤ j ∧ (Value.slice none 0 0).ownBlock ≠ some j) (Nat.le_refl 0) (fun j hj _ => ⟨Nat.le_trans hs2 hj, fun e => by simp [Value.ownBlock] at e⟩)
  generalize w2.heap.size = r at *
  clear hF2 hf3 hs2
  go_wp2_with fail
  go_loopw [6, 34] (fun v i wr => ∃ (k : Nat) (ps : PP), k ≤ l.length ∧ i = .int .i64 k ∧ Pr wr w.heap.size v ps ∧ Ca wr m r c (mostI n) k ps (fun j => w.heap.size ≤ j ∧ v.ownBlock ≠ some j) ∧ (ps.length : Int) ≤ mostI n ∧ Frm0 w wr) (fun _ i _ => l.length - (intOf i).toNat)
  case atStart => exact ⟨0, [], by omega, rfl, World.ownsRow_nil _ _ _ _, hA, by have := HMB.out; simp; omega, hF3⟩
  case round =>
    clear hA hF3
    obtain ⟨k, ps, hk, rfl, hP, hA, hpl, hF⟩ := hrel
    obtain ⟨v, rfl⟩ : ∃ v, v = u6 := ⟨_, rfl⟩
    by_cases hlt : k < l.length
    · obtain ⟨b, o, rfl, c0, c1, c2, hkd⟩ := HC.out k hlt
      have hsz := HSS.out.2 _ (List.getElem_mem hlt)
      have c0 := hF.cell c0 (fun h => h)
      have c1 := hF.cell c1 (fun h => h)
      have c2 := hF.cell c2 (fun h => h)
      generalize (l[k]).kind = kd at *
      generalize (l[k]).key = ky at *
      generalize (l[k]).val = vl at *
      obtain ⟨hk30, hvl⟩ := hsz
      have hmod := u8mod5 hkd
      have hal := (Frm.refl (fun _ => False) wr).alloc (.cells #[.int .u8 kd, .string ky, .string vl] 53)
      have hF1 := hF.alloc (.cells #[.int .u8 kd, .string ky, .string vl] 53)
      have hP1 := hP.frm0 hal
      have HND := Lib.hid hA.nodup
      have HVO := Lib.hid (fun j hj => (World.ownsRow.lt hP j hj).2)
      have hA1 := (hA.mono (V := fun j => w.heap.size ≤ j ∧ j < wr.heap.size ∧ v.ownBlock ≠ some j) (Nat.le_refl k) (fun j hj hl => ⟨hj.1, hl, hj.2⟩)).frm0 hal
      obtain ⟨x0, x1, x2⟩ := Bk.c3 (Bk.new wr (.cells #[.int .u8 kd, .string ky, .string vl] 53))
      have hsz1 : (wr.alloc (.cells #[.int .u8 kd, .string ky, .string vl] 53)).heap.size = wr.heap.size + 1 := by simp
      have HWS := Lib.hid (And.intro hF.size hsz1)
      clear hal hP hA hF
      go_wp2_with fail
      generalize wr.alloc (.cells #[.int .u8 kd, .string ky, .string vl] 53) = wA at *
      refine (rfind_any (k := ky) hP1 (by have := HMB.out; omega)).mono ?_
      rintro e w1 ⟨rfl, hcase⟩
      rcases hcase with ⟨p, x, q, hl2, hx, rfl⟩ | ⟨hn, rfl⟩
      · have hpk := pk_yes (fnd_of HND.out hl2 hx)
        have HPK := Lib.hid hpk
        have hP1' := hP1
        rw [hl2] at hP1'
        obtain ⟨gw, cw, ew, y0, y1⟩ := hP1'.at_
        rw [← hl2] at ew
        subst ew
        have hkl : p.length < ps.length := by rw [hl2]; simp
        have hPV := x.2
        clear hP1' hl2 hpk
        obtain ⟨xv, hxv⟩ : ∃ xv, x.2 = xv := ⟨_, rfl⟩
        rw [hxv] at y1
        have hpk : pk ps ky = (xv, true) := by rw [HPK.out, hxv]
        have HPK := Lib.hid hpk
        clear hpk hxv hPV y0
        by_cases K2 : kd % 5 = 2
        ·
          have e2 : (kd % 5 == 2) = true := beq_iff_eq.2 K2
          go_wp2_with fail
          refine (ca_get hA1 hk30).mono ?_
          rintro e w2 ⟨rfl, hA2, hf2⟩
          have hF2 := hF1.then_ hf2 (fun i hi h => by have := h.1; omega)
          have hP2 := owns_frm hP1 hf2 (fun g hg h => h.2.2 hg)
          have x1 := hf2.cell x1 (fun h => Nat.lt_irrefl _ h.2.1)
          have x2 := hf2.cell x2 (fun h => Nat.lt_irrefl _ h.2.1)
          have hs2 := hf2.size
          have HS2 := Lib.hid (show w.heap.size ≤ w2.heap.size by have := hF2.size; omega)
          clear hA1 hP1 hF1 hf2
          rw [HPK.out]
          go_wp2_with fail
          refine (rget_to (k := ky) hP2 HS2.out HND.out (by have := HMB.out; omega)).mono ?_
          rintro e w3 ⟨v3, rfl, hP3, ho3, hf3⟩
          have hF3 := hF2.trans hf3
          have hA3 := (hA2.mono (V := fun j => w.heap.size ≤ j ∧ v3.ownBlock ≠ some j) (Nat.le_succ k) (fun j hj hl => ⟨hj.1, fun e => ho3.elim (fun h => hj.2.2 (h ▸ e)) (fun h => by have := h j e; omega)⟩)).frm0 hf3
          have hl3 : ((gt ps ky).length : Int) ≤ mostI n := by have := gt_len HND.out ky; omega
          clear hA2 hP2 hF2 hf3 ho3
          generalize hps3 : gt ps ky = ps3 at *
          rw [HPK.out]
          go_wp2_with fail
          
          have hmb := HMB.out
          refine (ca_keys hA3 (by omega)).mono ?_
          rintro e w4 ⟨kv, rfl, hK4, hf4⟩
          have hP4 := hP3.frm0 hf4
          have hA4 := hA3.frm0 hf4
          have hF4 := hF3.trans hf4
          obtain ⟨KA, kc, rfl⟩ := (Sl.of_own hK4).form
          obtain ⟨PA, pcp, ePA⟩ := hP4.form
          first
            | subst ePA
            | (injection ePA with eP1 eP2 eP3; subst eP1; subst eP3)
          clear hP3 hA3 hF3 hf4
          go_wp2_with fail
          refine (ca_len hA4).mono ?_
          rintro e w5 ⟨rfl, rfl⟩
          go_wp2_with fail
          refine (most_any n _).mono ?_
          rintro e w5 ⟨rfl, rfl⟩
          go_wp2_with fail
          have HP4 := Lib.hid hP4
          have HA4 := Lib.hid hA4
          have HK4 := Lib.hid hK4
          clear hP4 hA4 hK4
          go_loopw [161] (fun i wq => ∃ (j : Nat), j ≤ ps3.length ∧ i = .int .i64 j ∧ Frm0 w4 wq) (fun i _ => ps3.length - (intOf i).toNat)
          case atStart => exact ⟨0, by omega, rfl, Frm.refl _ _⟩
          case round =>
            obtain ⟨j, hj, rfl, hFq⟩ := hrel
            by_cases hjl : j < ps3.length
            · obtain ⟨g1, rfl, q1⟩ := str_key HK4.out j hjl
              obtain ⟨g2, eg2, q2⟩ := HP4.out.key j hjl
              first
                | subst eg2
                | (injection eg2 with eg2; injection eg2 with eg2; subst eg2)
              have q1 := hFq.cell q1 (fun h => h)
              have q2 := hFq.cell q2 (fun h => h)
              go_upto_region 40 with (fail)
              go_quiet (fail)
              go_wp2
              go_roundw
              case rel => exact ⟨j + 1, by omega, by go_num, hFq.drewN _⟩
              case measure => simp [intOf]; omega
            · obtain rfl : j = ps3.length := by omega
              go_wp2
              go_roundw
              case rel => exact ⟨k + 1, ps3, by omega, by go_num, HP4.out.frm0 hFq, HA4.out.frm0 hFq, hl3, hF4.trans hFq⟩
              case measure => simp [intOf]; omega
        by_cases K3 : kd % 5 = 3
        ·
          have e2 : (kd % 5 == 2) = false := beq_eq_false_iff_ne.2 K2
          have e3 : (kd % 5 == 3) = true := beq_iff_eq.2 K3
          go_wp2_with fail
          refine (ca_peek hA1 hk30).mono ?_
          rintro e w2 ⟨rfl, rfl⟩
          rw [HPK.out]
          have hP3 := hP1
          have hF3 := hF1
          have hA3 := (hA1.mono (V := fun j => w.heap.size ≤ j ∧ (Value.slice (some ⟨gw, 0, none⟩) ps.length cw).ownBlock ≠ some j) (Nat.le_succ k) (fun j hj hl => ⟨hj.1, hj.2.2⟩))
          have hl3 := hpl
          obtain ⟨ps3, hps3⟩ : ∃ ps3, ps = ps3 := ⟨_, rfl⟩
          rw [hps3] at hP3 hA3 hl3
          clear hA1 hP1 hF1
          go_wp2_with fail
          
          have hmb := HMB.out
          refine (ca_keys hA3 (by omega)).mono ?_
          rintro e w4 ⟨kv, rfl, hK4, hf4⟩
          have hP4 := hP3.frm0 hf4
          have hA4 := hA3.frm0 hf4
          have hF4 := hF3.trans hf4
          obtain ⟨KA, kc, rfl⟩ := (Sl.of_own hK4).form
          obtain ⟨PA, pcp, ePA⟩ := hP4.form
          first
            | subst ePA
            | (injection ePA with eP1 eP2 eP3; subst eP1; subst eP3)
          clear hP3 hA3 hF3 hf4
          go_wp2_with fail
          refine (ca_len hA4).mono ?_
          rintro e w5 ⟨rfl, rfl⟩
          go_wp2_with fail
          refine (most_any n _).mono ?_
          rintro e w5 ⟨rfl, rfl⟩
          go_wp2_with fail
          have HP4 := Lib.hid hP4
          have HA4 := Lib.hid hA4
          have HK4 := Lib.hid hK4
          clear hP4 hA4 hK4
          go_loopw [161] (fun i wq => ∃ (j : Nat), j ≤ ps3.length ∧ i = .int .i64 j ∧ Frm0 w4 wq) (fun i _ => ps3.length - (intOf i).toNat)
          case atStart => exact ⟨0, by omega, rfl, Frm.refl _ _⟩
          case round =>
            obtain ⟨j, hj, rfl, hFq⟩ := hrel
            by_cases hjl : j < ps3.length
            · obtain ⟨g1, rfl, q1⟩ := str_key HK4.out j hjl
              obtain ⟨g2, eg2, q2⟩ := HP4.out.key j hjl
              first
                | subst eg2
                | (injection eg2 with eg2; injection eg2 with eg2; subst eg2)
              have q1 := hFq.cell q1 (fun h => h)
              have q2 := hFq.cell q2 (fun h => h)
              go_upto_region 40 with (fail)
              go_quiet (fail)
              go_wp2
              go_roundw
              case rel => exact ⟨j + 1, by omega, by go_num, hFq.drewN _⟩
              case measure => simp [intOf]; omega
            · obtain rfl : j = ps3.length := by omega
              go_wp2
              go_roundw
              case rel => exact ⟨k + 1, ps3, by omega, by go_num, HP4.out.frm0 hFq, HA4.out.frm0 hFq, hl3, hF4.trans hFq⟩
              case measure => simp [intOf]; omega
        by_cases K4 : kd % 5 = 4
        ·
          have e2 : (kd % 5 == 2) = false := beq_eq_false_iff_ne.2 K2
          have e3 : (kd % 5 == 3) = false := beq_eq_false_iff_ne.2 K3
          have e4 : (kd % 5 == 4) = true := beq_iff_eq.2 K4
          go_wp2_with fail
          refine (ca_drop hA1 hk30).mono ?_
          rintro e w2 ⟨rfl, hA2, hf2⟩
          have hF2 := hF1.then_ hf2 (fun i hi h => by have := h.1; omega)
          have hP2 := owns_frm hP1 hf2 (fun g hg h => h.2.2 hg)
          have x1 := hf2.cell x1 (fun h => Nat.lt_irrefl _ h.2.1)
          have x2 := hf2.cell x2 (fun h => Nat.lt_irrefl _ h.2.1)
          have hs2 := hf2.size
          have HS2 := Lib.hid (show w.heap.size ≤ w2.heap.size by have := hF2.size; omega)
          clear hA1 hP1 hF1 hf2
          rw [HPK.out]
          go_wp2_with fail
          refine (rdrop_any (k := ky) hP2 (by have := HMB.out; omega)).mono ?_
          rintro e w3 ⟨v3, rfl, hP3, hf3⟩
          have hF3 := hF2.trans hf3
          have hA3 := (hA2.mono (V := fun j => w.heap.size ≤ j ∧ v3.ownBlock ≠ some j) (Nat.le_succ k) (fun j hj hl => ⟨hj.1, fun e => by have := (World.ownsRow.lt hP3 j e).1; omega⟩)).frm0 hf3
          have hP3 : Pr w3 w.heap.size v3 (drp ps ky) := owns_base hP3 HS2.out
          have hl3 : ((drp ps ky).length : Int) ≤ mostI n := by have := drp_le ps ky; omega
          clear hA2 hP2 hF2 hf3
          generalize hps3 : drp ps ky = ps3 at *
          go_wp2_with fail
          
          have hmb := HMB.out
          refine (ca_keys hA3 (by omega)).mono ?_
          rintro e w4 ⟨kv, rfl, hK4, hf4⟩
          have hP4 := hP3.frm0 hf4
          have hA4 := hA3.frm0 hf4
          have hF4 := hF3.trans hf4
          obtain ⟨KA, kc, rfl⟩ := (Sl.of_own hK4).form
          obtain ⟨PA, pcp, ePA⟩ := hP4.form
          first
            | subst ePA
            | (injection ePA with eP1 eP2 eP3; subst eP1; subst eP3)
          clear hP3 hA3 hF3 hf4
          go_wp2_with fail
          refine (ca_len hA4).mono ?_
          rintro e w5 ⟨rfl, rfl⟩
          go_wp2_with fail
          refine (most_any n _).mono ?_
          rintro e w5 ⟨rfl, rfl⟩
          go_wp2_with fail
          have HP4 := Lib.hid hP4
          have HA4 := Lib.hid hA4
          have HK4 := Lib.hid hK4
          clear hP4 hA4 hK4
          go_loopw [161] (fun i wq => ∃ (j : Nat), j ≤ ps3.length ∧ i = .int .i64 j ∧ Frm0 w4 wq) (fun i _ => ps3.length - (intOf i).toNat)
          case atStart => exact ⟨0, by omega, rfl, Frm.refl _ _⟩
          case round =>
            obtain ⟨j, hj, rfl, hFq⟩ := hrel
            by_cases hjl : j < ps3.length
            · obtain ⟨g1, rfl, q1⟩ := str_key HK4.out j hjl
              obtain ⟨g2, eg2, q2⟩ := HP4.out.key j hjl
              first
                | subst eg2
                | (injection eg2 with eg2; injection eg2 with eg2; subst eg2)
              have q1 := hFq.cell q1 (fun h => h)
              have q2 := hFq.cell q2 (fun h => h)
              go_upto_region 40 with (fail)
              go_quiet (fail)
              go_wp2
              go_roundw
              case rel => exact ⟨j + 1, by omega, by go_num, hFq.drewN _⟩
              case measure => simp [intOf]; omega
            · obtain rfl : j = ps3.length := by omega
              go_wp2
              go_roundw
              case rel => exact ⟨k + 1, ps3, by omega, by go_num, HP4.out.frm0 hFq, HA4.out.frm0 hFq, hl3, hF4.trans hFq⟩
              case measure => simp [intOf]; omega
        have e2 : (kd % 5 == 2) = false := beq_eq_false_iff_ne.2 K2
        have e3 : (kd % 5 == 3) = false := beq_eq_false_iff_ne.2 K3
        have e4 : (kd % 5 == 4) = false := beq_eq_false_iff_ne.2 K4
        have HLV := Lib.hid hvl
        go_wp2_with fail
        refine (ca_put hA1 hk30 (by omega) hpl (HMB.out).2 vl).mono ?_
        rintro e w2 ⟨hA2, hf2⟩
        have hF2 := hF1.then_ hf2 (fun i hi h => by have := h.1; omega)
        have hP2 := owns_frm hP1 hf2 (fun g hg h => h.2.2 hg)
        have x1 := hf2.cell x1 (fun h => Nat.lt_irrefl _ h.2.1)
        have x2 := hf2.cell x2 (fun h => Nat.lt_irrefl _ h.2.1)
        have hs2 := hf2.size
        have HS2 := Lib.hid (show w.heap.size ≤ w2.heap.size by have := hF2.size; omega)
        clear hA1 hP1 hF1 hf2
        rcases hA2 with ⟨hc, rfl, hA2⟩ | ⟨hc, p, z, hpz, rfl, hA2⟩
        · go_wp2_with fail
          refine (rput_any hP2 (by have := HMB.out; omega) n ky vl).mono ?_
          rintro e w3 ⟨v3, hf3, ⟨_, rfl, hP3⟩ | ⟨h, _⟩⟩
          · have hF3 := hF2.trans hf3
            have hA3 := (hA2.mono (V := fun j => w.heap.size ≤ j ∧ v3.ownBlock ≠ some j) (Nat.le_refl _) (fun j hj hl => ⟨hj.elim (fun h => h.1) (fun h => by have := HWS.out; omega), fun e => by have := (World.ownsRow.lt hP3 j e).1; omega⟩)).frm0 hf3
            have hP3 : Pr w3 w.heap.size v3 _ := owns_base hP3 HS2.out
            have hl3 : (((ky, vl) :: drp ps ky).length : Int) ≤ mostI n := by simp; omega
            clear hA2 hP2 hF2 hf3
            generalize hps3 : (ky, vl) :: drp ps ky = ps3 at *
            go_wp2_with fail
            have hmb := HMB.out
            refine (ca_keys hA3 (by omega)).mono ?_
            rintro e w4 ⟨kv, rfl, hK4, hf4⟩
            have hP4 := hP3.frm0 hf4
            have hA4 := hA3.frm0 hf4
            have hF4 := hF3.trans hf4
            obtain ⟨KA, kc, rfl⟩ := (Sl.of_own hK4).form
            obtain ⟨PA, pcp, ePA⟩ := hP4.form
            first
              | subst ePA
              | (injection ePA with eP1 eP2 eP3; subst eP1; subst eP3)
            clear hP3 hA3 hF3 hf4
            go_wp2_with fail
            refine (ca_len hA4).mono ?_
            rintro e w5 ⟨rfl, rfl⟩
            go_wp2_with fail
            refine (most_any n _).mono ?_
            rintro e w5 ⟨rfl, rfl⟩
            go_wp2_with fail
            have HP4 := Lib.hid hP4
            have HA4 := Lib.hid hA4
            have HK4 := Lib.hid hK4
            clear hP4 hA4 hK4
            go_loopw [161] (fun i wq => ∃ (j : Nat), j ≤ ps3.length ∧ i = .int .i64 j ∧ Frm0 w4 wq) (fun i _ => ps3.length - (intOf i).toNat)
            case atStart => exact ⟨0, by omega, rfl, Frm.refl _ _⟩
            case round =>
              obtain ⟨j, hj, rfl, hFq⟩ := hrel
              by_cases hjl : j < ps3.length
              · obtain ⟨g1, rfl, q1⟩ := str_key HK4.out j hjl
                obtain ⟨g2, eg2, q2⟩ := HP4.out.key j hjl
                first
                  | subst eg2
                  | (injection eg2 with eg2; injection eg2 with eg2; subst eg2)
                have q1 := hFq.cell q1 (fun h => h)
                have q2 := hFq.cell q2 (fun h => h)
                go_upto_region 40 with (fail)
                go_quiet (fail)
                go_wp2
                go_roundw
                case rel => exact ⟨j + 1, by omega, by go_num, hFq.drewN _⟩
                case measure => simp [intOf]; omega
              · obtain rfl : j = ps3.length := by omega
                go_wp2
                go_roundw
                case rel => exact ⟨k + 1, ps3, by omega, by go_num, HP4.out.frm0 hFq, HA4.out.frm0 hFq, hl3, hF4.trans hFq⟩
                case measure => simp [intOf]; omega
          · omega
        · go_wp2_with fail
          refine (rput_any hP2 (by have := HMB.out; omega) n ky vl).mono ?_
          rintro e w3 ⟨v3, hf3, ⟨h, _⟩ | ⟨_, p', z', hpz', rfl, hP3⟩⟩
          · omega
          · have hpe : p ++ [z] = p' ++ [z'] := hpz.symm.trans hpz'
            obtain ⟨rfl, hze⟩ := List.append_inj' hpe rfl
            obtain rfl := (List.cons.inj hze).1
            have hF3 := hF2.trans hf3
            have hA3 := (hA2.mono (V := fun j => w.heap.size ≤ j ∧ v3.ownBlock ≠ some j) (Nat.le_refl _) (fun j hj hl => ⟨hj.elim (fun h => h.1) (fun h => by have := HWS.out; omega), fun e => by have := (World.ownsRow.lt hP3 j e).1; omega⟩)).frm0 hf3
            have hP3 : Pr w3 w.heap.size v3 p := owns_base hP3 HS2.out
            have hl3 : (p.length : Int) ≤ mostI n := by have := congrArg List.length hpz; have := drp_le ps ky; simp at *; omega
            clear hA2 hP2 hF2 hf3 hpz hpz' hpe hze
            generalize hps3 : p = ps3 at *
            generalize z.1 = zk at *
            go_wp2_with fail
            have hmb := HMB.out
            refine (ca_keys hA3 (by omega)).mono ?_
            rintro e w4 ⟨kv, rfl, hK4, hf4⟩
            have hP4 := hP3.frm0 hf4
            have hA4 := hA3.frm0 hf4
            have hF4 := hF3.trans hf4
            obtain ⟨KA, kc, rfl⟩ := (Sl.of_own hK4).form
            obtain ⟨PA, pcp, ePA⟩ := hP4.form
            first
              | subst ePA
              | (injection ePA with eP1 eP2 eP3; subst eP1; subst eP3)
            clear hP3 hA3 hF3 hf4
            go_wp2_with fail
            refine (ca_len hA4).mono ?_
            rintro e w5 ⟨rfl, rfl⟩
            go_wp2_with fail
            refine (most_any n _).mono ?_
            rintro e w5 ⟨rfl, rfl⟩
            go_wp2_with fail
            have HP4 := Lib.hid hP4
            have HA4 := Lib.hid hA4
            have HK4 := Lib.hid hK4
            clear hP4 hA4 hK4
            go_loopw [161] (fun i wq => ∃ (j : Nat), j ≤ ps3.length ∧ i = .int .i64 j ∧ Frm0 w4 wq) (fun i _ => ps3.length - (intOf i).toNat)
            case atStart => exact ⟨0, by omega, rfl, Frm.refl _ _⟩
            case round =>
              obtain ⟨j, hj, rfl, hFq⟩ := hrel
              by_cases hjl : j < ps3.length
              · obtain ⟨g1, rfl, q1⟩ := str_key HK4.out j hjl
                obtain ⟨g2, eg2, q2⟩ := HP4.out.key j hjl
                first
                  | subst eg2
                  | (injection eg2 with eg2; injection eg2 with eg2; subst eg2)
                have q1 := hFq.cell q1 (fun h => h)
                have q2 := hFq.cell q2 (fun h => h)
                go_upto_region 40 with (fail)
                go_quiet (fail)
                go_wp2
                go_roundw
                case rel => exact ⟨j + 1, by omega, by go_num, hFq.drewN _⟩
                case measure => simp [intOf]; omega
              · obtain rfl : j = ps3.length := by omega
                go_wp2
                go_roundw
                case rel => exact ⟨k + 1, ps3, by omega, by go_num, HP4.out.frm0 hFq, HA4.out.frm0 hFq, hl3, hF4.trans hFq⟩
                case measure => simp [intOf]; omega
      · have HPK := Lib.hid (pk_no (fnd_miss hn))
        clear hn
        by_cases K2 : kd % 5 = 2
        ·
          have e2 : (kd % 5 == 2) = true := beq_iff_eq.2 K2
          go_wp2_with fail
          refine (ca_get hA1 hk30).mono ?_
          rintro e w2 ⟨rfl, hA2, hf2⟩
          have hF2 := hF1.then_ hf2 (fun i hi h => by have := h.1; omega)
          have hP2 := owns_frm hP1 hf2 (fun g hg h => h.2.2 hg)
          have x1 := hf2.cell x1 (fun h => Nat.lt_irrefl _ h.2.1)
          have x2 := hf2.cell x2 (fun h => Nat.lt_irrefl _ h.2.1)
          have hs2 := hf2.size
          have HS2 := Lib.hid (show w.heap.size ≤ w2.heap.size by have := hF2.size; omega)
          clear hA1 hP1 hF1 hf2
          rw [HPK.out]
          go_wp2_with fail
          refine (rget_to (k := ky) hP2 HS2.out HND.out (by have := HMB.out; omega)).mono ?_
          rintro e w3 ⟨v3, rfl, hP3, ho3, hf3⟩
          have hF3 := hF2.trans hf3
          have hA3 := (hA2.mono (V := fun j => w.heap.size ≤ j ∧ v3.ownBlock ≠ some j) (Nat.le_succ k) (fun j hj hl => ⟨hj.1, fun e => ho3.elim (fun h => hj.2.2 (h ▸ e)) (fun h => by have := h j e; omega)⟩)).frm0 hf3
          have hl3 : ((gt ps ky).length : Int) ≤ mostI n := by have := gt_len HND.out ky; omega
          clear hA2 hP2 hF2 hf3 ho3
          generalize hps3 : gt ps ky = ps3 at *
          rw [HPK.out]
          go_wp2_with fail
          
          have hmb := HMB.out
          refine (ca_keys hA3 (by omega)).mono ?_
          rintro e w4 ⟨kv, rfl, hK4, hf4⟩
          have hP4 := hP3.frm0 hf4
          have hA4 := hA3.frm0 hf4
          have hF4 := hF3.trans hf4
          obtain ⟨KA, kc, rfl⟩ := (Sl.of_own hK4).form
          obtain ⟨PA, pcp, ePA⟩ := hP4.form
          first
            | subst ePA
            | (injection ePA with eP1 eP2 eP3; subst eP1; subst eP3)
          clear hP3 hA3 hF3 hf4
          go_wp2_with fail
          refine (ca_len hA4).mono ?_
          rintro e w5 ⟨rfl, rfl⟩
          go_wp2_with fail
          refine (most_any n _).mono ?_
          rintro e w5 ⟨rfl, rfl⟩
          go_wp2_with fail
          have HP4 := Lib.hid hP4
          have HA4 := Lib.hid hA4
          have HK4 := Lib.hid hK4
          clear hP4 hA4 hK4
          go_loopw [161] (fun i wq => ∃ (j : Nat), j ≤ ps3.length ∧ i = .int .i64 j ∧ Frm0 w4 wq) (fun i _ => ps3.length - (intOf i).toNat)
          case atStart => exact ⟨0, by omega, rfl, Frm.refl _ _⟩
          case round =>
            obtain ⟨j, hj, rfl, hFq⟩ := hrel
            by_cases hjl : j < ps3.length
            · obtain ⟨g1, rfl, q1⟩ := str_key HK4.out j hjl
              obtain ⟨g2, eg2, q2⟩ := HP4.out.key j hjl
              first
                | subst eg2
                | (injection eg2 with eg2; injection eg2 with eg2; subst eg2)
              have q1 := hFq.cell q1 (fun h => h)
              have q2 := hFq.cell q2 (fun h => h)
              go_upto_region 40 with (fail)
              go_quiet (fail)
              go_wp2
              go_roundw
              case rel => exact ⟨j + 1, by omega, by go_num, hFq.drewN _⟩
              case measure => simp [intOf]; omega
            · obtain rfl : j = ps3.length := by omega
              go_wp2
              go_roundw
              case rel => exact ⟨k + 1, ps3, by omega, by go_num, HP4.out.frm0 hFq, HA4.out.frm0 hFq, hl3, hF4.trans hFq⟩
              case measure => simp [intOf]; omega
        by_cases K3 : kd % 5 = 3
        ·
          have e2 : (kd % 5 == 2) = false := beq_eq_false_iff_ne.2 K2
          have e3 : (kd % 5 == 3) = true := beq_iff_eq.2 K3
          go_wp2_with fail
          refine (ca_peek hA1 hk30).mono ?_
          rintro e w2 ⟨rfl, rfl⟩
          rw [HPK.out]
          have hP3 := hP1
          have hF3 := hF1
          have hA3 := (hA1.mono (V := fun j => w.heap.size ≤ j ∧ v.ownBlock ≠ some j) (Nat.le_succ k) (fun j hj hl => ⟨hj.1, hj.2.2⟩))
          have hl3 := hpl
          obtain ⟨ps3, hps3⟩ : ∃ ps3, ps = ps3 := ⟨_, rfl⟩
          rw [hps3] at hP3 hA3 hl3
          clear hA1 hP1 hF1
          go_wp2_with fail
          
          have hmb := HMB.out
          refine (ca_keys hA3 (by omega)).mono ?_
          rintro e w4 ⟨kv, rfl, hK4, hf4⟩
          have hP4 := hP3.frm0 hf4
          have hA4 := hA3.frm0 hf4
          have hF4 := hF3.trans hf4
          obtain ⟨KA, kc, rfl⟩ := (Sl.of_own hK4).form
          obtain ⟨PA, pcp, ePA⟩ := hP4.form
          first
            | subst ePA
            | (injection ePA with eP1 eP2 eP3; subst eP1; subst eP3)
          clear hP3 hA3 hF3 hf4
          go_wp2_with fail
          refine (ca_len hA4).mono ?_
          rintro e w5 ⟨rfl, rfl⟩
          go_wp2_with fail
          refine (most_any n _).mono ?_
          rintro e w5 ⟨rfl, rfl⟩
          go_wp2_with fail
          have HP4 := Lib.hid hP4
          have HA4 := Lib.hid hA4
          have HK4 := Lib.hid hK4
          clear hP4 hA4 hK4
          go_loopw [161] (fun i wq => ∃ (j : Nat), j ≤ ps3.length ∧ i = .int .i64 j ∧ Frm0 w4 wq) (fun i _ => ps3.length - (intOf i).toNat)
          case atStart => exact ⟨0, by omega, rfl, Frm.refl _ _⟩
          case round =>
            obtain ⟨j, hj, rfl, hFq⟩ := hrel
            by_cases hjl : j < ps3.length
            · obtain ⟨g1, rfl, q1⟩ := str_key HK4.out j hjl
              obtain ⟨g2, eg2, q2⟩ := HP4.out.key j hjl
              first
                | subst eg2
                | (injection eg2 with eg2; injection eg2 with eg2; subst eg2)
              have q1 := hFq.cell q1 (fun h => h)
              have q2 := hFq.cell q2 (fun h => h)
              go_upto_region 40 with (fail)
              go_quiet (fail)
              go_wp2
              go_roundw
              case rel => exact ⟨j + 1, by omega, by go_num, hFq.drewN _⟩
              case measure => simp [intOf]; omega
            · obtain rfl : j = ps3.length := by omega
              go_wp2
              go_roundw
              case rel => exact ⟨k + 1, ps3, by omega, by go_num, HP4.out.frm0 hFq, HA4.out.frm0 hFq, hl3, hF4.trans hFq⟩
              case measure => simp [intOf]; omega
        by_cases K4 : kd % 5 = 4
        ·
          have e2 : (kd % 5 == 2) = false := beq_eq_false_iff_ne.2 K2
          have e3 : (kd % 5 == 3) = false := beq_eq_false_iff_ne.2 K3
          have e4 : (kd % 5 == 4) = true := beq_iff_eq.2 K4
          go_wp2_with fail
          refine (ca_drop hA1 hk30).mono ?_
          rintro e w2 ⟨rfl, hA2, hf2⟩
          have hF2 := hF1.then_ hf2 (fun i hi h => by have := h.1; omega)
          have hP2 := owns_frm hP1 hf2 (fun g hg h => h.2.2 hg)
          have x1 := hf2.cell x1 (fun h => Nat.lt_irrefl _ h.2.1)
          have x2 := hf2.cell x2 (fun h => Nat.lt_irrefl _ h.2.1)
          have hs2 := hf2.size
          have HS2 := Lib.hid (show w.heap.size ≤ w2.heap.size by have := hF2.size; omega)
          clear hA1 hP1 hF1 hf2
          rw [HPK.out]
          go_wp2_with fail
          refine (rdrop_any (k := ky) hP2 (by have := HMB.out; omega)).mono ?_
          rintro e w3 ⟨v3, rfl, hP3, hf3⟩
          have hF3 := hF2.trans hf3
          have hA3 := (hA2.mono (V := fun j => w.heap.size ≤ j ∧ v3.ownBlock ≠ some j) (Nat.le_succ k) (fun j hj hl => ⟨hj.1, fun e => by have := (World.ownsRow.lt hP3 j e).1; omega⟩)).frm0 hf3
          have hP3 : Pr w3 w.heap.size v3 (drp ps ky) := owns_base hP3 HS2.out
          have hl3 : ((drp ps ky).length : Int) ≤ mostI n := by have := drp_le ps ky; omega
          clear hA2 hP2 hF2 hf3
          generalize hps3 : drp ps ky = ps3 at *
          go_wp2_with fail
          
          have hmb := HMB.out
          refine (ca_keys hA3 (by omega)).mono ?_
          rintro e w4 ⟨kv, rfl, hK4, hf4⟩
          have hP4 := hP3.frm0 hf4
          have hA4 := hA3.frm0 hf4
          have hF4 := hF3.trans hf4
          obtain ⟨KA, kc, rfl⟩ := (Sl.of_own hK4).form
          obtain ⟨PA, pcp, ePA⟩ := hP4.form
          first
            | subst ePA
            | (injection ePA with eP1 eP2 eP3; subst eP1; subst eP3)
          clear hP3 hA3 hF3 hf4
          go_wp2_with fail
          refine (ca_len hA4).mono ?_
          rintro e w5 ⟨rfl, rfl⟩
          go_wp2_with fail
          refine (most_any n _).mono ?_
          rintro e w5 ⟨rfl, rfl⟩
          go_wp2_with fail
          have HP4 := Lib.hid hP4
          have HA4 := Lib.hid hA4
          have HK4 := Lib.hid hK4
          clear hP4 hA4 hK4
          go_loopw [161] (fun i wq => ∃ (j : Nat), j ≤ ps3.length ∧ i = .int .i64 j ∧ Frm0 w4 wq) (fun i _ => ps3.length - (intOf i).toNat)
          case atStart => exact ⟨0, by omega, rfl, Frm.refl _ _⟩
          case round =>
            obtain ⟨j, hj, rfl, hFq⟩ := hrel
            by_cases hjl : j < ps3.length
            · obtain ⟨g1, rfl, q1⟩ := str_key HK4.out j hjl
              obtain ⟨g2, eg2, q2⟩ := HP4.out.key j hjl
              first
                | subst eg2
                | (injection eg2 with eg2; injection eg2 with eg2; subst eg2)
              have q1 := hFq.cell q1 (fun h => h)
              have q2 := hFq.cell q2 (fun h => h)
              go_upto_region 40 with (fail)
              go_quiet (fail)
              go_wp2
              go_roundw
              case rel => exact ⟨j + 1, by omega, by go_num, hFq.drewN _⟩
              case measure => simp [intOf]; omega
            · obtain rfl : j = ps3.length := by omega
              go_wp2
              go_roundw
              case rel => exact ⟨k + 1, ps3, by omega, by go_num, HP4.out.frm0 hFq, HA4.out.frm0 hFq, hl3, hF4.trans hFq⟩
              case measure => simp [intOf]; omega
        have e2 : (kd % 5 == 2) = false := beq_eq_false_iff_ne.2 K2
        have e3 : (kd % 5 == 3) = false := beq_eq_false_iff_ne.2 K3
        have e4 : (kd % 5 == 4) = false := beq_eq_false_iff_ne.2 K4
        have HLV := Lib.hid hvl
        go_wp2_with fail
        refine (ca_put hA1 hk30 (by omega) hpl (HMB.out).2 vl).mono ?_
        rintro e w2 ⟨hA2, hf2⟩
        have hF2 := hF1.then_ hf2 (fun i hi h => by have := h.1; omega)
        have hP2 := owns_frm hP1 hf2 (fun g hg h => h.2.2 hg)
        have x1 := hf2.cell x1 (fun h => Nat.lt_irrefl _ h.2.1)
        have x2 := hf2.cell x2 (fun h => Nat.lt_irrefl _ h.2.1)
        have hs2 := hf2.size
        have HS2 := Lib.hid (show w.heap.size ≤ w2.heap.size by have := hF2.size; omega)
        clear hA1 hP1 hF1 hf2
        rcases hA2 with ⟨hc, rfl, hA2⟩ | ⟨hc, p, z, hpz, rfl, hA2⟩
        · go_wp2_with fail
          refine (rput_any hP2 (by have := HMB.out; omega) n ky vl).mono ?_
          rintro e w3 ⟨v3, hf3, ⟨_, rfl, hP3⟩ | ⟨h, _⟩⟩
          · have hF3 := hF2.trans hf3
            have hA3 := (hA2.mono (V := fun j => w.heap.size ≤ j ∧ v3.ownBlock ≠ some j) (Nat.le_refl _) (fun j hj hl => ⟨hj.elim (fun h => h.1) (fun h => by have := HWS.out; omega), fun e => by have := (World.ownsRow.lt hP3 j e).1; omega⟩)).frm0 hf3
            have hP3 : Pr w3 w.heap.size v3 _ := owns_base hP3 HS2.out
            have hl3 : (((ky, vl) :: drp ps ky).length : Int) ≤ mostI n := by simp; omega
            clear hA2 hP2 hF2 hf3
            generalize hps3 : (ky, vl) :: drp ps ky = ps3 at *
            go_wp2_with fail
            have hmb := HMB.out
            refine (ca_keys hA3 (by omega)).mono ?_
            rintro e w4 ⟨kv, rfl, hK4, hf4⟩
            have hP4 := hP3.frm0 hf4
            have hA4 := hA3.frm0 hf4
            have hF4 := hF3.trans hf4
            obtain ⟨KA, kc, rfl⟩ := (Sl.of_own hK4).form
            obtain ⟨PA, pcp, ePA⟩ := hP4.form
            first
              | subst ePA
              | (injection ePA with eP1 eP2 eP3; subst eP1; subst eP3)
            clear hP3 hA3 hF3 hf4
            go_wp2_with fail
            refine (ca_len hA4).mono ?_
            rintro e w5 ⟨rfl, rfl⟩
            go_wp2_with fail
            refine (most_any n _).mono ?_
            rintro e w5 ⟨rfl, rfl⟩
            go_wp2_with fail
            have HP4 := Lib.hid hP4
            have HA4 := Lib.hid hA4
            have HK4 := Lib.hid hK4
            clear hP4 hA4 hK4
            go_loopw [161] (fun i wq => ∃ (j : Nat), j ≤ ps3.length ∧ i = .int .i64 j ∧ Frm0 w4 wq) (fun i _ => ps3.length - (intOf i).toNat)
            case atStart => exact ⟨0, by omega, rfl, Frm.refl _ _⟩
            case round =>
              obtain ⟨j, hj, rfl, hFq⟩ := hrel
              by_cases hjl : j < ps3.length
              · obtain ⟨g1, rfl, q1⟩ := str_key HK4.out j hjl
                obtain ⟨g2, eg2, q2⟩ := HP4.out.key j hjl
                first
                  | subst eg2
                  | (injection eg2 with eg2; injection eg2 with eg2; subst eg2)
                have q1 := hFq.cell q1 (fun h => h)
                have q2 := hFq.cell q2 (fun h => h)
                go_upto_region 40 with (fail)
                go_quiet (fail)
                go_wp2
                go_roundw
                case rel => exact ⟨j + 1, by omega, by go_num, hFq.drewN _⟩
                case measure => simp [intOf]; omega
              · obtain rfl : j = ps3.length := by omega
                go_wp2
                go_roundw
                case rel => exact ⟨k + 1, ps3, by omega, by go_num, HP4.out.frm0 hFq, HA4.out.frm0 hFq, hl3, hF4.trans hFq⟩
                case measure => simp [intOf]; omega
          · omega
        · go_wp2_with fail
          refine (rput_any hP2 (by have := HMB.out; omega) n ky vl).mono ?_
          rintro e w3 ⟨v3, hf3, ⟨h, _⟩ | ⟨_, p', z', hpz', rfl, hP3⟩⟩
          · omega
          · have hpe : p ++ [z] = p' ++ [z'] := hpz.symm.trans hpz'
            obtain ⟨rfl, hze⟩ := List.append_inj' hpe rfl
            obtain rfl := (List.cons.inj hze).1
            have hF3 := hF2.trans hf3
            have hA3 := (hA2.mono (V := fun j => w.heap.size ≤ j ∧ v3.ownBlock ≠ some j) (Nat.le_refl _) (fun j hj hl => ⟨hj.elim (fun h => h.1) (fun h => by have := HWS.out; omega), fun e => by have := (World.ownsRow.lt hP3 j e).1; omega⟩)).frm0 hf3
            have hP3 : Pr w3 w.heap.size v3 p := owns_base hP3 HS2.out
            have hl3 : (p.length : Int) ≤ mostI n := by have := congrArg List.length hpz; have := drp_le ps ky; simp at *; omega
            clear hA2 hP2 hF2 hf3 hpz hpz' hpe hze
            generalize hps3 : p = ps3 at *
            generalize z.1 = zk at *
            go_wp2_with fail
            have hmb := HMB.out
            refine (ca_keys hA3 (by omega)).mono ?_
            rintro e w4 ⟨kv, rfl, hK4, hf4⟩
            have hP4 := hP3.frm0 hf4
            have hA4 := hA3.frm0 hf4
            have hF4 := hF3.trans hf4
            obtain ⟨KA, kc, rfl⟩ := (Sl.of_own hK4).form
            obtain ⟨PA, pcp, ePA⟩ := hP4.form
            first
              | subst ePA
              | (injection ePA with eP1 eP2 eP3; subst eP1; subst eP3)
            clear hP3 hA3 hF3 hf4
            go_wp2_with fail
            refine (ca_len hA4).mono ?_
            rintro e w5 ⟨rfl, rfl⟩
            go_wp2_with fail
            refine (most_any n _).mono ?_
            rintro e w5 ⟨rfl, rfl⟩
            go_wp2_with fail
            have HP4 := Lib.hid hP4
            have HA4 := Lib.hid hA4
            have HK4 := Lib.hid hK4
            clear hP4 hA4 hK4
            go_loopw [161] (fun i wq => ∃ (j : Nat), j ≤ ps3.length ∧ i = .int .i64 j ∧ Frm0 w4 wq) (fun i _ => ps3.length - (intOf i).toNat)
            case atStart => exact ⟨0, by omega, rfl, Frm.refl _ _⟩
            case round =>
              obtain ⟨j, hj, rfl, hFq⟩ := hrel
              by_cases hjl : j < ps3.length
              · obtain ⟨g1, rfl, q1⟩ := str_key HK4.out j hjl
                obtain ⟨g2, eg2, q2⟩ := HP4.out.key j hjl
                first
                  | subst eg2
                  | (injection eg2 with eg2; injection eg2 with eg2; subst eg2)
                have q1 := hFq.cell q1 (fun h => h)
                have q2 := hFq.cell q2 (fun h => h)
                go_upto_region 40 with (fail)
                go_quiet (fail)
                go_wp2
                go_roundw
                case rel => exact ⟨j + 1, by omega, by go_num, hFq.drewN _⟩
                case measure => simp [intOf]; omega
              · obtain rfl : j = ps3.length := by omega
                go_wp2
                go_roundw
                case rel => exact ⟨k + 1, ps3, by omega, by go_num, HP4.out.frm0 hFq, HA4.out.frm0 hFq, hl3, hF4.trans hFq⟩
                case measure => simp [intOf]; omega
    · obtain rfl : k = l.length := by omega
      go_wp2
      go_ret
      exact ⟨rfl, hF.below (fun _ _ h => h)⟩
end Lr
end Go.Proofs.Ythmhihmbciigdaa
