/- The walk of ClientOnce. -/
import Derived.Test.YteokiiolchpndaaClk
namespace Go.Proofs.Yteokiiolchpndaa
open Go.RowKit Go.ChangeShapes
set_option linter.unusedVariables false
set_option linter.unusedSimpArgs false
theorem told_to {w : World} {cb : Nat} {id : Int} {v : Value} {ls : List Ln} {s : Int} {t : Option An} (h : Cl w cb id v ls) (hl : ls.length ≤ 1000000) (ht : vTold (vw ls) s = t) :
    Calls Try.prog 45 #[.pointer (some ⟨cb, 0, none⟩), .int .i64 s] w fun e w' => e = .returned (.tuple #[anV (t.getD an0), .bool t.isSome]) ∧ Frm0 w w' := ht ▸ told_any h hl s
theorem asked_to {w : World} {cb : Nat} {id : Int} {v : Value} {ls : List Ln} {s : Int} {t : Option Rq} (h : Cl w cb id v ls) (hl : ls.length ≤ 1000000) (ht : vAsked (vw ls) s = t) :
    Calls Try.prog 44 #[.pointer (some ⟨cb, 0, none⟩), .int .i64 s] w fun e w' => e = .returned (.tuple #[rqV (t.getD rq0), .bool t.isSome]) ∧ Frm0 w w' := ht ▸ asked_any h hl s
def OnceP (w : World) (e : Ending) (w' : World) : Prop := e = .returned (.bool true) ∧ Below w.heap.size w w'

set_option maxHeartbeats 8000000 in
set_option maxRecDepth 100000 in
theorem once_walk (id : Int) (v : Value) (l : List CDeed) (w : World) (hs : Sl w v l.length (l.flatMap CDeed.cells)) (hg : ∀ a ∈ l, CDeed.Good a) :
    Calls Try.prog 10 #[.int .i64 id, v] w (OnceP w) := by
  have hlen := hs.len
  have HSM := Lib.hid (fun w1 (hf : Frm0 w w1) => small_any v l w1 (hs.frm0 hf) hg)
  obtain ⟨A, c, rfl⟩ := hs.form
  have HC := Lib.hid (fun k hk => cdeeds_at hs k hk)
  clear hs hg
  go_enter Try.func10, Try.ntmps10
  go_wp2_with fail
  refine (clawake _).mono ?_
  rintro e w1 ⟨rfl, hf1⟩
  go_wp2_with fail
  refine (HSM.out _ hf1).mono ?_
  rintro e w2 ⟨sm, rfl, hsm, hf2⟩
  have hF2 := hf1.trans hf2
  clear hf1 hf2 HSM
  cases sm with
  | false =>
    go_wp2
    go_ret
    exact ⟨rfl, hF2.below (fun _ _ h => h)⟩
  | true =>
  have hl60 := hsm rfl
  clear hsm
  go_wp2_with fail
  refine (cnew_any id _).mono ?_
  rintro e w3 ⟨rfl, hC, hf3⟩
  have hF3 := hF2.trans hf3
  have hcb : w.heap.size ≤ w2.heap.size := hF2.size
  generalize w2.heap.size = cb at *
  clear hF2 hf3
  go_wp2_with fail
  go_loopw [34] (fun i wr => ∃ (k : Nat) (v : Value) (ls : List Ln), k ≤ l.length ∧ i = .int .i64 k ∧ Cl wr cb id v ls ∧ ls.length ≤ k ∧ Frm0 w wr) (fun i _ => l.length - (intOf i).toNat)
  case atStart => exact ⟨0, _, [], by omega, rfl, hC, by simp, hF3⟩
  case round =>
    clear hC hF3
    obtain ⟨k, v, ls, hk, rfl, hC, hlk, hF⟩ := hrel
    by_cases hlt : k < l.length
    · obtain ⟨b, o, rfl, c0, c1, c2, c3, c4, c5, c6, c7, c8, c9, c10, c11, c12, c13, c14⟩ := HC.out k hlt
      generalize l[k] = d at *
      obtain ⟨k0, k1, ⟨x0, x1, x2, x3, x4, x5, x6⟩, ⟨z0, z1, z2, z3, z4, z5⟩⟩ := d
      simp only at c0 c1 c2 c3 c4 c5 c6 c7 c8 c9 c10 c11 c12 c13 c14
      have c0 := hF.cell c0 (fun h => h)
      have c1 := hF.cell c1 (fun h => h)
      have c2 := hF.cell c2 (fun h => h)
      have c3 := hF.cell c3 (fun h => h)
      have c4 := hF.cell c4 (fun h => h)
      have c5 := hF.cell c5 (fun h => h)
      have c6 := hF.cell c6 (fun h => h)
      have c7 := hF.cell c7 (fun h => h)
      have c8 := hF.cell c8 (fun h => h)
      have c9 := hF.cell c9 (fun h => h)
      have c10 := hF.cell c10 (fun h => h)
      have c11 := hF.cell c11 (fun h => h)
      have c12 := hF.cell c12 (fun h => h)
      have c13 := hF.cell c13 (fun h => h)
      have c14 := hF.cell c14 (fun h => h)
      have hki : (k : Int) < (l.length : Int) := by omega
      cases k0 with
      | true =>
        have hCD := hC.frm0 ((Frm.refl _ wr).alloc (.cells #[.bool true, .bool k1, .int .i64 x0, .int .i64 x1, .int .i64 x2, .string x3, .string x4, .string x5, .string x6, .int .i64 z0, .int .i64 z1, .int .i64 z2, .string z3, .int .i64 z4, .int .i64 z5] 88))
        have hFD := hF.alloc (.cells #[.bool true, .bool k1, .int .i64 x0, .int .i64 x1, .int .i64 x2, .string x3, .string x4, .string x5, .string x6, .int .i64 z0, .int .i64 z1, .int .i64 z2, .string z3, .int .i64 z4, .int .i64 z5] 88)
        have HA := Lib.hid (ask_any ⟨x0, x1, x2, x3, x4, x5, x6⟩ hCD (by omega))
        unfold rqV asks at HA
        simp only at HA
        go_wp2_with fail
        refine HA.out.mono ?_
        rintro e w4 ⟨v4, rfl, h4, _, hf4⟩
        have hF4 := hCD.outs hFD hcb hf4
        clear c0 c1 c2 c3 c4 c5 c6 c7 c8 c9 c10 c11 c12 c13 c14
        go_wp2_with fail
        go_roundw
        case rel => exact ⟨k + 1, v4, _, by omega, by go_num, h4, by simp; omega, hF4⟩
        case measure => simp [intOf]; omega
      | false =>
        cases k1 with
        | true =>
          have hCD := hC.frm0 ((Frm.refl _ wr).alloc (.cells #[.bool false, .bool true, .int .i64 x0, .int .i64 x1, .int .i64 x2, .string x3, .string x4, .string x5, .string x6, .int .i64 z0, .int .i64 z1, .int .i64 z2, .string z3, .int .i64 z4, .int .i64 z5] 88))
          have hFD := hF.alloc (.cells #[.bool false, .bool true, .int .i64 x0, .int .i64 x1, .int .i64 x2, .string x3, .string x4, .string x5, .string x6, .int .i64 z0, .int .i64 z1, .int .i64 z2, .string z3, .int .i64 z4, .int .i64 z5] 88)
          have h8 := hCD.frm0 ((Frm.refl _ (wr.alloc (.cells #[.bool false, .bool true, .int .i64 x0, .int .i64 x1, .int .i64 x2, .string x3, .string x4, .string x5, .string x6, .int .i64 z0, .int .i64 z1, .int .i64 z2, .string z3, .int .i64 z4, .int .i64 z5] 88))).alloc (.cells #[.int .i64 id, .int .i64 z1, .int .i64 z2, .string z3, .int .i64 z4, .int .i64 z5] 86))
          have hF8 := hFD.alloc (.cells #[.int .i64 id, .int .i64 z1, .int .i64 z2, .string z3, .int .i64 z4, .int .i64 z5] 86)
          have hB8 := new_second wr (.cells #[.bool false, .bool true, .int .i64 x0, .int .i64 x1, .int .i64 x2, .string x3, .string x4, .string x5, .string x6, .int .i64 z0, .int .i64 z1, .int .i64 z2, .string z3, .int .i64 z4, .int .i64 z5] 88) (.cells #[.int .i64 id, .int .i64 z1, .int .i64 z2, .string z3, .int .i64 z4, .int .i64 z5] 86)
          obtain ⟨q0, q1, q2, q3, q4, q5⟩ := Bk.c6 hB8
          rcases hr id (vw ls) (⟨id, z1, z2, z3, z4, z5⟩ : An) with ⟨e1, hHear⟩ | ⟨e1, hAsked, hTold, hHear⟩ | ⟨⟨t0, t1, t2, t3, t4, t5⟩, ⟨r0, r1, r2, r3, r4, r5, r6⟩, e1, hAsked, hTold, hHear⟩ | ⟨⟨r0, r1, r2, r3, r4, r5, r6⟩, e1, hAsked, hTold, hHear⟩
          · exact absurd rfl e1
          · simp only at hAsked hTold
            have d1 : (id == id) = true := beq_iff_eq.2 e1
            have d2 : (id != id) = false := by rw [bne, d1]; rfl
            clear e1
            go_wp2_with fail
            have HT := Lib.hid (fun w' (h : Cl w' cb id v ls) => told_to h (by omega) hTold)
            have HK := Lib.hid (fun w' (h : Cl w' cb id v ls) => asked_to h (by omega) hAsked)
            have HH := Lib.hid (fun w' (h : Cl w' cb id v ls) => hear_to (y := (⟨id, z1, z2, z3, z4, z5⟩ : An)) (vs := vHeard id (vw ls) (⟨id, z1, z2, z3, z4, z5⟩ : An)) h (by omega) hHear rfl)
            unfold anV an0 at HT
            unfold rqV rq0 at HK
            unfold anV at HH
            simp only [Option.getD_none, Option.getD_some, Option.isSome_none, Option.isSome_some] at HT HK HH
            have hv9 : vTold (vHeard id (vw ls) (⟨id, z1, z2, z3, z4, z5⟩ : An)) z1 = none := by rw [heard_no hHear]; exact hTold
            clear hTold hAsked hHear
            refine (HT.out _ h8).mono ?_
            rintro e w9 ⟨rfl, hf9⟩
            have h9 := (h8.frm0 hf9).frm0 ((Frm.refl _ w9).alloc (.cells #[.int .i64 0, .int .i64 0, .int .i64 0, .string ⟨#[]⟩, .int .i64 0, .int .i64 0] 86))
            have hF9 := (hF8.trans hf9).alloc (.cells #[.int .i64 0, .int .i64 0, .int .i64 0, .string ⟨#[]⟩, .int .i64 0, .int .i64 0] 86)
            have hB9 := Bk.alloc (hf9.blk hB8 (fun h => h)) (.cells #[.int .i64 0, .int .i64 0, .int .i64 0, .string ⟨#[]⟩, .int .i64 0, .int .i64 0] 86)
            have hD9 := Bk.new w9 (.cells #[.int .i64 0, .int .i64 0, .int .i64 0, .string ⟨#[]⟩, .int .i64 0, .int .i64 0] 86)
            clear q0 q1 q2 q3 q4 q5
            obtain ⟨q0, q1, q2, q3, q4, q5⟩ := Bk.c6 hB9
            go_wp2_with fail
            refine (HK.out _ h9).mono ?_
            rintro e w10 ⟨rfl, hf10⟩
            have h10 := (h9.frm0 hf10).frm0 ((Frm.refl _ w10).alloc (.cells #[.int .i64 0, .int .i64 0, .int .i64 0, .string ⟨#[]⟩, .string ⟨#[]⟩, .string ⟨#[]⟩, .string ⟨#[]⟩] 84))
            have hF10 := (hF9.trans hf10).alloc (.cells #[.int .i64 0, .int .i64 0, .int .i64 0, .string ⟨#[]⟩, .string ⟨#[]⟩, .string ⟨#[]⟩, .string ⟨#[]⟩] 84)
            have hB10 := Bk.alloc (hf10.blk hB9 (fun h => h)) (.cells #[.int .i64 0, .int .i64 0, .int .i64 0, .string ⟨#[]⟩, .string ⟨#[]⟩, .string ⟨#[]⟩, .string ⟨#[]⟩] 84)
            have hD10 := Bk.alloc (hf10.blk hD9 (fun h => h)) (.cells #[.int .i64 0, .int .i64 0, .int .i64 0, .string ⟨#[]⟩, .string ⟨#[]⟩, .string ⟨#[]⟩, .string ⟨#[]⟩] 84)
            clear q0 q1 q2 q3 q4 q5
            obtain ⟨q0, q1, q2, q3, q4, q5⟩ := Bk.c6 hB10
            have hw9 : wr.heap.size + 1 ≤ w9.heap.size := by have := hf9.size; simp at this; omega
            have hw10 : w9.heap.size + 1 ≤ w10.heap.size := by have := hf10.size; simp at this; omega
            go_wp2_with fail
            refine (HH.out _ h10).mono ?_
            rintro e w11 ⟨ls', rfl, h11, hv11, hl11, _, hf11⟩
            have hF11 := h10.outs hF10 hcb (hf11.mono (fun i _ e => .inr e))
            have hne : ∀ k, wr.heap.size ≤ k → v.ownBlock ≠ some k := fun k hk e => by have := (hC.own k e).2; omega
            have hB11 := hf11.blk hB10 (hne _ (by omega))
            have hD11 := hf11.blk hD10 (hne _ (by omega))
            clear q0 q1 q2 q3 q4 q5
            obtain ⟨q0, q1, q2, q3, q4, q5⟩ := Bk.c6 hB11
            have HT2 := Lib.hid (told_to (t := none) h11 (by omega) (by rw [hv11]; exact hv9))
            unfold anV an0 at HT2
            simp only [Option.getD_none, Option.getD_some, Option.isSome_none, Option.isSome_some] at HT2
            clear hv11 hv9 HT HK HH
            go_wp2_with fail
            refine HT2.out.mono ?_
            rintro e w12 ⟨rfl, hf12⟩
            have h12 := (h11.frm0 hf12).frm0 ((Frm.refl _ w12).alloc (.cells #[.int .i64 0, .int .i64 0, .int .i64 0, .string ⟨#[]⟩, .int .i64 0, .int .i64 0] 86))
            have hF12 := (hF11.trans hf12).alloc (.cells #[.int .i64 0, .int .i64 0, .int .i64 0, .string ⟨#[]⟩, .int .i64 0, .int .i64 0] 86)
            have hB12 := Bk.alloc (hf12.blk hB11 (fun h => h)) (.cells #[.int .i64 0, .int .i64 0, .int .i64 0, .string ⟨#[]⟩, .int .i64 0, .int .i64 0] 86)
            have hD12 := Bk.alloc (hf12.blk hD11 (fun h => h)) (.cells #[.int .i64 0, .int .i64 0, .int .i64 0, .string ⟨#[]⟩, .int .i64 0, .int .i64 0] 86)
            clear q0 q1 q2 q3 q4 q5 HT2 hB11 hD11 hB10 hD10 hB9 hD9 hB8
            obtain ⟨q0, q1, q2, q3, q4, q5⟩ := Bk.c6 hB12
            obtain ⟨p0, p1, p2, p3, p4, p5⟩ := Bk.c6 hD12
            have E2 := Lib.hid (fun w => ne_an ⟨0, 0, 0, ⟨#[]⟩, 0, 0⟩ w)
            unfold anV at E2
            simp only at E2
            have E3 := E2.out
            clear E2
            go_wp2_with fail
            go_roundw
            case rel => exact ⟨k + 1, v, ls', by omega, by go_num, h12, by omega, hF12⟩
            case measure => simp [intOf]; omega
          · simp only at hAsked hTold
            have d1 : (id == id) = true := beq_iff_eq.2 e1
            have d2 : (id != id) = false := by rw [bne, d1]; rfl
            clear e1
            go_wp2_with fail
            have HT := Lib.hid (fun w' (h : Cl w' cb id v ls) => told_to h (by omega) hTold)
            have HK := Lib.hid (fun w' (h : Cl w' cb id v ls) => asked_to h (by omega) hAsked)
            have HH := Lib.hid (fun w' (h : Cl w' cb id v ls) => hear_to (y := (⟨id, z1, z2, z3, z4, z5⟩ : An)) (vs := vHeard id (vw ls) (⟨id, z1, z2, z3, z4, z5⟩ : An)) h (by omega) hHear rfl)
            unfold anV at HT
            unfold rqV at HK
            unfold anV at HH
            simp only [Option.getD_none, Option.getD_some, Option.isSome_none, Option.isSome_some] at HT HK HH
            have hv9 : vTold (vHeard id (vw ls) (⟨id, z1, z2, z3, z4, z5⟩ : An)) z1 = some ⟨t0, t1, t2, t3, t4, t5⟩ := by rw [heard_no hHear]; exact hTold
            clear hTold hAsked hHear
            refine (HT.out _ h8).mono ?_
            rintro e w9 ⟨rfl, hf9⟩
            have h9 := (h8.frm0 hf9).frm0 ((Frm.refl _ w9).alloc (.cells #[.int .i64 t0, .int .i64 t1, .int .i64 t2, .string t3, .int .i64 t4, .int .i64 t5] 86))
            have hF9 := (hF8.trans hf9).alloc (.cells #[.int .i64 t0, .int .i64 t1, .int .i64 t2, .string t3, .int .i64 t4, .int .i64 t5] 86)
            have hB9 := Bk.alloc (hf9.blk hB8 (fun h => h)) (.cells #[.int .i64 t0, .int .i64 t1, .int .i64 t2, .string t3, .int .i64 t4, .int .i64 t5] 86)
            have hD9 := Bk.new w9 (.cells #[.int .i64 t0, .int .i64 t1, .int .i64 t2, .string t3, .int .i64 t4, .int .i64 t5] 86)
            clear q0 q1 q2 q3 q4 q5
            obtain ⟨q0, q1, q2, q3, q4, q5⟩ := Bk.c6 hB9
            go_wp2_with fail
            refine (HK.out _ h9).mono ?_
            rintro e w10 ⟨rfl, hf10⟩
            have h10 := (h9.frm0 hf10).frm0 ((Frm.refl _ w10).alloc (.cells #[.int .i64 r0, .int .i64 r1, .int .i64 r2, .string r3, .string r4, .string r5, .string r6] 84))
            have hF10 := (hF9.trans hf10).alloc (.cells #[.int .i64 r0, .int .i64 r1, .int .i64 r2, .string r3, .string r4, .string r5, .string r6] 84)
            have hB10 := Bk.alloc (hf10.blk hB9 (fun h => h)) (.cells #[.int .i64 r0, .int .i64 r1, .int .i64 r2, .string r3, .string r4, .string r5, .string r6] 84)
            have hD10 := Bk.alloc (hf10.blk hD9 (fun h => h)) (.cells #[.int .i64 r0, .int .i64 r1, .int .i64 r2, .string r3, .string r4, .string r5, .string r6] 84)
            clear q0 q1 q2 q3 q4 q5
            obtain ⟨q0, q1, q2, q3, q4, q5⟩ := Bk.c6 hB10
            have hw9 : wr.heap.size + 1 ≤ w9.heap.size := by have := hf9.size; simp at this; omega
            have hw10 : w9.heap.size + 1 ≤ w10.heap.size := by have := hf10.size; simp at this; omega
            go_wp2_with fail
            refine (HH.out _ h10).mono ?_
            rintro e w11 ⟨ls', rfl, h11, hv11, hl11, _, hf11⟩
            have hF11 := h10.outs hF10 hcb (hf11.mono (fun i _ e => .inr e))
            have hne : ∀ k, wr.heap.size ≤ k → v.ownBlock ≠ some k := fun k hk e => by have := (hC.own k e).2; omega
            have hB11 := hf11.blk hB10 (hne _ (by omega))
            have hD11 := hf11.blk hD10 (hne _ (by omega))
            clear q0 q1 q2 q3 q4 q5
            obtain ⟨q0, q1, q2, q3, q4, q5⟩ := Bk.c6 hB11
            have HT2 := Lib.hid (told_to (t := some ⟨t0, t1, t2, t3, t4, t5⟩) h11 (by omega) (by rw [hv11]; exact hv9))
            unfold anV at HT2
            simp only [Option.getD_none, Option.getD_some, Option.isSome_none, Option.isSome_some] at HT2
            clear hv11 hv9 HT HK HH
            go_wp2_with fail
            refine HT2.out.mono ?_
            rintro e w12 ⟨rfl, hf12⟩
            have h12 := (h11.frm0 hf12).frm0 ((Frm.refl _ w12).alloc (.cells #[.int .i64 t0, .int .i64 t1, .int .i64 t2, .string t3, .int .i64 t4, .int .i64 t5] 86))
            have hF12 := (hF11.trans hf12).alloc (.cells #[.int .i64 t0, .int .i64 t1, .int .i64 t2, .string t3, .int .i64 t4, .int .i64 t5] 86)
            have hB12 := Bk.alloc (hf12.blk hB11 (fun h => h)) (.cells #[.int .i64 t0, .int .i64 t1, .int .i64 t2, .string t3, .int .i64 t4, .int .i64 t5] 86)
            have hD12 := Bk.alloc (hf12.blk hD11 (fun h => h)) (.cells #[.int .i64 t0, .int .i64 t1, .int .i64 t2, .string t3, .int .i64 t4, .int .i64 t5] 86)
            clear q0 q1 q2 q3 q4 q5 HT2 hB11 hD11 hB10 hD10 hB9 hD9 hB8
            obtain ⟨q0, q1, q2, q3, q4, q5⟩ := Bk.c6 hB12
            obtain ⟨p0, p1, p2, p3, p4, p5⟩ := Bk.c6 hD12
            have E2 := Lib.hid (fun w => ne_an ⟨t0, t1, t2, t3, t4, t5⟩ w)
            unfold anV at E2
            simp only at E2
            have E3 := E2.out
            clear E2
            go_wp2_with fail
            go_roundw
            case rel => exact ⟨k + 1, v, ls', by omega, by go_num, h12, by omega, hF12⟩
            case measure => simp [intOf]; omega
          · simp only at hAsked hTold
            have d1 : (id == id) = true := beq_iff_eq.2 e1
            have d2 : (id != id) = false := by rw [bne, d1]; rfl
            clear e1
            go_wp2_with fail
            have HT := Lib.hid (fun w' (h : Cl w' cb id v ls) => told_to h (by omega) hTold)
            have HK := Lib.hid (fun w' (h : Cl w' cb id v ls) => asked_to h (by omega) hAsked)
            have HH := Lib.hid (fun w' (h : Cl w' cb id v ls) => hear_to (y := (⟨id, z1, z2, z3, z4, z5⟩ : An)) (vs := vHeard id (vw ls) (⟨id, z1, z2, z3, z4, z5⟩ : An)) h (by omega) hHear rfl)
            unfold anV an0 at HT
            unfold rqV at HK
            unfold anV at HH
            simp only [Option.getD_none, Option.getD_some, Option.isSome_none, Option.isSome_some] at HT HK HH
            have hv9 : vTold (vHeard id (vw ls) (⟨id, z1, z2, z3, z4, z5⟩ : An)) z1 = some (⟨id, z1, z2, z3, z4, z5⟩ : An) := heard_ok hHear
            clear hTold hAsked hHear
            refine (HT.out _ h8).mono ?_
            rintro e w9 ⟨rfl, hf9⟩
            have h9 := (h8.frm0 hf9).frm0 ((Frm.refl _ w9).alloc (.cells #[.int .i64 0, .int .i64 0, .int .i64 0, .string ⟨#[]⟩, .int .i64 0, .int .i64 0] 86))
            have hF9 := (hF8.trans hf9).alloc (.cells #[.int .i64 0, .int .i64 0, .int .i64 0, .string ⟨#[]⟩, .int .i64 0, .int .i64 0] 86)
            have hB9 := Bk.alloc (hf9.blk hB8 (fun h => h)) (.cells #[.int .i64 0, .int .i64 0, .int .i64 0, .string ⟨#[]⟩, .int .i64 0, .int .i64 0] 86)
            have hD9 := Bk.new w9 (.cells #[.int .i64 0, .int .i64 0, .int .i64 0, .string ⟨#[]⟩, .int .i64 0, .int .i64 0] 86)
            clear q0 q1 q2 q3 q4 q5
            obtain ⟨q0, q1, q2, q3, q4, q5⟩ := Bk.c6 hB9
            go_wp2_with fail
            refine (HK.out _ h9).mono ?_
            rintro e w10 ⟨rfl, hf10⟩
            have h10 := (h9.frm0 hf10).frm0 ((Frm.refl _ w10).alloc (.cells #[.int .i64 r0, .int .i64 r1, .int .i64 r2, .string r3, .string r4, .string r5, .string r6] 84))
            have hF10 := (hF9.trans hf10).alloc (.cells #[.int .i64 r0, .int .i64 r1, .int .i64 r2, .string r3, .string r4, .string r5, .string r6] 84)
            have hB10 := Bk.alloc (hf10.blk hB9 (fun h => h)) (.cells #[.int .i64 r0, .int .i64 r1, .int .i64 r2, .string r3, .string r4, .string r5, .string r6] 84)
            have hD10 := Bk.alloc (hf10.blk hD9 (fun h => h)) (.cells #[.int .i64 r0, .int .i64 r1, .int .i64 r2, .string r3, .string r4, .string r5, .string r6] 84)
            clear q0 q1 q2 q3 q4 q5
            obtain ⟨q0, q1, q2, q3, q4, q5⟩ := Bk.c6 hB10
            have hw9 : wr.heap.size + 1 ≤ w9.heap.size := by have := hf9.size; simp at this; omega
            have hw10 : w9.heap.size + 1 ≤ w10.heap.size := by have := hf10.size; simp at this; omega
            go_wp2_with fail
            refine (HH.out _ h10).mono ?_
            rintro e w11 ⟨ls', rfl, h11, hv11, hl11, _, hf11⟩
            have hF11 := h10.outs hF10 hcb (hf11.mono (fun i _ e => .inr e))
            have hne : ∀ k, wr.heap.size ≤ k → v.ownBlock ≠ some k := fun k hk e => by have := (hC.own k e).2; omega
            have hB11 := hf11.blk hB10 (hne _ (by omega))
            have hD11 := hf11.blk hD10 (hne _ (by omega))
            clear q0 q1 q2 q3 q4 q5
            obtain ⟨q0, q1, q2, q3, q4, q5⟩ := Bk.c6 hB11
            have HT2 := Lib.hid (told_to (t := some (⟨id, z1, z2, z3, z4, z5⟩ : An)) h11 (by omega) (by rw [hv11]; exact hv9))
            unfold anV at HT2
            simp only [Option.getD_none, Option.getD_some, Option.isSome_none, Option.isSome_some] at HT2
            clear hv11 hv9 HT HK HH
            go_wp2_with fail
            refine HT2.out.mono ?_
            rintro e w12 ⟨rfl, hf12⟩
            have h12 := (h11.frm0 hf12).frm0 ((Frm.refl _ w12).alloc (.cells #[.int .i64 id, .int .i64 z1, .int .i64 z2, .string z3, .int .i64 z4, .int .i64 z5] 86))
            have hF12 := (hF11.trans hf12).alloc (.cells #[.int .i64 id, .int .i64 z1, .int .i64 z2, .string z3, .int .i64 z4, .int .i64 z5] 86)
            have hB12 := Bk.alloc (hf12.blk hB11 (fun h => h)) (.cells #[.int .i64 id, .int .i64 z1, .int .i64 z2, .string z3, .int .i64 z4, .int .i64 z5] 86)
            have hD12 := Bk.alloc (hf12.blk hD11 (fun h => h)) (.cells #[.int .i64 id, .int .i64 z1, .int .i64 z2, .string z3, .int .i64 z4, .int .i64 z5] 86)
            clear q0 q1 q2 q3 q4 q5 HT2 hB11 hD11 hB10 hD10 hB9 hD9 hB8
            obtain ⟨q0, q1, q2, q3, q4, q5⟩ := Bk.c6 hB12
            obtain ⟨p0, p1, p2, p3, p4, p5⟩ := Bk.c6 hD12
            have E2 := Lib.hid (fun w => ne_an ⟨id, z1, z2, z3, z4, z5⟩ w)
            unfold anV at E2
            simp only at E2
            have E3 := E2.out
            clear E2
            go_wp2_with fail
            go_roundw
            case rel => exact ⟨k + 1, v, ls', by omega, by go_num, h12, by omega, hF12⟩
            case measure => simp [intOf]; omega
        | false =>
          have hCD := hC.frm0 ((Frm.refl _ wr).alloc (.cells #[.bool false, .bool false, .int .i64 x0, .int .i64 x1, .int .i64 x2, .string x3, .string x4, .string x5, .string x6, .int .i64 z0, .int .i64 z1, .int .i64 z2, .string z3, .int .i64 z4, .int .i64 z5] 88))
          have hFD := hF.alloc (.cells #[.bool false, .bool false, .int .i64 x0, .int .i64 x1, .int .i64 x2, .string x3, .string x4, .string x5, .string x6, .int .i64 z0, .int .i64 z1, .int .i64 z2, .string z3, .int .i64 z4, .int .i64 z5] 88)
          have h8 := hCD.frm0 ((Frm.refl _ (wr.alloc (.cells #[.bool false, .bool false, .int .i64 x0, .int .i64 x1, .int .i64 x2, .string x3, .string x4, .string x5, .string x6, .int .i64 z0, .int .i64 z1, .int .i64 z2, .string z3, .int .i64 z4, .int .i64 z5] 88))).alloc (.cells #[.int .i64 z0, .int .i64 z1, .int .i64 z2, .string z3, .int .i64 z4, .int .i64 z5] 86))
          have hF8 := hFD.alloc (.cells #[.int .i64 z0, .int .i64 z1, .int .i64 z2, .string z3, .int .i64 z4, .int .i64 z5] 86)
          have hB8 := new_second wr (.cells #[.bool false, .bool false, .int .i64 x0, .int .i64 x1, .int .i64 x2, .string x3, .string x4, .string x5, .string x6, .int .i64 z0, .int .i64 z1, .int .i64 z2, .string z3, .int .i64 z4, .int .i64 z5] 88) (.cells #[.int .i64 z0, .int .i64 z1, .int .i64 z2, .string z3, .int .i64 z4, .int .i64 z5] 86)
          obtain ⟨q0, q1, q2, q3, q4, q5⟩ := Bk.c6 hB8
          rcases hr id (vw ls) (⟨z0, z1, z2, z3, z4, z5⟩ : An) with ⟨e1, hHear⟩ | ⟨e1, hAsked, hTold, hHear⟩ | ⟨⟨t0, t1, t2, t3, t4, t5⟩, ⟨r0, r1, r2, r3, r4, r5, r6⟩, e1, hAsked, hTold, hHear⟩ | ⟨⟨r0, r1, r2, r3, r4, r5, r6⟩, e1, hAsked, hTold, hHear⟩
          · simp only at e1
            have d1 : (z0 == id) = false := beq_eq_false_iff_ne.2 e1
            have d2 : (z0 != id) = true := by rw [bne, d1]; rfl
            clear e1
            cases hAsked : vAsked (vw ls) z1 with
            | none =>
              cases hTold : vTold (vw ls) z1 with
              | none =>
                go_wp2_with fail
                have HT := Lib.hid (fun w' (h : Cl w' cb id v ls) => told_to h (by omega) hTold)
                have HK := Lib.hid (fun w' (h : Cl w' cb id v ls) => asked_to h (by omega) hAsked)
                have HH := Lib.hid (fun w' (h : Cl w' cb id v ls) => hear_to (y := (⟨z0, z1, z2, z3, z4, z5⟩ : An)) (vs := vHeard id (vw ls) (⟨z0, z1, z2, z3, z4, z5⟩ : An)) h (by omega) hHear rfl)
                unfold anV an0 at HT
                unfold rqV rq0 at HK
                unfold anV at HH
                simp only [Option.getD_none, Option.getD_some, Option.isSome_none, Option.isSome_some] at HT HK HH
                have hv9 : vTold (vHeard id (vw ls) (⟨z0, z1, z2, z3, z4, z5⟩ : An)) z1 = none := by rw [heard_no hHear]; exact hTold
                clear hTold hAsked hHear
                refine (HT.out _ h8).mono ?_
                rintro e w9 ⟨rfl, hf9⟩
                have h9 := (h8.frm0 hf9).frm0 ((Frm.refl _ w9).alloc (.cells #[.int .i64 0, .int .i64 0, .int .i64 0, .string ⟨#[]⟩, .int .i64 0, .int .i64 0] 86))
                have hF9 := (hF8.trans hf9).alloc (.cells #[.int .i64 0, .int .i64 0, .int .i64 0, .string ⟨#[]⟩, .int .i64 0, .int .i64 0] 86)
                have hB9 := Bk.alloc (hf9.blk hB8 (fun h => h)) (.cells #[.int .i64 0, .int .i64 0, .int .i64 0, .string ⟨#[]⟩, .int .i64 0, .int .i64 0] 86)
                have hD9 := Bk.new w9 (.cells #[.int .i64 0, .int .i64 0, .int .i64 0, .string ⟨#[]⟩, .int .i64 0, .int .i64 0] 86)
                clear q0 q1 q2 q3 q4 q5
                obtain ⟨q0, q1, q2, q3, q4, q5⟩ := Bk.c6 hB9
                go_wp2_with fail
                refine (HK.out _ h9).mono ?_
                rintro e w10 ⟨rfl, hf10⟩
                have h10 := (h9.frm0 hf10).frm0 ((Frm.refl _ w10).alloc (.cells #[.int .i64 0, .int .i64 0, .int .i64 0, .string ⟨#[]⟩, .string ⟨#[]⟩, .string ⟨#[]⟩, .string ⟨#[]⟩] 84))
                have hF10 := (hF9.trans hf10).alloc (.cells #[.int .i64 0, .int .i64 0, .int .i64 0, .string ⟨#[]⟩, .string ⟨#[]⟩, .string ⟨#[]⟩, .string ⟨#[]⟩] 84)
                have hB10 := Bk.alloc (hf10.blk hB9 (fun h => h)) (.cells #[.int .i64 0, .int .i64 0, .int .i64 0, .string ⟨#[]⟩, .string ⟨#[]⟩, .string ⟨#[]⟩, .string ⟨#[]⟩] 84)
                have hD10 := Bk.alloc (hf10.blk hD9 (fun h => h)) (.cells #[.int .i64 0, .int .i64 0, .int .i64 0, .string ⟨#[]⟩, .string ⟨#[]⟩, .string ⟨#[]⟩, .string ⟨#[]⟩] 84)
                clear q0 q1 q2 q3 q4 q5
                obtain ⟨q0, q1, q2, q3, q4, q5⟩ := Bk.c6 hB10
                have hw9 : wr.heap.size + 1 ≤ w9.heap.size := by have := hf9.size; simp at this; omega
                have hw10 : w9.heap.size + 1 ≤ w10.heap.size := by have := hf10.size; simp at this; omega
                go_wp2_with fail
                refine (HH.out _ h10).mono ?_
                rintro e w11 ⟨ls', rfl, h11, hv11, hl11, _, hf11⟩
                have hF11 := h10.outs hF10 hcb (hf11.mono (fun i _ e => .inr e))
                have hne : ∀ k, wr.heap.size ≤ k → v.ownBlock ≠ some k := fun k hk e => by have := (hC.own k e).2; omega
                have hB11 := hf11.blk hB10 (hne _ (by omega))
                have hD11 := hf11.blk hD10 (hne _ (by omega))
                clear q0 q1 q2 q3 q4 q5
                obtain ⟨q0, q1, q2, q3, q4, q5⟩ := Bk.c6 hB11
                have HT2 := Lib.hid (told_to (t := none) h11 (by omega) (by rw [hv11]; exact hv9))
                unfold anV an0 at HT2
                simp only [Option.getD_none, Option.getD_some, Option.isSome_none, Option.isSome_some] at HT2
                clear hv11 hv9 HT HK HH
                go_wp2_with fail
                refine HT2.out.mono ?_
                rintro e w12 ⟨rfl, hf12⟩
                have h12 := (h11.frm0 hf12).frm0 ((Frm.refl _ w12).alloc (.cells #[.int .i64 0, .int .i64 0, .int .i64 0, .string ⟨#[]⟩, .int .i64 0, .int .i64 0] 86))
                have hF12 := (hF11.trans hf12).alloc (.cells #[.int .i64 0, .int .i64 0, .int .i64 0, .string ⟨#[]⟩, .int .i64 0, .int .i64 0] 86)
                have hB12 := Bk.alloc (hf12.blk hB11 (fun h => h)) (.cells #[.int .i64 0, .int .i64 0, .int .i64 0, .string ⟨#[]⟩, .int .i64 0, .int .i64 0] 86)
                have hD12 := Bk.alloc (hf12.blk hD11 (fun h => h)) (.cells #[.int .i64 0, .int .i64 0, .int .i64 0, .string ⟨#[]⟩, .int .i64 0, .int .i64 0] 86)
                clear q0 q1 q2 q3 q4 q5 HT2 hB11 hD11 hB10 hD10 hB9 hD9 hB8
                obtain ⟨q0, q1, q2, q3, q4, q5⟩ := Bk.c6 hB12
                obtain ⟨p0, p1, p2, p3, p4, p5⟩ := Bk.c6 hD12
                have E2 := Lib.hid (fun w => ne_an ⟨0, 0, 0, ⟨#[]⟩, 0, 0⟩ w)
                unfold anV at E2
                simp only at E2
                have E3 := E2.out
                clear E2
                go_wp2_with fail
                go_roundw
                case rel => exact ⟨k + 1, v, ls', by omega, by go_num, h12, by omega, hF12⟩
                case measure => simp [intOf]; omega
              | some t =>
                obtain ⟨t0, t1, t2, t3, t4, t5⟩ := t
                go_wp2_with fail
                have HT := Lib.hid (fun w' (h : Cl w' cb id v ls) => told_to h (by omega) hTold)
                have HK := Lib.hid (fun w' (h : Cl w' cb id v ls) => asked_to h (by omega) hAsked)
                have HH := Lib.hid (fun w' (h : Cl w' cb id v ls) => hear_to (y := (⟨z0, z1, z2, z3, z4, z5⟩ : An)) (vs := vHeard id (vw ls) (⟨z0, z1, z2, z3, z4, z5⟩ : An)) h (by omega) hHear rfl)
                unfold anV at HT
                unfold rqV rq0 at HK
                unfold anV at HH
                simp only [Option.getD_none, Option.getD_some, Option.isSome_none, Option.isSome_some] at HT HK HH
                have hv9 : vTold (vHeard id (vw ls) (⟨z0, z1, z2, z3, z4, z5⟩ : An)) z1 = some ⟨t0, t1, t2, t3, t4, t5⟩ := by rw [heard_no hHear]; exact hTold
                clear hTold hAsked hHear
                refine (HT.out _ h8).mono ?_
                rintro e w9 ⟨rfl, hf9⟩
                have h9 := (h8.frm0 hf9).frm0 ((Frm.refl _ w9).alloc (.cells #[.int .i64 t0, .int .i64 t1, .int .i64 t2, .string t3, .int .i64 t4, .int .i64 t5] 86))
                have hF9 := (hF8.trans hf9).alloc (.cells #[.int .i64 t0, .int .i64 t1, .int .i64 t2, .string t3, .int .i64 t4, .int .i64 t5] 86)
                have hB9 := Bk.alloc (hf9.blk hB8 (fun h => h)) (.cells #[.int .i64 t0, .int .i64 t1, .int .i64 t2, .string t3, .int .i64 t4, .int .i64 t5] 86)
                have hD9 := Bk.new w9 (.cells #[.int .i64 t0, .int .i64 t1, .int .i64 t2, .string t3, .int .i64 t4, .int .i64 t5] 86)
                clear q0 q1 q2 q3 q4 q5
                obtain ⟨q0, q1, q2, q3, q4, q5⟩ := Bk.c6 hB9
                go_wp2_with fail
                refine (HK.out _ h9).mono ?_
                rintro e w10 ⟨rfl, hf10⟩
                have h10 := (h9.frm0 hf10).frm0 ((Frm.refl _ w10).alloc (.cells #[.int .i64 0, .int .i64 0, .int .i64 0, .string ⟨#[]⟩, .string ⟨#[]⟩, .string ⟨#[]⟩, .string ⟨#[]⟩] 84))
                have hF10 := (hF9.trans hf10).alloc (.cells #[.int .i64 0, .int .i64 0, .int .i64 0, .string ⟨#[]⟩, .string ⟨#[]⟩, .string ⟨#[]⟩, .string ⟨#[]⟩] 84)
                have hB10 := Bk.alloc (hf10.blk hB9 (fun h => h)) (.cells #[.int .i64 0, .int .i64 0, .int .i64 0, .string ⟨#[]⟩, .string ⟨#[]⟩, .string ⟨#[]⟩, .string ⟨#[]⟩] 84)
                have hD10 := Bk.alloc (hf10.blk hD9 (fun h => h)) (.cells #[.int .i64 0, .int .i64 0, .int .i64 0, .string ⟨#[]⟩, .string ⟨#[]⟩, .string ⟨#[]⟩, .string ⟨#[]⟩] 84)
                clear q0 q1 q2 q3 q4 q5
                obtain ⟨q0, q1, q2, q3, q4, q5⟩ := Bk.c6 hB10
                have hw9 : wr.heap.size + 1 ≤ w9.heap.size := by have := hf9.size; simp at this; omega
                have hw10 : w9.heap.size + 1 ≤ w10.heap.size := by have := hf10.size; simp at this; omega
                go_wp2_with fail
                refine (HH.out _ h10).mono ?_
                rintro e w11 ⟨ls', rfl, h11, hv11, hl11, _, hf11⟩
                have hF11 := h10.outs hF10 hcb (hf11.mono (fun i _ e => .inr e))
                have hne : ∀ k, wr.heap.size ≤ k → v.ownBlock ≠ some k := fun k hk e => by have := (hC.own k e).2; omega
                have hB11 := hf11.blk hB10 (hne _ (by omega))
                have hD11 := hf11.blk hD10 (hne _ (by omega))
                clear q0 q1 q2 q3 q4 q5
                obtain ⟨q0, q1, q2, q3, q4, q5⟩ := Bk.c6 hB11
                have HT2 := Lib.hid (told_to (t := some ⟨t0, t1, t2, t3, t4, t5⟩) h11 (by omega) (by rw [hv11]; exact hv9))
                unfold anV at HT2
                simp only [Option.getD_none, Option.getD_some, Option.isSome_none, Option.isSome_some] at HT2
                clear hv11 hv9 HT HK HH
                go_wp2_with fail
                refine HT2.out.mono ?_
                rintro e w12 ⟨rfl, hf12⟩
                have h12 := (h11.frm0 hf12).frm0 ((Frm.refl _ w12).alloc (.cells #[.int .i64 t0, .int .i64 t1, .int .i64 t2, .string t3, .int .i64 t4, .int .i64 t5] 86))
                have hF12 := (hF11.trans hf12).alloc (.cells #[.int .i64 t0, .int .i64 t1, .int .i64 t2, .string t3, .int .i64 t4, .int .i64 t5] 86)
                have hB12 := Bk.alloc (hf12.blk hB11 (fun h => h)) (.cells #[.int .i64 t0, .int .i64 t1, .int .i64 t2, .string t3, .int .i64 t4, .int .i64 t5] 86)
                have hD12 := Bk.alloc (hf12.blk hD11 (fun h => h)) (.cells #[.int .i64 t0, .int .i64 t1, .int .i64 t2, .string t3, .int .i64 t4, .int .i64 t5] 86)
                clear q0 q1 q2 q3 q4 q5 HT2 hB11 hD11 hB10 hD10 hB9 hD9 hB8
                obtain ⟨q0, q1, q2, q3, q4, q5⟩ := Bk.c6 hB12
                obtain ⟨p0, p1, p2, p3, p4, p5⟩ := Bk.c6 hD12
                have E2 := Lib.hid (fun w => ne_an ⟨t0, t1, t2, t3, t4, t5⟩ w)
                unfold anV at E2
                simp only at E2
                have E3 := E2.out
                clear E2
                go_wp2_with fail
                go_roundw
                case rel => exact ⟨k + 1, v, ls', by omega, by go_num, h12, by omega, hF12⟩
                case measure => simp [intOf]; omega
            | some q =>
              obtain ⟨r0, r1, r2, r3, r4, r5, r6⟩ := q
              cases hTold : vTold (vw ls) z1 with
              | none =>
                go_wp2_with fail
                have HT := Lib.hid (fun w' (h : Cl w' cb id v ls) => told_to h (by omega) hTold)
                have HK := Lib.hid (fun w' (h : Cl w' cb id v ls) => asked_to h (by omega) hAsked)
                have HH := Lib.hid (fun w' (h : Cl w' cb id v ls) => hear_to (y := (⟨z0, z1, z2, z3, z4, z5⟩ : An)) (vs := vHeard id (vw ls) (⟨z0, z1, z2, z3, z4, z5⟩ : An)) h (by omega) hHear rfl)
                unfold anV an0 at HT
                unfold rqV at HK
                unfold anV at HH
                simp only [Option.getD_none, Option.getD_some, Option.isSome_none, Option.isSome_some] at HT HK HH
                have hv9 : vTold (vHeard id (vw ls) (⟨z0, z1, z2, z3, z4, z5⟩ : An)) z1 = none := by rw [heard_no hHear]; exact hTold
                clear hTold hAsked hHear
                refine (HT.out _ h8).mono ?_
                rintro e w9 ⟨rfl, hf9⟩
                have h9 := (h8.frm0 hf9).frm0 ((Frm.refl _ w9).alloc (.cells #[.int .i64 0, .int .i64 0, .int .i64 0, .string ⟨#[]⟩, .int .i64 0, .int .i64 0] 86))
                have hF9 := (hF8.trans hf9).alloc (.cells #[.int .i64 0, .int .i64 0, .int .i64 0, .string ⟨#[]⟩, .int .i64 0, .int .i64 0] 86)
                have hB9 := Bk.alloc (hf9.blk hB8 (fun h => h)) (.cells #[.int .i64 0, .int .i64 0, .int .i64 0, .string ⟨#[]⟩, .int .i64 0, .int .i64 0] 86)
                have hD9 := Bk.new w9 (.cells #[.int .i64 0, .int .i64 0, .int .i64 0, .string ⟨#[]⟩, .int .i64 0, .int .i64 0] 86)
                clear q0 q1 q2 q3 q4 q5
                obtain ⟨q0, q1, q2, q3, q4, q5⟩ := Bk.c6 hB9
                go_wp2_with fail
                refine (HK.out _ h9).mono ?_
                rintro e w10 ⟨rfl, hf10⟩
                have h10 := (h9.frm0 hf10).frm0 ((Frm.refl _ w10).alloc (.cells #[.int .i64 r0, .int .i64 r1, .int .i64 r2, .string r3, .string r4, .string r5, .string r6] 84))
                have hF10 := (hF9.trans hf10).alloc (.cells #[.int .i64 r0, .int .i64 r1, .int .i64 r2, .string r3, .string r4, .string r5, .string r6] 84)
                have hB10 := Bk.alloc (hf10.blk hB9 (fun h => h)) (.cells #[.int .i64 r0, .int .i64 r1, .int .i64 r2, .string r3, .string r4, .string r5, .string r6] 84)
                have hD10 := Bk.alloc (hf10.blk hD9 (fun h => h)) (.cells #[.int .i64 r0, .int .i64 r1, .int .i64 r2, .string r3, .string r4, .string r5, .string r6] 84)
                clear q0 q1 q2 q3 q4 q5
                obtain ⟨q0, q1, q2, q3, q4, q5⟩ := Bk.c6 hB10
                have hw9 : wr.heap.size + 1 ≤ w9.heap.size := by have := hf9.size; simp at this; omega
                have hw10 : w9.heap.size + 1 ≤ w10.heap.size := by have := hf10.size; simp at this; omega
                go_wp2_with fail
                refine (HH.out _ h10).mono ?_
                rintro e w11 ⟨ls', rfl, h11, hv11, hl11, _, hf11⟩
                have hF11 := h10.outs hF10 hcb (hf11.mono (fun i _ e => .inr e))
                have hne : ∀ k, wr.heap.size ≤ k → v.ownBlock ≠ some k := fun k hk e => by have := (hC.own k e).2; omega
                have hB11 := hf11.blk hB10 (hne _ (by omega))
                have hD11 := hf11.blk hD10 (hne _ (by omega))
                clear q0 q1 q2 q3 q4 q5
                obtain ⟨q0, q1, q2, q3, q4, q5⟩ := Bk.c6 hB11
                have HT2 := Lib.hid (told_to (t := none) h11 (by omega) (by rw [hv11]; exact hv9))
                unfold anV an0 at HT2
                simp only [Option.getD_none, Option.getD_some, Option.isSome_none, Option.isSome_some] at HT2
                clear hv11 hv9 HT HK HH
                go_wp2_with fail
                refine HT2.out.mono ?_
                rintro e w12 ⟨rfl, hf12⟩
                have h12 := (h11.frm0 hf12).frm0 ((Frm.refl _ w12).alloc (.cells #[.int .i64 0, .int .i64 0, .int .i64 0, .string ⟨#[]⟩, .int .i64 0, .int .i64 0] 86))
                have hF12 := (hF11.trans hf12).alloc (.cells #[.int .i64 0, .int .i64 0, .int .i64 0, .string ⟨#[]⟩, .int .i64 0, .int .i64 0] 86)
                have hB12 := Bk.alloc (hf12.blk hB11 (fun h => h)) (.cells #[.int .i64 0, .int .i64 0, .int .i64 0, .string ⟨#[]⟩, .int .i64 0, .int .i64 0] 86)
                have hD12 := Bk.alloc (hf12.blk hD11 (fun h => h)) (.cells #[.int .i64 0, .int .i64 0, .int .i64 0, .string ⟨#[]⟩, .int .i64 0, .int .i64 0] 86)
                clear q0 q1 q2 q3 q4 q5 HT2 hB11 hD11 hB10 hD10 hB9 hD9 hB8
                obtain ⟨q0, q1, q2, q3, q4, q5⟩ := Bk.c6 hB12
                obtain ⟨p0, p1, p2, p3, p4, p5⟩ := Bk.c6 hD12
                have E2 := Lib.hid (fun w => ne_an ⟨0, 0, 0, ⟨#[]⟩, 0, 0⟩ w)
                unfold anV at E2
                simp only at E2
                have E3 := E2.out
                clear E2
                go_wp2_with fail
                go_roundw
                case rel => exact ⟨k + 1, v, ls', by omega, by go_num, h12, by omega, hF12⟩
                case measure => simp [intOf]; omega
              | some t =>
                obtain ⟨t0, t1, t2, t3, t4, t5⟩ := t
                go_wp2_with fail
                have HT := Lib.hid (fun w' (h : Cl w' cb id v ls) => told_to h (by omega) hTold)
                have HK := Lib.hid (fun w' (h : Cl w' cb id v ls) => asked_to h (by omega) hAsked)
                have HH := Lib.hid (fun w' (h : Cl w' cb id v ls) => hear_to (y := (⟨z0, z1, z2, z3, z4, z5⟩ : An)) (vs := vHeard id (vw ls) (⟨z0, z1, z2, z3, z4, z5⟩ : An)) h (by omega) hHear rfl)
                unfold anV at HT
                unfold rqV at HK
                unfold anV at HH
                simp only [Option.getD_none, Option.getD_some, Option.isSome_none, Option.isSome_some] at HT HK HH
                have hv9 : vTold (vHeard id (vw ls) (⟨z0, z1, z2, z3, z4, z5⟩ : An)) z1 = some ⟨t0, t1, t2, t3, t4, t5⟩ := by rw [heard_no hHear]; exact hTold
                clear hTold hAsked hHear
                refine (HT.out _ h8).mono ?_
                rintro e w9 ⟨rfl, hf9⟩
                have h9 := (h8.frm0 hf9).frm0 ((Frm.refl _ w9).alloc (.cells #[.int .i64 t0, .int .i64 t1, .int .i64 t2, .string t3, .int .i64 t4, .int .i64 t5] 86))
                have hF9 := (hF8.trans hf9).alloc (.cells #[.int .i64 t0, .int .i64 t1, .int .i64 t2, .string t3, .int .i64 t4, .int .i64 t5] 86)
                have hB9 := Bk.alloc (hf9.blk hB8 (fun h => h)) (.cells #[.int .i64 t0, .int .i64 t1, .int .i64 t2, .string t3, .int .i64 t4, .int .i64 t5] 86)
                have hD9 := Bk.new w9 (.cells #[.int .i64 t0, .int .i64 t1, .int .i64 t2, .string t3, .int .i64 t4, .int .i64 t5] 86)
                clear q0 q1 q2 q3 q4 q5
                obtain ⟨q0, q1, q2, q3, q4, q5⟩ := Bk.c6 hB9
                go_wp2_with fail
                refine (HK.out _ h9).mono ?_
                rintro e w10 ⟨rfl, hf10⟩
                have h10 := (h9.frm0 hf10).frm0 ((Frm.refl _ w10).alloc (.cells #[.int .i64 r0, .int .i64 r1, .int .i64 r2, .string r3, .string r4, .string r5, .string r6] 84))
                have hF10 := (hF9.trans hf10).alloc (.cells #[.int .i64 r0, .int .i64 r1, .int .i64 r2, .string r3, .string r4, .string r5, .string r6] 84)
                have hB10 := Bk.alloc (hf10.blk hB9 (fun h => h)) (.cells #[.int .i64 r0, .int .i64 r1, .int .i64 r2, .string r3, .string r4, .string r5, .string r6] 84)
                have hD10 := Bk.alloc (hf10.blk hD9 (fun h => h)) (.cells #[.int .i64 r0, .int .i64 r1, .int .i64 r2, .string r3, .string r4, .string r5, .string r6] 84)
                clear q0 q1 q2 q3 q4 q5
                obtain ⟨q0, q1, q2, q3, q4, q5⟩ := Bk.c6 hB10
                have hw9 : wr.heap.size + 1 ≤ w9.heap.size := by have := hf9.size; simp at this; omega
                have hw10 : w9.heap.size + 1 ≤ w10.heap.size := by have := hf10.size; simp at this; omega
                go_wp2_with fail
                refine (HH.out _ h10).mono ?_
                rintro e w11 ⟨ls', rfl, h11, hv11, hl11, _, hf11⟩
                have hF11 := h10.outs hF10 hcb (hf11.mono (fun i _ e => .inr e))
                have hne : ∀ k, wr.heap.size ≤ k → v.ownBlock ≠ some k := fun k hk e => by have := (hC.own k e).2; omega
                have hB11 := hf11.blk hB10 (hne _ (by omega))
                have hD11 := hf11.blk hD10 (hne _ (by omega))
                clear q0 q1 q2 q3 q4 q5
                obtain ⟨q0, q1, q2, q3, q4, q5⟩ := Bk.c6 hB11
                have HT2 := Lib.hid (told_to (t := some ⟨t0, t1, t2, t3, t4, t5⟩) h11 (by omega) (by rw [hv11]; exact hv9))
                unfold anV at HT2
                simp only [Option.getD_none, Option.getD_some, Option.isSome_none, Option.isSome_some] at HT2
                clear hv11 hv9 HT HK HH
                go_wp2_with fail
                refine HT2.out.mono ?_
                rintro e w12 ⟨rfl, hf12⟩
                have h12 := (h11.frm0 hf12).frm0 ((Frm.refl _ w12).alloc (.cells #[.int .i64 t0, .int .i64 t1, .int .i64 t2, .string t3, .int .i64 t4, .int .i64 t5] 86))
                have hF12 := (hF11.trans hf12).alloc (.cells #[.int .i64 t0, .int .i64 t1, .int .i64 t2, .string t3, .int .i64 t4, .int .i64 t5] 86)
                have hB12 := Bk.alloc (hf12.blk hB11 (fun h => h)) (.cells #[.int .i64 t0, .int .i64 t1, .int .i64 t2, .string t3, .int .i64 t4, .int .i64 t5] 86)
                have hD12 := Bk.alloc (hf12.blk hD11 (fun h => h)) (.cells #[.int .i64 t0, .int .i64 t1, .int .i64 t2, .string t3, .int .i64 t4, .int .i64 t5] 86)
                clear q0 q1 q2 q3 q4 q5 HT2 hB11 hD11 hB10 hD10 hB9 hD9 hB8
                obtain ⟨q0, q1, q2, q3, q4, q5⟩ := Bk.c6 hB12
                obtain ⟨p0, p1, p2, p3, p4, p5⟩ := Bk.c6 hD12
                have E2 := Lib.hid (fun w => ne_an ⟨t0, t1, t2, t3, t4, t5⟩ w)
                unfold anV at E2
                simp only at E2
                have E3 := E2.out
                clear E2
                go_wp2_with fail
                go_roundw
                case rel => exact ⟨k + 1, v, ls', by omega, by go_num, h12, by omega, hF12⟩
                case measure => simp [intOf]; omega
          · simp only at e1 hAsked hTold
            have d1 : (z0 == id) = true := beq_iff_eq.2 e1
            have d2 : (z0 != id) = false := by rw [bne, d1]; rfl
            clear e1
            go_wp2_with fail
            have HT := Lib.hid (fun w' (h : Cl w' cb id v ls) => told_to h (by omega) hTold)
            have HK := Lib.hid (fun w' (h : Cl w' cb id v ls) => asked_to h (by omega) hAsked)
            have HH := Lib.hid (fun w' (h : Cl w' cb id v ls) => hear_to (y := (⟨z0, z1, z2, z3, z4, z5⟩ : An)) (vs := vHeard id (vw ls) (⟨z0, z1, z2, z3, z4, z5⟩ : An)) h (by omega) hHear rfl)
            unfold anV an0 at HT
            unfold rqV rq0 at HK
            unfold anV at HH
            simp only [Option.getD_none, Option.getD_some, Option.isSome_none, Option.isSome_some] at HT HK HH
            have hv9 : vTold (vHeard id (vw ls) (⟨z0, z1, z2, z3, z4, z5⟩ : An)) z1 = none := by rw [heard_no hHear]; exact hTold
            clear hTold hAsked hHear
            refine (HT.out _ h8).mono ?_
            rintro e w9 ⟨rfl, hf9⟩
            have h9 := (h8.frm0 hf9).frm0 ((Frm.refl _ w9).alloc (.cells #[.int .i64 0, .int .i64 0, .int .i64 0, .string ⟨#[]⟩, .int .i64 0, .int .i64 0] 86))
            have hF9 := (hF8.trans hf9).alloc (.cells #[.int .i64 0, .int .i64 0, .int .i64 0, .string ⟨#[]⟩, .int .i64 0, .int .i64 0] 86)
            have hB9 := Bk.alloc (hf9.blk hB8 (fun h => h)) (.cells #[.int .i64 0, .int .i64 0, .int .i64 0, .string ⟨#[]⟩, .int .i64 0, .int .i64 0] 86)
            have hD9 := Bk.new w9 (.cells #[.int .i64 0, .int .i64 0, .int .i64 0, .string ⟨#[]⟩, .int .i64 0, .int .i64 0] 86)
            clear q0 q1 q2 q3 q4 q5
            obtain ⟨q0, q1, q2, q3, q4, q5⟩ := Bk.c6 hB9
            go_wp2_with fail
            refine (HK.out _ h9).mono ?_
            rintro e w10 ⟨rfl, hf10⟩
            have h10 := (h9.frm0 hf10).frm0 ((Frm.refl _ w10).alloc (.cells #[.int .i64 0, .int .i64 0, .int .i64 0, .string ⟨#[]⟩, .string ⟨#[]⟩, .string ⟨#[]⟩, .string ⟨#[]⟩] 84))
            have hF10 := (hF9.trans hf10).alloc (.cells #[.int .i64 0, .int .i64 0, .int .i64 0, .string ⟨#[]⟩, .string ⟨#[]⟩, .string ⟨#[]⟩, .string ⟨#[]⟩] 84)
            have hB10 := Bk.alloc (hf10.blk hB9 (fun h => h)) (.cells #[.int .i64 0, .int .i64 0, .int .i64 0, .string ⟨#[]⟩, .string ⟨#[]⟩, .string ⟨#[]⟩, .string ⟨#[]⟩] 84)
            have hD10 := Bk.alloc (hf10.blk hD9 (fun h => h)) (.cells #[.int .i64 0, .int .i64 0, .int .i64 0, .string ⟨#[]⟩, .string ⟨#[]⟩, .string ⟨#[]⟩, .string ⟨#[]⟩] 84)
            clear q0 q1 q2 q3 q4 q5
            obtain ⟨q0, q1, q2, q3, q4, q5⟩ := Bk.c6 hB10
            have hw9 : wr.heap.size + 1 ≤ w9.heap.size := by have := hf9.size; simp at this; omega
            have hw10 : w9.heap.size + 1 ≤ w10.heap.size := by have := hf10.size; simp at this; omega
            go_wp2_with fail
            refine (HH.out _ h10).mono ?_
            rintro e w11 ⟨ls', rfl, h11, hv11, hl11, _, hf11⟩
            have hF11 := h10.outs hF10 hcb (hf11.mono (fun i _ e => .inr e))
            have hne : ∀ k, wr.heap.size ≤ k → v.ownBlock ≠ some k := fun k hk e => by have := (hC.own k e).2; omega
            have hB11 := hf11.blk hB10 (hne _ (by omega))
            have hD11 := hf11.blk hD10 (hne _ (by omega))
            clear q0 q1 q2 q3 q4 q5
            obtain ⟨q0, q1, q2, q3, q4, q5⟩ := Bk.c6 hB11
            have HT2 := Lib.hid (told_to (t := none) h11 (by omega) (by rw [hv11]; exact hv9))
            unfold anV an0 at HT2
            simp only [Option.getD_none, Option.getD_some, Option.isSome_none, Option.isSome_some] at HT2
            clear hv11 hv9 HT HK HH
            go_wp2_with fail
            refine HT2.out.mono ?_
            rintro e w12 ⟨rfl, hf12⟩
            have h12 := (h11.frm0 hf12).frm0 ((Frm.refl _ w12).alloc (.cells #[.int .i64 0, .int .i64 0, .int .i64 0, .string ⟨#[]⟩, .int .i64 0, .int .i64 0] 86))
            have hF12 := (hF11.trans hf12).alloc (.cells #[.int .i64 0, .int .i64 0, .int .i64 0, .string ⟨#[]⟩, .int .i64 0, .int .i64 0] 86)
            have hB12 := Bk.alloc (hf12.blk hB11 (fun h => h)) (.cells #[.int .i64 0, .int .i64 0, .int .i64 0, .string ⟨#[]⟩, .int .i64 0, .int .i64 0] 86)
            have hD12 := Bk.alloc (hf12.blk hD11 (fun h => h)) (.cells #[.int .i64 0, .int .i64 0, .int .i64 0, .string ⟨#[]⟩, .int .i64 0, .int .i64 0] 86)
            clear q0 q1 q2 q3 q4 q5 HT2 hB11 hD11 hB10 hD10 hB9 hD9 hB8
            obtain ⟨q0, q1, q2, q3, q4, q5⟩ := Bk.c6 hB12
            obtain ⟨p0, p1, p2, p3, p4, p5⟩ := Bk.c6 hD12
            have E2 := Lib.hid (fun w => ne_an ⟨0, 0, 0, ⟨#[]⟩, 0, 0⟩ w)
            unfold anV at E2
            simp only at E2
            have E3 := E2.out
            clear E2
            go_wp2_with fail
            go_roundw
            case rel => exact ⟨k + 1, v, ls', by omega, by go_num, h12, by omega, hF12⟩
            case measure => simp [intOf]; omega
          · simp only at e1 hAsked hTold
            have d1 : (z0 == id) = true := beq_iff_eq.2 e1
            have d2 : (z0 != id) = false := by rw [bne, d1]; rfl
            clear e1
            go_wp2_with fail
            have HT := Lib.hid (fun w' (h : Cl w' cb id v ls) => told_to h (by omega) hTold)
            have HK := Lib.hid (fun w' (h : Cl w' cb id v ls) => asked_to h (by omega) hAsked)
            have HH := Lib.hid (fun w' (h : Cl w' cb id v ls) => hear_to (y := (⟨z0, z1, z2, z3, z4, z5⟩ : An)) (vs := vHeard id (vw ls) (⟨z0, z1, z2, z3, z4, z5⟩ : An)) h (by omega) hHear rfl)
            unfold anV at HT
            unfold rqV at HK
            unfold anV at HH
            simp only [Option.getD_none, Option.getD_some, Option.isSome_none, Option.isSome_some] at HT HK HH
            have hv9 : vTold (vHeard id (vw ls) (⟨z0, z1, z2, z3, z4, z5⟩ : An)) z1 = some ⟨t0, t1, t2, t3, t4, t5⟩ := by rw [heard_no hHear]; exact hTold
            clear hTold hAsked hHear
            refine (HT.out _ h8).mono ?_
            rintro e w9 ⟨rfl, hf9⟩
            have h9 := (h8.frm0 hf9).frm0 ((Frm.refl _ w9).alloc (.cells #[.int .i64 t0, .int .i64 t1, .int .i64 t2, .string t3, .int .i64 t4, .int .i64 t5] 86))
            have hF9 := (hF8.trans hf9).alloc (.cells #[.int .i64 t0, .int .i64 t1, .int .i64 t2, .string t3, .int .i64 t4, .int .i64 t5] 86)
            have hB9 := Bk.alloc (hf9.blk hB8 (fun h => h)) (.cells #[.int .i64 t0, .int .i64 t1, .int .i64 t2, .string t3, .int .i64 t4, .int .i64 t5] 86)
            have hD9 := Bk.new w9 (.cells #[.int .i64 t0, .int .i64 t1, .int .i64 t2, .string t3, .int .i64 t4, .int .i64 t5] 86)
            clear q0 q1 q2 q3 q4 q5
            obtain ⟨q0, q1, q2, q3, q4, q5⟩ := Bk.c6 hB9
            go_wp2_with fail
            refine (HK.out _ h9).mono ?_
            rintro e w10 ⟨rfl, hf10⟩
            have h10 := (h9.frm0 hf10).frm0 ((Frm.refl _ w10).alloc (.cells #[.int .i64 r0, .int .i64 r1, .int .i64 r2, .string r3, .string r4, .string r5, .string r6] 84))
            have hF10 := (hF9.trans hf10).alloc (.cells #[.int .i64 r0, .int .i64 r1, .int .i64 r2, .string r3, .string r4, .string r5, .string r6] 84)
            have hB10 := Bk.alloc (hf10.blk hB9 (fun h => h)) (.cells #[.int .i64 r0, .int .i64 r1, .int .i64 r2, .string r3, .string r4, .string r5, .string r6] 84)
            have hD10 := Bk.alloc (hf10.blk hD9 (fun h => h)) (.cells #[.int .i64 r0, .int .i64 r1, .int .i64 r2, .string r3, .string r4, .string r5, .string r6] 84)
            clear q0 q1 q2 q3 q4 q5
            obtain ⟨q0, q1, q2, q3, q4, q5⟩ := Bk.c6 hB10
            have hw9 : wr.heap.size + 1 ≤ w9.heap.size := by have := hf9.size; simp at this; omega
            have hw10 : w9.heap.size + 1 ≤ w10.heap.size := by have := hf10.size; simp at this; omega
            go_wp2_with fail
            refine (HH.out _ h10).mono ?_
            rintro e w11 ⟨ls', rfl, h11, hv11, hl11, _, hf11⟩
            have hF11 := h10.outs hF10 hcb (hf11.mono (fun i _ e => .inr e))
            have hne : ∀ k, wr.heap.size ≤ k → v.ownBlock ≠ some k := fun k hk e => by have := (hC.own k e).2; omega
            have hB11 := hf11.blk hB10 (hne _ (by omega))
            have hD11 := hf11.blk hD10 (hne _ (by omega))
            clear q0 q1 q2 q3 q4 q5
            obtain ⟨q0, q1, q2, q3, q4, q5⟩ := Bk.c6 hB11
            have HT2 := Lib.hid (told_to (t := some ⟨t0, t1, t2, t3, t4, t5⟩) h11 (by omega) (by rw [hv11]; exact hv9))
            unfold anV at HT2
            simp only [Option.getD_none, Option.getD_some, Option.isSome_none, Option.isSome_some] at HT2
            clear hv11 hv9 HT HK HH
            go_wp2_with fail
            refine HT2.out.mono ?_
            rintro e w12 ⟨rfl, hf12⟩
            have h12 := (h11.frm0 hf12).frm0 ((Frm.refl _ w12).alloc (.cells #[.int .i64 t0, .int .i64 t1, .int .i64 t2, .string t3, .int .i64 t4, .int .i64 t5] 86))
            have hF12 := (hF11.trans hf12).alloc (.cells #[.int .i64 t0, .int .i64 t1, .int .i64 t2, .string t3, .int .i64 t4, .int .i64 t5] 86)
            have hB12 := Bk.alloc (hf12.blk hB11 (fun h => h)) (.cells #[.int .i64 t0, .int .i64 t1, .int .i64 t2, .string t3, .int .i64 t4, .int .i64 t5] 86)
            have hD12 := Bk.alloc (hf12.blk hD11 (fun h => h)) (.cells #[.int .i64 t0, .int .i64 t1, .int .i64 t2, .string t3, .int .i64 t4, .int .i64 t5] 86)
            clear q0 q1 q2 q3 q4 q5 HT2 hB11 hD11 hB10 hD10 hB9 hD9 hB8
            obtain ⟨q0, q1, q2, q3, q4, q5⟩ := Bk.c6 hB12
            obtain ⟨p0, p1, p2, p3, p4, p5⟩ := Bk.c6 hD12
            have E2 := Lib.hid (fun w => ne_an ⟨t0, t1, t2, t3, t4, t5⟩ w)
            unfold anV at E2
            simp only at E2
            have E3 := E2.out
            clear E2
            go_wp2_with fail
            go_roundw
            case rel => exact ⟨k + 1, v, ls', by omega, by go_num, h12, by omega, hF12⟩
            case measure => simp [intOf]; omega
          · simp only at e1 hAsked hTold
            have d1 : (z0 == id) = true := beq_iff_eq.2 e1
            have d2 : (z0 != id) = false := by rw [bne, d1]; rfl
            clear e1
            go_wp2_with fail
            have HT := Lib.hid (fun w' (h : Cl w' cb id v ls) => told_to h (by omega) hTold)
            have HK := Lib.hid (fun w' (h : Cl w' cb id v ls) => asked_to h (by omega) hAsked)
            have HH := Lib.hid (fun w' (h : Cl w' cb id v ls) => hear_to (y := (⟨z0, z1, z2, z3, z4, z5⟩ : An)) (vs := vHeard id (vw ls) (⟨z0, z1, z2, z3, z4, z5⟩ : An)) h (by omega) hHear rfl)
            unfold anV an0 at HT
            unfold rqV at HK
            unfold anV at HH
            simp only [Option.getD_none, Option.getD_some, Option.isSome_none, Option.isSome_some] at HT HK HH
            have hv9 : vTold (vHeard id (vw ls) (⟨z0, z1, z2, z3, z4, z5⟩ : An)) z1 = some (⟨z0, z1, z2, z3, z4, z5⟩ : An) := heard_ok hHear
            clear hTold hAsked hHear
            refine (HT.out _ h8).mono ?_
            rintro e w9 ⟨rfl, hf9⟩
            have h9 := (h8.frm0 hf9).frm0 ((Frm.refl _ w9).alloc (.cells #[.int .i64 0, .int .i64 0, .int .i64 0, .string ⟨#[]⟩, .int .i64 0, .int .i64 0] 86))
            have hF9 := (hF8.trans hf9).alloc (.cells #[.int .i64 0, .int .i64 0, .int .i64 0, .string ⟨#[]⟩, .int .i64 0, .int .i64 0] 86)
            have hB9 := Bk.alloc (hf9.blk hB8 (fun h => h)) (.cells #[.int .i64 0, .int .i64 0, .int .i64 0, .string ⟨#[]⟩, .int .i64 0, .int .i64 0] 86)
            have hD9 := Bk.new w9 (.cells #[.int .i64 0, .int .i64 0, .int .i64 0, .string ⟨#[]⟩, .int .i64 0, .int .i64 0] 86)
            clear q0 q1 q2 q3 q4 q5
            obtain ⟨q0, q1, q2, q3, q4, q5⟩ := Bk.c6 hB9
            go_wp2_with fail
            refine (HK.out _ h9).mono ?_
            rintro e w10 ⟨rfl, hf10⟩
            have h10 := (h9.frm0 hf10).frm0 ((Frm.refl _ w10).alloc (.cells #[.int .i64 r0, .int .i64 r1, .int .i64 r2, .string r3, .string r4, .string r5, .string r6] 84))
            have hF10 := (hF9.trans hf10).alloc (.cells #[.int .i64 r0, .int .i64 r1, .int .i64 r2, .string r3, .string r4, .string r5, .string r6] 84)
            have hB10 := Bk.alloc (hf10.blk hB9 (fun h => h)) (.cells #[.int .i64 r0, .int .i64 r1, .int .i64 r2, .string r3, .string r4, .string r5, .string r6] 84)
            have hD10 := Bk.alloc (hf10.blk hD9 (fun h => h)) (.cells #[.int .i64 r0, .int .i64 r1, .int .i64 r2, .string r3, .string r4, .string r5, .string r6] 84)
            clear q0 q1 q2 q3 q4 q5
            obtain ⟨q0, q1, q2, q3, q4, q5⟩ := Bk.c6 hB10
            have hw9 : wr.heap.size + 1 ≤ w9.heap.size := by have := hf9.size; simp at this; omega
            have hw10 : w9.heap.size + 1 ≤ w10.heap.size := by have := hf10.size; simp at this; omega
            go_wp2_with fail
            refine (HH.out _ h10).mono ?_
            rintro e w11 ⟨ls', rfl, h11, hv11, hl11, _, hf11⟩
            have hF11 := h10.outs hF10 hcb (hf11.mono (fun i _ e => .inr e))
            have hne : ∀ k, wr.heap.size ≤ k → v.ownBlock ≠ some k := fun k hk e => by have := (hC.own k e).2; omega
            have hB11 := hf11.blk hB10 (hne _ (by omega))
            have hD11 := hf11.blk hD10 (hne _ (by omega))
            clear q0 q1 q2 q3 q4 q5
            obtain ⟨q0, q1, q2, q3, q4, q5⟩ := Bk.c6 hB11
            have HT2 := Lib.hid (told_to (t := some (⟨z0, z1, z2, z3, z4, z5⟩ : An)) h11 (by omega) (by rw [hv11]; exact hv9))
            unfold anV at HT2
            simp only [Option.getD_none, Option.getD_some, Option.isSome_none, Option.isSome_some] at HT2
            clear hv11 hv9 HT HK HH
            go_wp2_with fail
            refine HT2.out.mono ?_
            rintro e w12 ⟨rfl, hf12⟩
            have h12 := (h11.frm0 hf12).frm0 ((Frm.refl _ w12).alloc (.cells #[.int .i64 z0, .int .i64 z1, .int .i64 z2, .string z3, .int .i64 z4, .int .i64 z5] 86))
            have hF12 := (hF11.trans hf12).alloc (.cells #[.int .i64 z0, .int .i64 z1, .int .i64 z2, .string z3, .int .i64 z4, .int .i64 z5] 86)
            have hB12 := Bk.alloc (hf12.blk hB11 (fun h => h)) (.cells #[.int .i64 z0, .int .i64 z1, .int .i64 z2, .string z3, .int .i64 z4, .int .i64 z5] 86)
            have hD12 := Bk.alloc (hf12.blk hD11 (fun h => h)) (.cells #[.int .i64 z0, .int .i64 z1, .int .i64 z2, .string z3, .int .i64 z4, .int .i64 z5] 86)
            clear q0 q1 q2 q3 q4 q5 HT2 hB11 hD11 hB10 hD10 hB9 hD9 hB8
            obtain ⟨q0, q1, q2, q3, q4, q5⟩ := Bk.c6 hB12
            obtain ⟨p0, p1, p2, p3, p4, p5⟩ := Bk.c6 hD12
            have E2 := Lib.hid (fun w => ne_an ⟨z0, z1, z2, z3, z4, z5⟩ w)
            unfold anV at E2
            simp only at E2
            have E3 := E2.out
            clear E2
            go_wp2_with fail
            go_roundw
            case rel => exact ⟨k + 1, v, ls', by omega, by go_num, h12, by omega, hF12⟩
            case measure => simp [intOf]; omega
    · obtain rfl : k = l.length := by omega
      have N1 := Lib.hid (fun w => ask_nil rq0 w)
      have N2 := Lib.hid (fun w => asked_nil 1 w)
      have N3 := Lib.hid (fun w => told_nil 1 w)
      have N4 := Lib.hid (fun w => again_nil 1 0 0 w)
      have N5 := Lib.hid (fun w => hear_nil an0 w)
      unfold rqV rq0 at N1 N2 N4
      unfold anV an0 at N3 N5
      simp only at N1 N2 N3 N4 N5
      go_wp2_with fail
      refine (N1.out _).mono ?_
      rintro e v1 ⟨rfl, g1⟩
      go_wp2_with fail
      refine (N2.out _).mono ?_
      rintro e v2 ⟨rfl, g2⟩
      go_wp2_with fail
      refine (N3.out _).mono ?_
      rintro e v3 ⟨rfl, g3⟩
      go_wp2_with fail
      refine (N4.out _).mono ?_
      rintro e v4 ⟨rfl, g4⟩
      go_wp2_with fail
      refine (N5.out _).mono ?_
      rintro e v5 ⟨rfl, g5⟩
      go_wp2_with fail
      refine (last_nil _).mono ?_
      rintro e v6 ⟨rfl, rfl⟩
      go_wp2_with fail
      refine (open_nil _).mono ?_
      rintro e v7 ⟨rfl, rfl⟩
      go_wp2
      go_ret
      exact ⟨rfl, ((((((((hF.trans g1).alloc _).trans g2).alloc _).trans g3).alloc _).trans g4).alloc _ |>.trans g5).below (fun _ _ h => h)⟩
end Go.Proofs.Yteokiiolchpndaa
