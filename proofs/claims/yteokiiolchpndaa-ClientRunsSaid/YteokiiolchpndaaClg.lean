/- The client: contracts of Again and Open. -/
import Derived.Test.YteokiiolchpndaaClf
namespace Go.Proofs.Yteokiiolchpndaa
open Go.RowKit
set_option linter.unusedVariables false
set_option linter.unusedSimpArgs false
section
variable {w : World} {cb : Nat} {id : Int} {v : Value} {ls : List Ln}
theorem again_no {s at_ now : Int} {p : Option Addr} {y : An} {b : Bool} (HT : ∀ w1, Frm0 w w1 → Calls Try.prog 45 #[.pointer p, .int .i64 s] w1 fun e w' => e = .returned (.tuple #[anV y, .bool b]) ∧ Frm0 w1 w')
    (hc : b = false ∨ (b = true ∧ (fin y = true ∨ y.after < 1 ∨ pst now (plus at_ y.after) = false))) :
    Calls Try.prog 46 #[.pointer p, .int .i64 s, .int .i64 at_, .int .i64 now] w fun e w' => e = .returned (.tuple #[rqV rq0, .bool false]) ∧ Frm0 w w' := by
  have hF0 := (Frm.refl (fun _ => False) w).alloc (.cells #[.int .i64 0, .int .i64 0, .int .i64 0, .string ⟨#[]⟩, .string ⟨#[]⟩, .string ⟨#[]⟩, .string ⟨#[]⟩] 84)
  have HT := Lib.hid (HT _ hF0)
  have HFI := Lib.hid (fun w => final_any y w)
  have HPL := Lib.hid (fun w => plus_any at_ y.after w)
  have HPA := Lib.hid (fun w => past_any now (plus at_ y.after) w)
  obtain ⟨z0, z1, z2, z3, z4, z5⟩ := y
  simp only at HT HPL HPA hc
  unfold anV at HT HFI
  simp only at HT HFI
  generalize fin ⟨z0, z1, z2, z3, z4, z5⟩ = q at *
  generalize pst now (plus at_ z4) = q2 at *
  generalize plus at_ z4 = pl at *
  have hcs : b = false ∨ (b = true ∧ q = true) ∨ (b = true ∧ q = false ∧ decide (z4 < 1) = true) ∨ (b = true ∧ q = false ∧ decide (z4 < 1) = false ∧ q2 = false) := by
    rcases hc with rfl | ⟨rfl, hc⟩
    · exact .inl rfl
    · cases q
      · by_cases h4 : z4 < 1
        · exact .inr (.inr (.inl ⟨rfl, rfl, decide_eq_true h4⟩))
        · refine .inr (.inr (.inr ⟨rfl, rfl, decide_eq_false h4, ?_⟩))
          rcases hc with h | h | h
          · cases h
          · exact absurd h h4
          · exact h
      · exact .inr (.inl ⟨rfl, rfl⟩)
  clear hc
  unfold rqV rq0
  simp only
  rcases hcs with rfl | ⟨rfl, rfl⟩ | ⟨rfl, rfl, d1⟩ | ⟨rfl, rfl, d1, rfl⟩
  · go_enter Try.func46, Try.ntmps46
    go_wp2_with fail
    refine HT.out.mono ?_
    rintro e w1 ⟨rfl, hf1⟩
    have hF := hF0.trans hf1
    have hb := hf1.blk (Bk.new w _) (fun h => h)
    have hlt := Bk.lt hb
    have hbA := Bk.new w1 (.cells #[.int .i64 z0, .int .i64 z1, .int .i64 z2, .string z3, .int .i64 z4, .int .i64 z5] 86)
    have hF1 := hF.alloc (.cells #[.int .i64 z0, .int .i64 z1, .int .i64 z2, .string z3, .int .i64 z4, .int .i64 z5] 86)
    have hb1 := Bk.alloc hb (.cells #[.int .i64 z0, .int .i64 z1, .int .i64 z2, .string z3, .int .i64 z4, .int .i64 z5] 86)
    obtain ⟨a0, a1, a2, a3, a4, a5⟩ := Bk.c6 hbA
    have hbX := hb1
    have hFX := hF1
    go_wp2_with (refine wpList_store_blk rfl 84 (.tmp 8) (.tmp 38) rfl hbX rfl rfl iRq rfl rfl rfl ?_; intro w10 hb10 hf10)
    (try simp only [Exit.inBlock, Exit.then])
    refine ret_cell1 rfl Try.underlying84 rfl iRq hb10 rfl rfl rfl rfl ?_
    exact ⟨rfl, hFX.then_ hf10 (fun i hi e => by omega)⟩
  · go_enter Try.func46, Try.ntmps46
    go_wp2_with fail
    refine HT.out.mono ?_
    rintro e w1 ⟨rfl, hf1⟩
    have hF := hF0.trans hf1
    have hb := hf1.blk (Bk.new w _) (fun h => h)
    have hlt := Bk.lt hb
    have hbA := Bk.new w1 (.cells #[.int .i64 z0, .int .i64 z1, .int .i64 z2, .string z3, .int .i64 z4, .int .i64 z5] 86)
    have hF1 := hF.alloc (.cells #[.int .i64 z0, .int .i64 z1, .int .i64 z2, .string z3, .int .i64 z4, .int .i64 z5] 86)
    have hb1 := Bk.alloc hb (.cells #[.int .i64 z0, .int .i64 z1, .int .i64 z2, .string z3, .int .i64 z4, .int .i64 z5] 86)
    obtain ⟨a0, a1, a2, a3, a4, a5⟩ := Bk.c6 hbA
    go_wp2_with fail
    refine (HFI.out _).mono ?_
    rintro e w3 ⟨rfl, hf3⟩
    have hbA3 := hf3.blk hbA (fun h => h)
    have hFX := hF1.trans hf3
    have hbX := hf3.blk hb1 (fun h => h)
    clear a0 a1 a2 a3 a4 a5
    obtain ⟨a0, a1, a2, a3, a4, a5⟩ := Bk.c6 hbA3
    go_wp2_with (refine wpList_store_blk rfl 84 (.tmp 8) (.tmp 38) rfl hbX rfl rfl iRq rfl rfl rfl ?_; intro w10 hb10 hf10)
    (try simp only [Exit.inBlock, Exit.then])
    refine ret_cell1 rfl Try.underlying84 rfl iRq hb10 rfl rfl rfl rfl ?_
    exact ⟨rfl, hFX.then_ hf10 (fun i hi e => by omega)⟩
  · go_enter Try.func46, Try.ntmps46
    go_wp2_with fail
    refine HT.out.mono ?_
    rintro e w1 ⟨rfl, hf1⟩
    have hF := hF0.trans hf1
    have hb := hf1.blk (Bk.new w _) (fun h => h)
    have hlt := Bk.lt hb
    have hbA := Bk.new w1 (.cells #[.int .i64 z0, .int .i64 z1, .int .i64 z2, .string z3, .int .i64 z4, .int .i64 z5] 86)
    have hF1 := hF.alloc (.cells #[.int .i64 z0, .int .i64 z1, .int .i64 z2, .string z3, .int .i64 z4, .int .i64 z5] 86)
    have hb1 := Bk.alloc hb (.cells #[.int .i64 z0, .int .i64 z1, .int .i64 z2, .string z3, .int .i64 z4, .int .i64 z5] 86)
    obtain ⟨a0, a1, a2, a3, a4, a5⟩ := Bk.c6 hbA
    go_wp2_with fail
    refine (HFI.out _).mono ?_
    rintro e w3 ⟨rfl, hf3⟩
    have hbA3 := hf3.blk hbA (fun h => h)
    have hFX := hF1.trans hf3
    have hbX := hf3.blk hb1 (fun h => h)
    clear a0 a1 a2 a3 a4 a5
    obtain ⟨a0, a1, a2, a3, a4, a5⟩ := Bk.c6 hbA3
    go_wp2_with (refine wpList_store_blk rfl 84 (.tmp 8) (.tmp 38) rfl hbX rfl rfl iRq rfl rfl rfl ?_; intro w10 hb10 hf10)
    (try simp only [Exit.inBlock, Exit.then])
    refine ret_cell1 rfl Try.underlying84 rfl iRq hb10 rfl rfl rfl rfl ?_
    exact ⟨rfl, hFX.then_ hf10 (fun i hi e => by omega)⟩
  · go_enter Try.func46, Try.ntmps46
    go_wp2_with fail
    refine HT.out.mono ?_
    rintro e w1 ⟨rfl, hf1⟩
    have hF := hF0.trans hf1
    have hb := hf1.blk (Bk.new w _) (fun h => h)
    have hlt := Bk.lt hb
    have hbA := Bk.new w1 (.cells #[.int .i64 z0, .int .i64 z1, .int .i64 z2, .string z3, .int .i64 z4, .int .i64 z5] 86)
    have hF1 := hF.alloc (.cells #[.int .i64 z0, .int .i64 z1, .int .i64 z2, .string z3, .int .i64 z4, .int .i64 z5] 86)
    have hb1 := Bk.alloc hb (.cells #[.int .i64 z0, .int .i64 z1, .int .i64 z2, .string z3, .int .i64 z4, .int .i64 z5] 86)
    obtain ⟨a0, a1, a2, a3, a4, a5⟩ := Bk.c6 hbA
    go_wp2_with fail
    refine (HFI.out _).mono ?_
    rintro e w3 ⟨rfl, hf3⟩
    have hbA3 := hf3.blk hbA (fun h => h)
    have hFX := hF1.trans hf3
    have hbX := hf3.blk hb1 (fun h => h)
    clear a0 a1 a2 a3 a4 a5
    obtain ⟨a0, a1, a2, a3, a4, a5⟩ := Bk.c6 hbA3
    go_wp2_with fail
    refine (HPL.out _).mono ?_
    rintro e w4 ⟨rfl, rfl⟩
    go_wp2_with fail
    refine (HPA.out _).mono ?_
    rintro e w4 ⟨rfl, rfl⟩
    go_wp2_with (refine wpList_store_blk rfl 84 (.tmp 8) (.tmp 38) rfl hbX rfl rfl iRq rfl rfl rfl ?_; intro w10 hb10 hf10)
    (try simp only [Exit.inBlock, Exit.then])
    refine ret_cell1 rfl Try.underlying84 rfl iRq hb10 rfl rfl rfl rfl ?_
    exact ⟨rfl, hFX.then_ hf10 (fun i hi e => by omega)⟩
theorem again_yes {s at_ now : Int} {p : Option Addr} {y : An} {r : Rq} (HT : ∀ w1, Frm0 w w1 → Calls Try.prog 45 #[.pointer p, .int .i64 s] w1 fun e w' => e = .returned (.tuple #[anV y, .bool true]) ∧ Frm0 w1 w')
    (HK : ∀ w1, Frm0 w w1 → Calls Try.prog 44 #[.pointer p, .int .i64 s] w1 fun e w' => e = .returned (.tuple #[rqV r, .bool true]) ∧ Frm0 w1 w')
    (h1 : fin y = false) (h2 : ¬ y.after < 1) (h3 : pst now (plus at_ y.after) = true) :
    Calls Try.prog 46 #[.pointer p, .int .i64 s, .int .i64 at_, .int .i64 now] w fun e w' => e = .returned (.tuple #[rqV r, .bool true]) ∧ Frm0 w w' := by
  have hF0 := (Frm.refl (fun _ => False) w).alloc (.cells #[.int .i64 0, .int .i64 0, .int .i64 0, .string ⟨#[]⟩, .string ⟨#[]⟩, .string ⟨#[]⟩, .string ⟨#[]⟩] 84)
  have HT := Lib.hid (HT _ hF0)
  have HK := Lib.hid HK
  have HFI := Lib.hid (fun w => final_any y w)
  have HPL := Lib.hid (fun w => plus_any at_ y.after w)
  have HPA := Lib.hid (fun w => past_any now (plus at_ y.after) w)
  rw [h1] at HFI
  rw [h3] at HPA
  clear h1 h3
  obtain ⟨z0, z1, z2, z3, z4, z5⟩ := y
  obtain ⟨y0, y1, y2, y3, y4, y5, y6⟩ := r
  simp only at HT HPL HPA h2
  unfold anV at HT HFI
  unfold rqV at HK ⊢
  simp only at HT HFI HK ⊢
  generalize plus at_ z4 = pl at *
  have d1 : decide (z4 < 1) = false := decide_eq_false h2
  clear h2
  go_enter Try.func46, Try.ntmps46
  go_wp2_with fail
  refine HT.out.mono ?_
  rintro e w1 ⟨rfl, hf1⟩
  have hF := hF0.trans hf1
  have hb := hf1.blk (Bk.new w _) (fun h => h)
  have hlt := Bk.lt hb
  have hbA := Bk.new w1 (.cells #[.int .i64 z0, .int .i64 z1, .int .i64 z2, .string z3, .int .i64 z4, .int .i64 z5] 86)
  have hF1 := hF.alloc (.cells #[.int .i64 z0, .int .i64 z1, .int .i64 z2, .string z3, .int .i64 z4, .int .i64 z5] 86)
  have hb1 := Bk.alloc hb (.cells #[.int .i64 z0, .int .i64 z1, .int .i64 z2, .string z3, .int .i64 z4, .int .i64 z5] 86)
  obtain ⟨a0, a1, a2, a3, a4, a5⟩ := Bk.c6 hbA
  go_wp2_with fail
  refine (HFI.out _).mono ?_
  rintro e w3 ⟨rfl, hf3⟩
  have hbA3 := hf3.blk hbA (fun h => h)
  have hFX := hF1.trans hf3
  have hbX := hf3.blk hb1 (fun h => h)
  clear a0 a1 a2 a3 a4 a5
  obtain ⟨a0, a1, a2, a3, a4, a5⟩ := Bk.c6 hbA3
  go_wp2_with fail
  refine (HPL.out _).mono ?_
  rintro e w4 ⟨rfl, rfl⟩
  go_wp2_with fail
  refine (HPA.out _).mono ?_
  rintro e w4 ⟨rfl, rfl⟩
  go_wp2_with fail
  refine (HK.out _ hFX).mono ?_
  rintro e w5 ⟨rfl, hf5⟩
  have hbX5 := hf5.blk hbX (fun h => h)
  have hFX5 := hFX.trans hf5
  go_wp2_with (refine wpList_store_blk rfl 84 (.tmp 8) (.tmp 42) rfl hbX5 rfl rfl iRq rfl rfl rfl ?_; intro w10 hb10 hf10)
  (try simp only [Exit.inBlock, Exit.then])
  refine ret_cell1 rfl Try.underlying84 rfl iRq hb10 rfl rfl rfl rfl ?_
  exact ⟨rfl, hFX5.then_ hf10 (fun i hi e => by omega)⟩
theorem again_any (h : Cl w cb id v ls) (hl : ls.length ≤ 1000000) (s at_ now : Int) :
    Calls Try.prog 46 #[.pointer (some ⟨cb, 0, none⟩), .int .i64 s, .int .i64 at_, .int .i64 now] w fun e w' => e = .returned (.tuple #[rqV ((vAgain (vw ls) s at_ now).getD rq0), .bool (vAgain (vw ls) s at_ now).isSome]) ∧ Frm0 w w' := by
  have HT : ∀ w1, Frm0 w w1 → _ := fun w1 hf => told_any (h.frm0 hf) hl s
  have HK : ∀ w1, Frm0 w w1 → _ := fun w1 hf => asked_any (h.frm0 hf) hl s
  unfold vAgain
  cases ht : vTold (vw ls) s with
  | none =>
    simp only [ht] at HT
    exact again_no HT (.inl rfl)
  | some y =>
    simp only [ht] at HT
    simp only
    by_cases hc : fin y = true ∨ y.after < 1 ∨ pst now (plus at_ y.after) = false
    · rw [if_pos hc]
      exact again_no HT (.inr ⟨rfl, hc⟩)
    · rw [if_neg hc]
      simp only [not_or, Bool.not_eq_true, Bool.not_eq_false] at hc
      cases hk : vAsked (vw ls) s with
      | none =>
        unfold vTold at ht
        unfold vAsked at hk
        cases he : vAt (vw ls) s with
        | none => rw [he] at ht; simp at ht
        | some z => rw [he] at hk; simp at hk
      | some r =>
        simp only [hk] at HK
        exact again_yes HT HK hc.1 hc.2.1 hc.2.2
theorem again_nil (s at_ now : Int) (w : World) : Calls Try.prog 46 #[.pointer none, .int .i64 s, .int .i64 at_, .int .i64 now] w fun e w' => e = .returned (.tuple #[rqV rq0, .bool false]) ∧ Frm0 w w' :=
  again_no (fun w1 _ => told_nil s w1) (.inl rfl)
end
end Go.Proofs.Yteokiiolchpndaa
