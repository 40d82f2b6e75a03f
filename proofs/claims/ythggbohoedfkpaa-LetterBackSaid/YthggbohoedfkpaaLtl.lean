/- Letters: what is opened: the walk. -/
import Derived.Test.YthggbohoedfkpaaLtk
namespace Go.Proofs.Ythggbohoedfkpaa
open Go.RowKit Pk
set_option linter.unusedVariables false
set_option linter.unusedSimpArgs false
set_option maxRecDepth 100000
namespace Lt
def l0 : Ltr := ⟨0, rq0, an0, cl0, rp0⟩
/-- What Open answers. -/
def opened (r : Option Ltr) : Ending := .returned (.tuple #[.agg (r.getD l0).cells.toArray, .int .i64 (if r.isSome then 0 else 3)])
section
variable {w w1 : World}
set_option maxHeartbeats 4000000 in
theorem open_letter (s : ByteArray) (hs : s.size ≤ 10000) (w : World) : Calls Try.prog 16 #[.string s] w fun e w' => ∃ r : Option Ltr, e = opened r ∧ Frm0 w w' ∧ OSpec s r := by
  have hz0 := Bk.new w (.cells #[.int .i64 0, .int .i64 0, .int .i64 0, .int .i64 0, .string ⟨#[]⟩, .string ⟨#[]⟩, .string ⟨#[]⟩, .string ⟨#[]⟩, .int .i64 0, .int .i64 0, .int .i64 0, .string ⟨#[]⟩, .int .i64 0, .int .i64 0, .int .i64 0, .string ⟨#[]⟩, .int .i64 0, .int .i64 0, .int .i64 0, .string ⟨#[]⟩, .string ⟨#[]⟩, .int .i64 0, .string ⟨#[]⟩, .int .i64 0, .int .i64 0, .int .i64 0, .int .i64 0] 31)
  have hF0 := (Frm.refl (fun _ => False) w).alloc (.cells #[.int .i64 0, .int .i64 0, .int .i64 0, .int .i64 0, .string ⟨#[]⟩, .string ⟨#[]⟩, .string ⟨#[]⟩, .string ⟨#[]⟩, .int .i64 0, .int .i64 0, .int .i64 0, .string ⟨#[]⟩, .int .i64 0, .int .i64 0, .int .i64 0, .string ⟨#[]⟩, .int .i64 0, .int .i64 0, .int .i64 0, .string ⟨#[]⟩, .string ⟨#[]⟩, .int .i64 0, .string ⟨#[]⟩, .int .i64 0, .int .i64 0, .int .i64 0, .int .i64 0] 31)
  have hsz : (w.alloc (.cells #[.int .i64 0, .int .i64 0, .int .i64 0, .int .i64 0, .string ⟨#[]⟩, .string ⟨#[]⟩, .string ⟨#[]⟩, .string ⟨#[]⟩, .int .i64 0, .int .i64 0, .int .i64 0, .string ⟨#[]⟩, .int .i64 0, .int .i64 0, .int .i64 0, .string ⟨#[]⟩, .int .i64 0, .int .i64 0, .int .i64 0, .string ⟨#[]⟩, .string ⟨#[]⟩, .int .i64 0, .string ⟨#[]⟩, .int .i64 0, .int .i64 0, .int .i64 0, .int .i64 0] 31)).heap.size = w.heap.size + 1 := by simp
  go_enter Try.func16, Try.ntmps16
  go_wp2_with fail
  generalize w.alloc (.cells #[.int .i64 0, .int .i64 0, .int .i64 0, .int .i64 0, .string ⟨#[]⟩, .string ⟨#[]⟩, .string ⟨#[]⟩, .string ⟨#[]⟩, .int .i64 0, .int .i64 0, .int .i64 0, .string ⟨#[]⟩, .int .i64 0, .int .i64 0, .int .i64 0, .string ⟨#[]⟩, .int .i64 0, .int .i64 0, .int .i64 0, .string ⟨#[]⟩, .string ⟨#[]⟩, .int .i64 0, .string ⟨#[]⟩, .int .i64 0, .int .i64 0, .int .i64 0, .int .i64 0] 31) = w0 at *
  generalize hrb : w.heap.size = rb at *
  refine (open_any s w0).mono ?_
  rintro e w1 ⟨rfl, hO1, hf1⟩
  have hr1 := hf1.blk hz0 (fun h => h)
  have hF1 := hF0.trans hf1
  rw [hsz] at hO1 ⊢
  have hob1 := hO1.lt
  obtain ⟨ob, hob⟩ : ∃ ob, rb + 1 = ob := ⟨_, rfl⟩
  rw [hob] at hO1 hob1 ⊢
  have hr2 := ((Frm.refl (fun _ => False) w1).alloc (.cells #[.pointer none, .pointer (some ⟨ob, 0, none⟩), .bool true] 87)).blk hr1 (fun h => h)
  have hO2 : OO (w1.alloc (.cells #[.pointer none, .pointer (some ⟨ob, 0, none⟩), .bool true] 87)) ob (some s) := ⟨hO1.frm ((Frm.refl (fun _ => False) w1).alloc (.cells #[.pointer none, .pointer (some ⟨ob, 0, none⟩), .bool true] 87)) (fun h => h), fun t ht => by cases ht; exact hs⟩
  have hdk2 := Bk.new w1 (.cells #[.pointer none, .pointer (some ⟨ob, 0, none⟩), .bool true] 87)
  have hF2 := hF1.alloc (.cells #[.pointer none, .pointer (some ⟨ob, 0, none⟩), .bool true] 87)
  go_wp2_with fail
  generalize w1.alloc (.cells #[.pointer none, .pointer (some ⟨ob, 0, none⟩), .bool true] 87) = w2 at *
  generalize hd : w1.heap.size = d at *
  clear hsz hF0 hz0 hf1 hF1 hr1 hO1 hd w0 w1
  obtain ⟨y1, oA, eA⟩ : ∃ x o', oN 1 (some s) = (x, o') := ⟨_, _, rfl⟩
  refine (onum_any 1 hO2 (by decide) eA).mono ?_
  rintro e w3 ⟨rfl, hO3, hf3⟩
  have hr3 := hf3.blk hr2 (show ¬ rb = ob by omega)
  have hdk3 := hf3.blk hdk2 (show ¬ d = ob by omega)
  have hF3 := hF2.then_ hf3 (fun i hi e => by omega)
  obtain ⟨d0, d1, d2⟩ := Bk.c3 hdk3
  clear hr2 hdk2 hF2 hf3 hO2 w2
  go_wp2_with fail
  obtain ⟨k, oB, eB⟩ : ∃ x o', oN 4 oA = (x, o') := ⟨_, _, rfl⟩
  have hk : 0 ≤ k ∧ k ≤ 4 := by
    cases oA with
    | none => simp only [oN, Prod.mk.injEq] at eB; omega
    | some u =>
      cases hg : gn u with
      | none => simp only [oN, hg, Prod.mk.injEq] at eB; omega
      | some p =>
        obtain ⟨n, t⟩ := p
        by_cases hl : (n : Int) ≤ 4
        · simp only [oN, hg, if_pos hl, Prod.mk.injEq] at eB; omega
        · simp only [oN, hg, if_neg hl, Prod.mk.injEq] at eB; omega
  have hd2 : decs [.n 1, .n 4] (some s) = ([.i y1, .i k], oB) := by simp only [decs, Fl.dec, eA, eB]
  clear eA
  refine (onum_any 4 hO3 (by decide) eB).mono ?_
  rintro e w4 ⟨rfl, hO4, hf4⟩
  have hr4 := hf4.blk hr3 (show ¬ rb = ob by omega)
  have hdk4 := hf4.blk hdk3 (show ¬ d = ob by omega)
  have hF4 := hF3.then_ hf4 (fun i hi e => by omega)
  have hdlt := Bk.lt hdk4
  clear eB hO3 hf4 hF3 hr3 hdk3 d0 d1 d2 w3
  have hz5 := Bk.new w4 (.cells #[.int .i64 0, .int .i64 0, .int .i64 0, .int .i64 0, .string ⟨#[]⟩, .string ⟨#[]⟩, .string ⟨#[]⟩, .string ⟨#[]⟩, .int .i64 0, .int .i64 0, .int .i64 0, .string ⟨#[]⟩, .int .i64 0, .int .i64 0, .int .i64 0, .string ⟨#[]⟩, .int .i64 0, .int .i64 0, .int .i64 0, .string ⟨#[]⟩, .string ⟨#[]⟩, .int .i64 0, .string ⟨#[]⟩, .int .i64 0, .int .i64 0, .int .i64 0, .int .i64 0] 31)
  have hr5' := ((Frm.refl (fun _ => False) w4).alloc (.cells #[.int .i64 0, .int .i64 0, .int .i64 0, .int .i64 0, .string ⟨#[]⟩, .string ⟨#[]⟩, .string ⟨#[]⟩, .string ⟨#[]⟩, .int .i64 0, .int .i64 0, .int .i64 0, .string ⟨#[]⟩, .int .i64 0, .int .i64 0, .int .i64 0, .string ⟨#[]⟩, .int .i64 0, .int .i64 0, .int .i64 0, .string ⟨#[]⟩, .string ⟨#[]⟩, .int .i64 0, .string ⟨#[]⟩, .int .i64 0, .int .i64 0, .int .i64 0, .int .i64 0] 31)).blk hr4 (fun h => h)
  have hdk5' := ((Frm.refl (fun _ => False) w4).alloc (.cells #[.int .i64 0, .int .i64 0, .int .i64 0, .int .i64 0, .string ⟨#[]⟩, .string ⟨#[]⟩, .string ⟨#[]⟩, .string ⟨#[]⟩, .int .i64 0, .int .i64 0, .int .i64 0, .string ⟨#[]⟩, .int .i64 0, .int .i64 0, .int .i64 0, .string ⟨#[]⟩, .int .i64 0, .int .i64 0, .int .i64 0, .string ⟨#[]⟩, .string ⟨#[]⟩, .int .i64 0, .string ⟨#[]⟩, .int .i64 0, .int .i64 0, .int .i64 0, .int .i64 0] 31)).blk hdk4 (fun h => h)
  have hO5' := hO4.frm ((Frm.refl (fun _ => False) w4).alloc (.cells #[.int .i64 0, .int .i64 0, .int .i64 0, .int .i64 0, .string ⟨#[]⟩, .string ⟨#[]⟩, .string ⟨#[]⟩, .string ⟨#[]⟩, .int .i64 0, .int .i64 0, .int .i64 0, .string ⟨#[]⟩, .int .i64 0, .int .i64 0, .int .i64 0, .string ⟨#[]⟩, .int .i64 0, .int .i64 0, .int .i64 0, .string ⟨#[]⟩, .string ⟨#[]⟩, .int .i64 0, .string ⟨#[]⟩, .int .i64 0, .int .i64 0, .int .i64 0, .int .i64 0] 31)) (fun h => h)
  have hF5' := hF4.alloc (.cells #[.int .i64 0, .int .i64 0, .int .i64 0, .int .i64 0, .string ⟨#[]⟩, .string ⟨#[]⟩, .string ⟨#[]⟩, .string ⟨#[]⟩, .int .i64 0, .int .i64 0, .int .i64 0, .string ⟨#[]⟩, .int .i64 0, .int .i64 0, .int .i64 0, .string ⟨#[]⟩, .int .i64 0, .int .i64 0, .int .i64 0, .string ⟨#[]⟩, .string ⟨#[]⟩, .int .i64 0, .string ⟨#[]⟩, .int .i64 0, .int .i64 0, .int .i64 0, .int .i64 0] 31)
  clear hO4 hr4 hdk4 hF4
  go_wp2_with (first
    | (refine wpList_store_blk rfl 31 (.tmp 6) (.tmp 22) rfl hz5 rfl rfl iL (us := #[.int .i64 k, .int .i64 0, .int .i64 0, .int .i64 0, .string ⟨#[]⟩, .string ⟨#[]⟩, .string ⟨#[]⟩, .string ⟨#[]⟩, .int .i64 0, .int .i64 0, .int .i64 0, .string ⟨#[]⟩, .int .i64 0, .int .i64 0, .int .i64 0, .string ⟨#[]⟩, .int .i64 0, .int .i64 0, .int .i64 0, .string ⟨#[]⟩, .string ⟨#[]⟩, .int .i64 0, .string ⟨#[]⟩, .int .i64 0, .int .i64 0, .int .i64 0, .int .i64 0]) rfl rfl rfl ?_; intro w5 hb5 hf5))
  generalize hlb : w4.heap.size = lb at *
  generalize w4.alloc (.cells #[.int .i64 0, .int .i64 0, .int .i64 0, .int .i64 0, .string ⟨#[]⟩, .string ⟨#[]⟩, .string ⟨#[]⟩, .string ⟨#[]⟩, .int .i64 0, .int .i64 0, .int .i64 0, .string ⟨#[]⟩, .int .i64 0, .int .i64 0, .int .i64 0, .string ⟨#[]⟩, .int .i64 0, .int .i64 0, .int .i64 0, .string ⟨#[]⟩, .string ⟨#[]⟩, .int .i64 0, .string ⟨#[]⟩, .int .i64 0, .int .i64 0, .int .i64 0, .int .i64 0] 31) = w4' at *
  have hlo : lb ≠ ob := by omega
  have hld : lb ≠ d := by omega
  have hdo : d ≠ ob := by omega
  have hD5 : OD w5 d ob true oB := ⟨hf5.blk hdk5' (fun e => hld e.symm), hO5'.frm hf5 (fun e => hlo e.symm)⟩
  have hr5 := hf5.blk hr5' (show ¬ rb = lb by omega)
  have hF5 := hF5'.then_ hf5 (fun i hi e => by omega)
  clear hz5 hr5' hdk5' hO5' hF5' hf5
  rcases (by omega : k = 0 ∨ k = 1 ∨ k = 2 ∨ k = 3 ∨ k = 4) with rfl | rfl | rfl | rfl | rfl
  · refine (letter_o0 hD5 hb5 (by rfl) hlo hld hdo (by rfl)).mono ?_
    rintro e w6 ⟨rfl, hD6, hf6⟩
    have hr := hf6.blk hr5 (by omega)
    have hF6 := hF5.then_ hf6 (fun i hi e => by omega)
    clear hb5 hD5 hr5 hf6
    obtain ⟨d0, d1, d2⟩ := Bk.c3 hD6.dk
    cases hq : (y1 == 1)
    · go_wp2_with (first
        | (refine wpList_store_blk rfl 31 (.tmp 2) (.tmp 42) rfl hr rfl rfl iL (us := #[.int .i64 0, .int .i64 0, .int .i64 0, .int .i64 0, .string ⟨#[]⟩, .string ⟨#[]⟩, .string ⟨#[]⟩, .string ⟨#[]⟩, .int .i64 0, .int .i64 0, .int .i64 0, .string ⟨#[]⟩, .int .i64 0, .int .i64 0, .int .i64 0, .string ⟨#[]⟩, .int .i64 0, .int .i64 0, .int .i64 0, .string ⟨#[]⟩, .string ⟨#[]⟩, .int .i64 0, .string ⟨#[]⟩, .int .i64 0, .int .i64 0, .int .i64 0, .int .i64 0]) rfl rfl rfl ?_; intro w9 hb9 hf9))
      (try simp only [Exit.inBlock, Exit.then])
      refine ret_cell1 (l := [.int .i64 0, .int .i64 0, .int .i64 0, .int .i64 0, .string ⟨#[]⟩, .string ⟨#[]⟩, .string ⟨#[]⟩, .string ⟨#[]⟩, .int .i64 0, .int .i64 0, .int .i64 0, .string ⟨#[]⟩, .int .i64 0, .int .i64 0, .int .i64 0, .string ⟨#[]⟩, .int .i64 0, .int .i64 0, .int .i64 0, .string ⟨#[]⟩, .string ⟨#[]⟩, .int .i64 0, .string ⟨#[]⟩, .int .i64 0, .int .i64 0, .int .i64 0, .int .i64 0]) rfl Try.underlying31 rfl iL hb9 rfl rfl rfl rfl ?_
      exact ⟨none, rfl, hF6.then_ hf9 (fun i hi e => by omega), spec_none (k := 0) hd2 (.inl rfl)⟩
    · go_wp2_with (first
        | (refine wpList_store_blk rfl 31 (.tmp 2) (.tmp 42) rfl hr rfl rfl iL (us := #[.int .i64 0, .int .i64 0, .int .i64 0, .int .i64 0, .string ⟨#[]⟩, .string ⟨#[]⟩, .string ⟨#[]⟩, .string ⟨#[]⟩, .int .i64 0, .int .i64 0, .int .i64 0, .string ⟨#[]⟩, .int .i64 0, .int .i64 0, .int .i64 0, .string ⟨#[]⟩, .int .i64 0, .int .i64 0, .int .i64 0, .string ⟨#[]⟩, .string ⟨#[]⟩, .int .i64 0, .string ⟨#[]⟩, .int .i64 0, .int .i64 0, .int .i64 0, .int .i64 0]) rfl rfl rfl ?_; intro w9 hb9 hf9))
      (try simp only [Exit.inBlock, Exit.then])
      refine ret_cell1 (l := [.int .i64 0, .int .i64 0, .int .i64 0, .int .i64 0, .string ⟨#[]⟩, .string ⟨#[]⟩, .string ⟨#[]⟩, .string ⟨#[]⟩, .int .i64 0, .int .i64 0, .int .i64 0, .string ⟨#[]⟩, .int .i64 0, .int .i64 0, .int .i64 0, .string ⟨#[]⟩, .int .i64 0, .int .i64 0, .int .i64 0, .string ⟨#[]⟩, .string ⟨#[]⟩, .int .i64 0, .string ⟨#[]⟩, .int .i64 0, .int .i64 0, .int .i64 0, .int .i64 0]) rfl Try.underlying31 rfl iL hb9 rfl rfl rfl rfl ?_
      exact ⟨none, rfl, hF6.then_ hf9 (fun i hi e => by omega), spec_none (k := 0) hd2 (.inl rfl)⟩
  · obtain ⟨x0, o0, e0⟩ : ∃ x o', oN 1073741824 oB = (x, o') := ⟨_, _, rfl⟩
    obtain ⟨x1, o1, e1⟩ : ∃ x o', oN 1073741824 o0 = (x, o') := ⟨_, _, rfl⟩
    obtain ⟨x2, o2, e2⟩ : ∃ x o', oN 1073741824 o1 = (x, o') := ⟨_, _, rfl⟩
    obtain ⟨x3, o3, e3⟩ : ∃ x o', oT 60 o2 = (x, o') := ⟨_, _, rfl⟩
    obtain ⟨x4, o4, e4⟩ : ∃ x o', oT 60 o3 = (x, o') := ⟨_, _, rfl⟩
    obtain ⟨x5, o5, e5⟩ : ∃ x o', oT 100 o4 = (x, o') := ⟨_, _, rfl⟩
    obtain ⟨x6, o6, e6⟩ : ∃ x o', oT 200 o5 = (x, o') := ⟨_, _, rfl⟩
    have hdk : decs (sch 1) oB = ([.i x0, .i x1, .i x2, .s x3, .s x4, .s x5, .s x6], o6) := by rw [sch1]; simp only [decs, Fl.dec, e0, e1, e2, e3, e4, e5, e6]
    refine (letter_o1 hD5 hb5 (by rfl) hlo hld hdo (by rfl) e0 e1 e2 e3 e4 e5 e6).mono ?_
    rintro e w6 ⟨rfl, hD6, hb6, hf6⟩
    have hb6 : w6.heap[lb]? = some (.cells #[.int .i64 1, .int .i64 x0, .int .i64 x1, .int .i64 x2, .string x3, .string x4, .string x5, .string x6, .int .i64 0, .int .i64 0, .int .i64 0, .string ⟨#[]⟩, .int .i64 0, .int .i64 0, .int .i64 0, .string ⟨#[]⟩, .int .i64 0, .int .i64 0, .int .i64 0, .string ⟨#[]⟩, .string ⟨#[]⟩, .int .i64 0, .string ⟨#[]⟩, .int .i64 0, .int .i64 0, .int .i64 0, .int .i64 0] 31 (0, 0)) := by
      rw [hb6]
      simp only [sets, List.setIfInBounds_toArray, List.set_cons_zero, List.set_cons_succ]
    have hr := hf6.blk hr5 (by omega)
    have hF6 := hF5.then_ hf6 (fun i hi e => by omega)
    clear hb5 hD5 hr5 hf6
    obtain ⟨d0, d1, d2⟩ := Bk.c3 hD6.dk
    by_cases hx1 : y1 = 1
    · have hq : (y1 == 1) = true := beq_iff_eq.2 hx1
      rw [hq]
      go_wp2_with fail
      refine (done_any ob _ _ _ hD6.op.op).mono ?_
      rintro e w7 ⟨rfl, rfl⟩
      cases hfin : fin o6
      · have hfin2 : (!o6.isNone && decide ((o6.getD ⟨#[]⟩).size = 0)) = false := hfin
        rw [hfin2]
        go_wp2_with (first
          | (refine wpList_store_blk rfl 31 (.tmp 2) (.tmp 42) rfl hr rfl rfl iL (us := #[.int .i64 0, .int .i64 0, .int .i64 0, .int .i64 0, .string ⟨#[]⟩, .string ⟨#[]⟩, .string ⟨#[]⟩, .string ⟨#[]⟩, .int .i64 0, .int .i64 0, .int .i64 0, .string ⟨#[]⟩, .int .i64 0, .int .i64 0, .int .i64 0, .string ⟨#[]⟩, .int .i64 0, .int .i64 0, .int .i64 0, .string ⟨#[]⟩, .string ⟨#[]⟩, .int .i64 0, .string ⟨#[]⟩, .int .i64 0, .int .i64 0, .int .i64 0, .int .i64 0]) rfl rfl rfl ?_; intro w9 hb9 hf9))
        (try simp only [Exit.inBlock, Exit.then])
        refine ret_cell1 (l := [.int .i64 0, .int .i64 0, .int .i64 0, .int .i64 0, .string ⟨#[]⟩, .string ⟨#[]⟩, .string ⟨#[]⟩, .string ⟨#[]⟩, .int .i64 0, .int .i64 0, .int .i64 0, .string ⟨#[]⟩, .int .i64 0, .int .i64 0, .int .i64 0, .string ⟨#[]⟩, .int .i64 0, .int .i64 0, .int .i64 0, .string ⟨#[]⟩, .string ⟨#[]⟩, .int .i64 0, .string ⟨#[]⟩, .int .i64 0, .int .i64 0, .int .i64 0, .int .i64 0]) rfl Try.underlying31 rfl iL hb9 rfl rfl rfl rfl ?_
        exact ⟨none, rfl, hF6.then_ hf9 (fun i hi e => by omega), spec_none (k := 1) hd2 (.inr (.inr (by rw [hdk]; exact hfin)))⟩
      · have hfin2 : (!o6.isNone && decide ((o6.getD ⟨#[]⟩).size = 0)) = true := hfin
        rw [hfin2]
        go_wp2_with (first
          | (refine wpList_load_blk rfl 31 (.tmp 6) rfl (l := [.int .i64 1, .int .i64 x0, .int .i64 x1, .int .i64 x2, .string x3, .string x4, .string x5, .string x6, .int .i64 0, .int .i64 0, .int .i64 0, .string ⟨#[]⟩, .int .i64 0, .int .i64 0, .int .i64 0, .string ⟨#[]⟩, .int .i64 0, .int .i64 0, .int .i64 0, .string ⟨#[]⟩, .string ⟨#[]⟩, .int .i64 0, .string ⟨#[]⟩, .int .i64 0, .int .i64 0, .int .i64 0, .int .i64 0]) hb6 rfl Try.underlying31 rfl iL rfl ?_)
          | (refine wpList_store_blk rfl 31 (.tmp 2) (.tmp 43) rfl hr rfl rfl iL (us := #[.int .i64 1, .int .i64 x0, .int .i64 x1, .int .i64 x2, .string x3, .string x4, .string x5, .string x6, .int .i64 0, .int .i64 0, .int .i64 0, .string ⟨#[]⟩, .int .i64 0, .int .i64 0, .int .i64 0, .string ⟨#[]⟩, .int .i64 0, .int .i64 0, .int .i64 0, .string ⟨#[]⟩, .string ⟨#[]⟩, .int .i64 0, .string ⟨#[]⟩, .int .i64 0, .int .i64 0, .int .i64 0, .int .i64 0]) rfl rfl rfl ?_; intro w9 hb9 hf9))
        (try simp only [Exit.inBlock, Exit.then])
        refine ret_cell1 (l := [.int .i64 1, .int .i64 x0, .int .i64 x1, .int .i64 x2, .string x3, .string x4, .string x5, .string x6, .int .i64 0, .int .i64 0, .int .i64 0, .string ⟨#[]⟩, .int .i64 0, .int .i64 0, .int .i64 0, .string ⟨#[]⟩, .int .i64 0, .int .i64 0, .int .i64 0, .string ⟨#[]⟩, .string ⟨#[]⟩, .int .i64 0, .string ⟨#[]⟩, .int .i64 0, .int .i64 0, .int .i64 0, .int .i64 0]) rfl Try.underlying31 rfl iL hb9 rfl rfl rfl rfl ?_
        obtain ⟨t, ht, hz⟩ : ∃ t, o6 = some t ∧ t.size = 0 := by
          cases h : o6 with
          | none => rw [h] at hfin; cases hfin
          | some t => rw [h] at hfin; exact ⟨t, rfl, by simpa [fin] using hfin⟩
        refine ⟨some ⟨1, ⟨x0, x1, x2, x3, x4, x5, x6⟩, an0, cl0, rp0⟩, rfl, hF6.then_ hf9 (fun i hi e => by omega), spec_some (k := 1) (vs := [.i x0, .i x1, .i x2, .s x3, .s x4, .s x5, .s x6]) (t := t) rfl (by omega) rfl rfl ?_ hz⟩
        have h3 := hd2
        simp only [decs, Prod.mk.injEq, List.cons.injEq, and_true] at h3
        obtain ⟨⟨g1, g2⟩, g3⟩ := h3
        show decs (Fl.n 1 :: Fl.n 4 :: sch 1) (some s) = _
        rw [decs, decs, g3, hdk, g1, g2, ht, hx1]
    · have hq : (y1 == 1) = false := beq_eq_false_iff_ne.2 hx1
      rw [hq]
      go_wp2_with (first
        | (refine wpList_store_blk rfl 31 (.tmp 2) (.tmp 42) rfl hr rfl rfl iL (us := #[.int .i64 0, .int .i64 0, .int .i64 0, .int .i64 0, .string ⟨#[]⟩, .string ⟨#[]⟩, .string ⟨#[]⟩, .string ⟨#[]⟩, .int .i64 0, .int .i64 0, .int .i64 0, .string ⟨#[]⟩, .int .i64 0, .int .i64 0, .int .i64 0, .string ⟨#[]⟩, .int .i64 0, .int .i64 0, .int .i64 0, .string ⟨#[]⟩, .string ⟨#[]⟩, .int .i64 0, .string ⟨#[]⟩, .int .i64 0, .int .i64 0, .int .i64 0, .int .i64 0]) rfl rfl rfl ?_; intro w9 hb9 hf9))
      (try simp only [Exit.inBlock, Exit.then])
      refine ret_cell1 (l := [.int .i64 0, .int .i64 0, .int .i64 0, .int .i64 0, .string ⟨#[]⟩, .string ⟨#[]⟩, .string ⟨#[]⟩, .string ⟨#[]⟩, .int .i64 0, .int .i64 0, .int .i64 0, .string ⟨#[]⟩, .int .i64 0, .int .i64 0, .int .i64 0, .string ⟨#[]⟩, .int .i64 0, .int .i64 0, .int .i64 0, .string ⟨#[]⟩, .string ⟨#[]⟩, .int .i64 0, .string ⟨#[]⟩, .int .i64 0, .int .i64 0, .int .i64 0, .int .i64 0]) rfl Try.underlying31 rfl iL hb9 rfl rfl rfl rfl ?_
      exact ⟨none, rfl, hF6.then_ hf9 (fun i hi e => by omega), spec_none (k := 1) hd2 (.inr (.inl hx1))⟩
  · obtain ⟨x0, o0, e0⟩ : ∃ x o', oN 1073741824 oB = (x, o') := ⟨_, _, rfl⟩
    obtain ⟨x1, o1, e1⟩ : ∃ x o', oN 1073741824 o0 = (x, o') := ⟨_, _, rfl⟩
    obtain ⟨x2, o2, e2⟩ : ∃ x o', oN 999 o1 = (x, o') := ⟨_, _, rfl⟩
    obtain ⟨x3, o3, e3⟩ : ∃ x o', oT 40 o2 = (x, o') := ⟨_, _, rfl⟩
    obtain ⟨x4, o4, e4⟩ : ∃ x o', oN 1099511627776 o3 = (x, o') := ⟨_, _, rfl⟩
    obtain ⟨x5, o5, e5⟩ : ∃ x o', oN 1073741824 o4 = (x, o') := ⟨_, _, rfl⟩
    have hdk : decs (sch 2) oB = ([.i x0, .i x1, .i x2, .s x3, .i x4, .i x5], o5) := by rw [sch2]; simp only [decs, Fl.dec, e0, e1, e2, e3, e4, e5]
    refine (letter_o2 hD5 hb5 (by rfl) hlo hld hdo (by rfl) e0 e1 e2 e3 e4 e5).mono ?_
    rintro e w6 ⟨rfl, hD6, hb6, hf6⟩
    have hb6 : w6.heap[lb]? = some (.cells #[.int .i64 2, .int .i64 0, .int .i64 0, .int .i64 0, .string ⟨#[]⟩, .string ⟨#[]⟩, .string ⟨#[]⟩, .string ⟨#[]⟩, .int .i64 x0, .int .i64 x1, .int .i64 x2, .string x3, .int .i64 x4, .int .i64 x5, .int .i64 0, .string ⟨#[]⟩, .int .i64 0, .int .i64 0, .int .i64 0, .string ⟨#[]⟩, .string ⟨#[]⟩, .int .i64 0, .string ⟨#[]⟩, .int .i64 0, .int .i64 0, .int .i64 0, .int .i64 0] 31 (0, 0)) := by
      rw [hb6]
      simp only [sets, List.setIfInBounds_toArray, List.set_cons_zero, List.set_cons_succ]
    have hr := hf6.blk hr5 (by omega)
    have hF6 := hF5.then_ hf6 (fun i hi e => by omega)
    clear hb5 hD5 hr5 hf6
    obtain ⟨d0, d1, d2⟩ := Bk.c3 hD6.dk
    by_cases hx1 : y1 = 1
    · have hq : (y1 == 1) = true := beq_iff_eq.2 hx1
      rw [hq]
      go_wp2_with fail
      refine (done_any ob _ _ _ hD6.op.op).mono ?_
      rintro e w7 ⟨rfl, rfl⟩
      cases hfin : fin o5
      · have hfin2 : (!o5.isNone && decide ((o5.getD ⟨#[]⟩).size = 0)) = false := hfin
        rw [hfin2]
        go_wp2_with (first
          | (refine wpList_store_blk rfl 31 (.tmp 2) (.tmp 42) rfl hr rfl rfl iL (us := #[.int .i64 0, .int .i64 0, .int .i64 0, .int .i64 0, .string ⟨#[]⟩, .string ⟨#[]⟩, .string ⟨#[]⟩, .string ⟨#[]⟩, .int .i64 0, .int .i64 0, .int .i64 0, .string ⟨#[]⟩, .int .i64 0, .int .i64 0, .int .i64 0, .string ⟨#[]⟩, .int .i64 0, .int .i64 0, .int .i64 0, .string ⟨#[]⟩, .string ⟨#[]⟩, .int .i64 0, .string ⟨#[]⟩, .int .i64 0, .int .i64 0, .int .i64 0, .int .i64 0]) rfl rfl rfl ?_; intro w9 hb9 hf9))
        (try simp only [Exit.inBlock, Exit.then])
        refine ret_cell1 (l := [.int .i64 0, .int .i64 0, .int .i64 0, .int .i64 0, .string ⟨#[]⟩, .string ⟨#[]⟩, .string ⟨#[]⟩, .string ⟨#[]⟩, .int .i64 0, .int .i64 0, .int .i64 0, .string ⟨#[]⟩, .int .i64 0, .int .i64 0, .int .i64 0, .string ⟨#[]⟩, .int .i64 0, .int .i64 0, .int .i64 0, .string ⟨#[]⟩, .string ⟨#[]⟩, .int .i64 0, .string ⟨#[]⟩, .int .i64 0, .int .i64 0, .int .i64 0, .int .i64 0]) rfl Try.underlying31 rfl iL hb9 rfl rfl rfl rfl ?_
        exact ⟨none, rfl, hF6.then_ hf9 (fun i hi e => by omega), spec_none (k := 2) hd2 (.inr (.inr (by rw [hdk]; exact hfin)))⟩
      · have hfin2 : (!o5.isNone && decide ((o5.getD ⟨#[]⟩).size = 0)) = true := hfin
        rw [hfin2]
        go_wp2_with (first
          | (refine wpList_load_blk rfl 31 (.tmp 6) rfl (l := [.int .i64 2, .int .i64 0, .int .i64 0, .int .i64 0, .string ⟨#[]⟩, .string ⟨#[]⟩, .string ⟨#[]⟩, .string ⟨#[]⟩, .int .i64 x0, .int .i64 x1, .int .i64 x2, .string x3, .int .i64 x4, .int .i64 x5, .int .i64 0, .string ⟨#[]⟩, .int .i64 0, .int .i64 0, .int .i64 0, .string ⟨#[]⟩, .string ⟨#[]⟩, .int .i64 0, .string ⟨#[]⟩, .int .i64 0, .int .i64 0, .int .i64 0, .int .i64 0]) hb6 rfl Try.underlying31 rfl iL rfl ?_)
          | (refine wpList_store_blk rfl 31 (.tmp 2) (.tmp 43) rfl hr rfl rfl iL (us := #[.int .i64 2, .int .i64 0, .int .i64 0, .int .i64 0, .string ⟨#[]⟩, .string ⟨#[]⟩, .string ⟨#[]⟩, .string ⟨#[]⟩, .int .i64 x0, .int .i64 x1, .int .i64 x2, .string x3, .int .i64 x4, .int .i64 x5, .int .i64 0, .string ⟨#[]⟩, .int .i64 0, .int .i64 0, .int .i64 0, .string ⟨#[]⟩, .string ⟨#[]⟩, .int .i64 0, .string ⟨#[]⟩, .int .i64 0, .int .i64 0, .int .i64 0, .int .i64 0]) rfl rfl rfl ?_; intro w9 hb9 hf9))
        (try simp only [Exit.inBlock, Exit.then])
        refine ret_cell1 (l := [.int .i64 2, .int .i64 0, .int .i64 0, .int .i64 0, .string ⟨#[]⟩, .string ⟨#[]⟩, .string ⟨#[]⟩, .string ⟨#[]⟩, .int .i64 x0, .int .i64 x1, .int .i64 x2, .string x3, .int .i64 x4, .int .i64 x5, .int .i64 0, .string ⟨#[]⟩, .int .i64 0, .int .i64 0, .int .i64 0, .string ⟨#[]⟩, .string ⟨#[]⟩, .int .i64 0, .string ⟨#[]⟩, .int .i64 0, .int .i64 0, .int .i64 0, .int .i64 0]) rfl Try.underlying31 rfl iL hb9 rfl rfl rfl rfl ?_
        obtain ⟨t, ht, hz⟩ : ∃ t, o5 = some t ∧ t.size = 0 := by
          cases h : o5 with
          | none => rw [h] at hfin; cases hfin
          | some t => rw [h] at hfin; exact ⟨t, rfl, by simpa [fin] using hfin⟩
        refine ⟨some ⟨2, rq0, ⟨x0, x1, x2, x3, x4, x5⟩, cl0, rp0⟩, rfl, hF6.then_ hf9 (fun i hi e => by omega), spec_some (k := 2) (vs := [.i x0, .i x1, .i x2, .s x3, .i x4, .i x5]) (t := t) rfl (by omega) rfl rfl ?_ hz⟩
        have h3 := hd2
        simp only [decs, Prod.mk.injEq, List.cons.injEq, and_true] at h3
        obtain ⟨⟨g1, g2⟩, g3⟩ := h3
        show decs (Fl.n 1 :: Fl.n 4 :: sch 2) (some s) = _
        rw [decs, decs, g3, hdk, g1, g2, ht, hx1]
    · have hq : (y1 == 1) = false := beq_eq_false_iff_ne.2 hx1
      rw [hq]
      go_wp2_with (first
        | (refine wpList_store_blk rfl 31 (.tmp 2) (.tmp 42) rfl hr rfl rfl iL (us := #[.int .i64 0, .int .i64 0, .int .i64 0, .int .i64 0, .string ⟨#[]⟩, .string ⟨#[]⟩, .string ⟨#[]⟩, .string ⟨#[]⟩, .int .i64 0, .int .i64 0, .int .i64 0, .string ⟨#[]⟩, .int .i64 0, .int .i64 0, .int .i64 0, .string ⟨#[]⟩, .int .i64 0, .int .i64 0, .int .i64 0, .string ⟨#[]⟩, .string ⟨#[]⟩, .int .i64 0, .string ⟨#[]⟩, .int .i64 0, .int .i64 0, .int .i64 0, .int .i64 0]) rfl rfl rfl ?_; intro w9 hb9 hf9))
      (try simp only [Exit.inBlock, Exit.then])
      refine ret_cell1 (l := [.int .i64 0, .int .i64 0, .int .i64 0, .int .i64 0, .string ⟨#[]⟩, .string ⟨#[]⟩, .string ⟨#[]⟩, .string ⟨#[]⟩, .int .i64 0, .int .i64 0, .int .i64 0, .string ⟨#[]⟩, .int .i64 0, .int .i64 0, .int .i64 0, .string ⟨#[]⟩, .int .i64 0, .int .i64 0, .int .i64 0, .string ⟨#[]⟩, .string ⟨#[]⟩, .int .i64 0, .string ⟨#[]⟩, .int .i64 0, .int .i64 0, .int .i64 0, .int .i64 0]) rfl Try.underlying31 rfl iL hb9 rfl rfl rfl rfl ?_
      exact ⟨none, rfl, hF6.then_ hf9 (fun i hi e => by omega), spec_none (k := 2) hd2 (.inr (.inl hx1))⟩
  · obtain ⟨x0, o0, e0⟩ : ∃ x o', oN 1073741824 oB = (x, o') := ⟨_, _, rfl⟩
    obtain ⟨x1, o1, e1⟩ : ∃ x o', oT 24 o0 = (x, o') := ⟨_, _, rfl⟩
    obtain ⟨x2, o2, e2⟩ : ∃ x o', oN 1073741824 o1 = (x, o') := ⟨_, _, rfl⟩
    obtain ⟨x3, o3, e3⟩ : ∃ x o', oN 5 o2 = (x, o') := ⟨_, _, rfl⟩
    obtain ⟨x4, o4, e4⟩ : ∃ x o', oN 1073741824 o3 = (x, o') := ⟨_, _, rfl⟩
    obtain ⟨x5, o5, e5⟩ : ∃ x o', oT 12 o4 = (x, o') := ⟨_, _, rfl⟩
    obtain ⟨x6, o6, e6⟩ : ∃ x o', oT 40 o5 = (x, o') := ⟨_, _, rfl⟩
    have hdk : decs (sch 3) oB = ([.i x0, .s x1, .i x2, .i x3, .i x4, .s x5, .s x6], o6) := by rw [sch3]; simp only [decs, Fl.dec, e0, e1, e2, e3, e4, e5, e6]
    refine (letter_o3 hD5 hb5 (by rfl) hlo hld hdo (by rfl) e0 e1 e2 e3 e4 e5 e6).mono ?_
    rintro e w6 ⟨rfl, hD6, hb6, hf6⟩
    have hb6 : w6.heap[lb]? = some (.cells #[.int .i64 3, .int .i64 0, .int .i64 0, .int .i64 0, .string ⟨#[]⟩, .string ⟨#[]⟩, .string ⟨#[]⟩, .string ⟨#[]⟩, .int .i64 0, .int .i64 0, .int .i64 0, .string ⟨#[]⟩, .int .i64 0, .int .i64 0, .int .i64 x0, .string x1, .int .i64 x2, .int .i64 x3, .int .i64 x4, .string x5, .string x6, .int .i64 0, .string ⟨#[]⟩, .int .i64 0, .int .i64 0, .int .i64 0, .int .i64 0] 31 (0, 0)) := by
      rw [hb6]
      simp only [sets, List.setIfInBounds_toArray, List.set_cons_zero, List.set_cons_succ]
    have hr := hf6.blk hr5 (by omega)
    have hF6 := hF5.then_ hf6 (fun i hi e => by omega)
    clear hb5 hD5 hr5 hf6
    obtain ⟨d0, d1, d2⟩ := Bk.c3 hD6.dk
    by_cases hx1 : y1 = 1
    · have hq : (y1 == 1) = true := beq_iff_eq.2 hx1
      rw [hq]
      go_wp2_with fail
      refine (done_any ob _ _ _ hD6.op.op).mono ?_
      rintro e w7 ⟨rfl, rfl⟩
      cases hfin : fin o6
      · have hfin2 : (!o6.isNone && decide ((o6.getD ⟨#[]⟩).size = 0)) = false := hfin
        rw [hfin2]
        go_wp2_with (first
          | (refine wpList_store_blk rfl 31 (.tmp 2) (.tmp 42) rfl hr rfl rfl iL (us := #[.int .i64 0, .int .i64 0, .int .i64 0, .int .i64 0, .string ⟨#[]⟩, .string ⟨#[]⟩, .string ⟨#[]⟩, .string ⟨#[]⟩, .int .i64 0, .int .i64 0, .int .i64 0, .string ⟨#[]⟩, .int .i64 0, .int .i64 0, .int .i64 0, .string ⟨#[]⟩, .int .i64 0, .int .i64 0, .int .i64 0, .string ⟨#[]⟩, .string ⟨#[]⟩, .int .i64 0, .string ⟨#[]⟩, .int .i64 0, .int .i64 0, .int .i64 0, .int .i64 0]) rfl rfl rfl ?_; intro w9 hb9 hf9))
        (try simp only [Exit.inBlock, Exit.then])
        refine ret_cell1 (l := [.int .i64 0, .int .i64 0, .int .i64 0, .int .i64 0, .string ⟨#[]⟩, .string ⟨#[]⟩, .string ⟨#[]⟩, .string ⟨#[]⟩, .int .i64 0, .int .i64 0, .int .i64 0, .string ⟨#[]⟩, .int .i64 0, .int .i64 0, .int .i64 0, .string ⟨#[]⟩, .int .i64 0, .int .i64 0, .int .i64 0, .string ⟨#[]⟩, .string ⟨#[]⟩, .int .i64 0, .string ⟨#[]⟩, .int .i64 0, .int .i64 0, .int .i64 0, .int .i64 0]) rfl Try.underlying31 rfl iL hb9 rfl rfl rfl rfl ?_
        exact ⟨none, rfl, hF6.then_ hf9 (fun i hi e => by omega), spec_none (k := 3) hd2 (.inr (.inr (by rw [hdk]; exact hfin)))⟩
      · have hfin2 : (!o6.isNone && decide ((o6.getD ⟨#[]⟩).size = 0)) = true := hfin
        rw [hfin2]
        go_wp2_with (first
          | (refine wpList_load_blk rfl 31 (.tmp 6) rfl (l := [.int .i64 3, .int .i64 0, .int .i64 0, .int .i64 0, .string ⟨#[]⟩, .string ⟨#[]⟩, .string ⟨#[]⟩, .string ⟨#[]⟩, .int .i64 0, .int .i64 0, .int .i64 0, .string ⟨#[]⟩, .int .i64 0, .int .i64 0, .int .i64 x0, .string x1, .int .i64 x2, .int .i64 x3, .int .i64 x4, .string x5, .string x6, .int .i64 0, .string ⟨#[]⟩, .int .i64 0, .int .i64 0, .int .i64 0, .int .i64 0]) hb6 rfl Try.underlying31 rfl iL rfl ?_)
          | (refine wpList_store_blk rfl 31 (.tmp 2) (.tmp 43) rfl hr rfl rfl iL (us := #[.int .i64 3, .int .i64 0, .int .i64 0, .int .i64 0, .string ⟨#[]⟩, .string ⟨#[]⟩, .string ⟨#[]⟩, .string ⟨#[]⟩, .int .i64 0, .int .i64 0, .int .i64 0, .string ⟨#[]⟩, .int .i64 0, .int .i64 0, .int .i64 x0, .string x1, .int .i64 x2, .int .i64 x3, .int .i64 x4, .string x5, .string x6, .int .i64 0, .string ⟨#[]⟩, .int .i64 0, .int .i64 0, .int .i64 0, .int .i64 0]) rfl rfl rfl ?_; intro w9 hb9 hf9))
        (try simp only [Exit.inBlock, Exit.then])
        refine ret_cell1 (l := [.int .i64 3, .int .i64 0, .int .i64 0, .int .i64 0, .string ⟨#[]⟩, .string ⟨#[]⟩, .string ⟨#[]⟩, .string ⟨#[]⟩, .int .i64 0, .int .i64 0, .int .i64 0, .string ⟨#[]⟩, .int .i64 0, .int .i64 0, .int .i64 x0, .string x1, .int .i64 x2, .int .i64 x3, .int .i64 x4, .string x5, .string x6, .int .i64 0, .string ⟨#[]⟩, .int .i64 0, .int .i64 0, .int .i64 0, .int .i64 0]) rfl Try.underlying31 rfl iL hb9 rfl rfl rfl rfl ?_
        obtain ⟨t, ht, hz⟩ : ∃ t, o6 = some t ∧ t.size = 0 := by
          cases h : o6 with
          | none => rw [h] at hfin; cases hfin
          | some t => rw [h] at hfin; exact ⟨t, rfl, by simpa [fin] using hfin⟩
        refine ⟨some ⟨3, rq0, an0, ⟨x0, x1, x2, x3, x4, x5, x6⟩, rp0⟩, rfl, hF6.then_ hf9 (fun i hi e => by omega), spec_some (k := 3) (vs := [.i x0, .s x1, .i x2, .i x3, .i x4, .s x5, .s x6]) (t := t) rfl (by omega) rfl rfl ?_ hz⟩
        have h3 := hd2
        simp only [decs, Prod.mk.injEq, List.cons.injEq, and_true] at h3
        obtain ⟨⟨g1, g2⟩, g3⟩ := h3
        show decs (Fl.n 1 :: Fl.n 4 :: sch 3) (some s) = _
        rw [decs, decs, g3, hdk, g1, g2, ht, hx1]
    · have hq : (y1 == 1) = false := beq_eq_false_iff_ne.2 hx1
      rw [hq]
      go_wp2_with (first
        | (refine wpList_store_blk rfl 31 (.tmp 2) (.tmp 42) rfl hr rfl rfl iL (us := #[.int .i64 0, .int .i64 0, .int .i64 0, .int .i64 0, .string ⟨#[]⟩, .string ⟨#[]⟩, .string ⟨#[]⟩, .string ⟨#[]⟩, .int .i64 0, .int .i64 0, .int .i64 0, .string ⟨#[]⟩, .int .i64 0, .int .i64 0, .int .i64 0, .string ⟨#[]⟩, .int .i64 0, .int .i64 0, .int .i64 0, .string ⟨#[]⟩, .string ⟨#[]⟩, .int .i64 0, .string ⟨#[]⟩, .int .i64 0, .int .i64 0, .int .i64 0, .int .i64 0]) rfl rfl rfl ?_; intro w9 hb9 hf9))
      (try simp only [Exit.inBlock, Exit.then])
      refine ret_cell1 (l := [.int .i64 0, .int .i64 0, .int .i64 0, .int .i64 0, .string ⟨#[]⟩, .string ⟨#[]⟩, .string ⟨#[]⟩, .string ⟨#[]⟩, .int .i64 0, .int .i64 0, .int .i64 0, .string ⟨#[]⟩, .int .i64 0, .int .i64 0, .int .i64 0, .string ⟨#[]⟩, .int .i64 0, .int .i64 0, .int .i64 0, .string ⟨#[]⟩, .string ⟨#[]⟩, .int .i64 0, .string ⟨#[]⟩, .int .i64 0, .int .i64 0, .int .i64 0, .int .i64 0]) rfl Try.underlying31 rfl iL hb9 rfl rfl rfl rfl ?_
      exact ⟨none, rfl, hF6.then_ hf9 (fun i hi e => by omega), spec_none (k := 3) hd2 (.inr (.inl hx1))⟩
  · obtain ⟨x0, o0, e0⟩ : ∃ x o', oN 1073741824 oB = (x, o') := ⟨_, _, rfl⟩
    obtain ⟨x1, o1, e1⟩ : ∃ x o', oT 24 o0 = (x, o') := ⟨_, _, rfl⟩
    obtain ⟨x2, o2, e2⟩ : ∃ x o', oN 1073741824 o1 = (x, o') := ⟨_, _, rfl⟩
    obtain ⟨x3, o3, e3⟩ : ∃ x o', oN 5 o2 = (x, o') := ⟨_, _, rfl⟩
    obtain ⟨x4, o4, e4⟩ : ∃ x o', oN 1073741824 o3 = (x, o') := ⟨_, _, rfl⟩
    obtain ⟨x5, o5, e5⟩ : ∃ x o', oN 3 o4 = (x, o') := ⟨_, _, rfl⟩
    have hdk : decs (sch 4) oB = ([.i x0, .s x1, .i x2, .i x3, .i x4, .i x5], o5) := by rw [sch4]; simp only [decs, Fl.dec, e0, e1, e2, e3, e4, e5]
    refine (letter_o4 hD5 hb5 (by rfl) hlo hld hdo (by rfl) e0 e1 e2 e3 e4 e5).mono ?_
    rintro e w6 ⟨rfl, hD6, hb6, hf6⟩
    have hb6 : w6.heap[lb]? = some (.cells #[.int .i64 4, .int .i64 0, .int .i64 0, .int .i64 0, .string ⟨#[]⟩, .string ⟨#[]⟩, .string ⟨#[]⟩, .string ⟨#[]⟩, .int .i64 0, .int .i64 0, .int .i64 0, .string ⟨#[]⟩, .int .i64 0, .int .i64 0, .int .i64 0, .string ⟨#[]⟩, .int .i64 0, .int .i64 0, .int .i64 0, .string ⟨#[]⟩, .string ⟨#[]⟩, .int .i64 x0, .string x1, .int .i64 x2, .int .i64 x3, .int .i64 x4, .int .i64 x5] 31 (0, 0)) := by
      rw [hb6]
      simp only [sets, List.setIfInBounds_toArray, List.set_cons_zero, List.set_cons_succ]
    have hr := hf6.blk hr5 (by omega)
    have hF6 := hF5.then_ hf6 (fun i hi e => by omega)
    clear hb5 hD5 hr5 hf6
    obtain ⟨d0, d1, d2⟩ := Bk.c3 hD6.dk
    by_cases hx1 : y1 = 1
    · have hq : (y1 == 1) = true := beq_iff_eq.2 hx1
      rw [hq]
      go_wp2_with fail
      refine (done_any ob _ _ _ hD6.op.op).mono ?_
      rintro e w7 ⟨rfl, rfl⟩
      cases hfin : fin o5
      · have hfin2 : (!o5.isNone && decide ((o5.getD ⟨#[]⟩).size = 0)) = false := hfin
        rw [hfin2]
        go_wp2_with (first
          | (refine wpList_store_blk rfl 31 (.tmp 2) (.tmp 42) rfl hr rfl rfl iL (us := #[.int .i64 0, .int .i64 0, .int .i64 0, .int .i64 0, .string ⟨#[]⟩, .string ⟨#[]⟩, .string ⟨#[]⟩, .string ⟨#[]⟩, .int .i64 0, .int .i64 0, .int .i64 0, .string ⟨#[]⟩, .int .i64 0, .int .i64 0, .int .i64 0, .string ⟨#[]⟩, .int .i64 0, .int .i64 0, .int .i64 0, .string ⟨#[]⟩, .string ⟨#[]⟩, .int .i64 0, .string ⟨#[]⟩, .int .i64 0, .int .i64 0, .int .i64 0, .int .i64 0]) rfl rfl rfl ?_; intro w9 hb9 hf9))
        (try simp only [Exit.inBlock, Exit.then])
        refine ret_cell1 (l := [.int .i64 0, .int .i64 0, .int .i64 0, .int .i64 0, .string ⟨#[]⟩, .string ⟨#[]⟩, .string ⟨#[]⟩, .string ⟨#[]⟩, .int .i64 0, .int .i64 0, .int .i64 0, .string ⟨#[]⟩, .int .i64 0, .int .i64 0, .int .i64 0, .string ⟨#[]⟩, .int .i64 0, .int .i64 0, .int .i64 0, .string ⟨#[]⟩, .string ⟨#[]⟩, .int .i64 0, .string ⟨#[]⟩, .int .i64 0, .int .i64 0, .int .i64 0, .int .i64 0]) rfl Try.underlying31 rfl iL hb9 rfl rfl rfl rfl ?_
        exact ⟨none, rfl, hF6.then_ hf9 (fun i hi e => by omega), spec_none (k := 4) hd2 (.inr (.inr (by rw [hdk]; exact hfin)))⟩
      · have hfin2 : (!o5.isNone && decide ((o5.getD ⟨#[]⟩).size = 0)) = true := hfin
        rw [hfin2]
        go_wp2_with (first
          | (refine wpList_load_blk rfl 31 (.tmp 6) rfl (l := [.int .i64 4, .int .i64 0, .int .i64 0, .int .i64 0, .string ⟨#[]⟩, .string ⟨#[]⟩, .string ⟨#[]⟩, .string ⟨#[]⟩, .int .i64 0, .int .i64 0, .int .i64 0, .string ⟨#[]⟩, .int .i64 0, .int .i64 0, .int .i64 0, .string ⟨#[]⟩, .int .i64 0, .int .i64 0, .int .i64 0, .string ⟨#[]⟩, .string ⟨#[]⟩, .int .i64 x0, .string x1, .int .i64 x2, .int .i64 x3, .int .i64 x4, .int .i64 x5]) hb6 rfl Try.underlying31 rfl iL rfl ?_)
          | (refine wpList_store_blk rfl 31 (.tmp 2) (.tmp 43) rfl hr rfl rfl iL (us := #[.int .i64 4, .int .i64 0, .int .i64 0, .int .i64 0, .string ⟨#[]⟩, .string ⟨#[]⟩, .string ⟨#[]⟩, .string ⟨#[]⟩, .int .i64 0, .int .i64 0, .int .i64 0, .string ⟨#[]⟩, .int .i64 0, .int .i64 0, .int .i64 0, .string ⟨#[]⟩, .int .i64 0, .int .i64 0, .int .i64 0, .string ⟨#[]⟩, .string ⟨#[]⟩, .int .i64 x0, .string x1, .int .i64 x2, .int .i64 x3, .int .i64 x4, .int .i64 x5]) rfl rfl rfl ?_; intro w9 hb9 hf9))
        (try simp only [Exit.inBlock, Exit.then])
        refine ret_cell1 (l := [.int .i64 4, .int .i64 0, .int .i64 0, .int .i64 0, .string ⟨#[]⟩, .string ⟨#[]⟩, .string ⟨#[]⟩, .string ⟨#[]⟩, .int .i64 0, .int .i64 0, .int .i64 0, .string ⟨#[]⟩, .int .i64 0, .int .i64 0, .int .i64 0, .string ⟨#[]⟩, .int .i64 0, .int .i64 0, .int .i64 0, .string ⟨#[]⟩, .string ⟨#[]⟩, .int .i64 x0, .string x1, .int .i64 x2, .int .i64 x3, .int .i64 x4, .int .i64 x5]) rfl Try.underlying31 rfl iL hb9 rfl rfl rfl rfl ?_
        obtain ⟨t, ht, hz⟩ : ∃ t, o5 = some t ∧ t.size = 0 := by
          cases h : o5 with
          | none => rw [h] at hfin; cases hfin
          | some t => rw [h] at hfin; exact ⟨t, rfl, by simpa [fin] using hfin⟩
        refine ⟨some ⟨4, rq0, an0, cl0, ⟨x0, x1, x2, x3, x4, x5⟩⟩, rfl, hF6.then_ hf9 (fun i hi e => by omega), spec_some (k := 4) (vs := [.i x0, .s x1, .i x2, .i x3, .i x4, .i x5]) (t := t) rfl (by omega) rfl rfl ?_ hz⟩
        have h3 := hd2
        simp only [decs, Prod.mk.injEq, List.cons.injEq, and_true] at h3
        obtain ⟨⟨g1, g2⟩, g3⟩ := h3
        show decs (Fl.n 1 :: Fl.n 4 :: sch 4) (some s) = _
        rw [decs, decs, g3, hdk, g1, g2, ht, hx1]
    · have hq : (y1 == 1) = false := beq_eq_false_iff_ne.2 hx1
      rw [hq]
      go_wp2_with (first
        | (refine wpList_store_blk rfl 31 (.tmp 2) (.tmp 42) rfl hr rfl rfl iL (us := #[.int .i64 0, .int .i64 0, .int .i64 0, .int .i64 0, .string ⟨#[]⟩, .string ⟨#[]⟩, .string ⟨#[]⟩, .string ⟨#[]⟩, .int .i64 0, .int .i64 0, .int .i64 0, .string ⟨#[]⟩, .int .i64 0, .int .i64 0, .int .i64 0, .string ⟨#[]⟩, .int .i64 0, .int .i64 0, .int .i64 0, .string ⟨#[]⟩, .string ⟨#[]⟩, .int .i64 0, .string ⟨#[]⟩, .int .i64 0, .int .i64 0, .int .i64 0, .int .i64 0]) rfl rfl rfl ?_; intro w9 hb9 hf9))
      (try simp only [Exit.inBlock, Exit.then])
      refine ret_cell1 (l := [.int .i64 0, .int .i64 0, .int .i64 0, .int .i64 0, .string ⟨#[]⟩, .string ⟨#[]⟩, .string ⟨#[]⟩, .string ⟨#[]⟩, .int .i64 0, .int .i64 0, .int .i64 0, .string ⟨#[]⟩, .int .i64 0, .int .i64 0, .int .i64 0, .string ⟨#[]⟩, .int .i64 0, .int .i64 0, .int .i64 0, .string ⟨#[]⟩, .string ⟨#[]⟩, .int .i64 0, .string ⟨#[]⟩, .int .i64 0, .int .i64 0, .int .i64 0, .int .i64 0]) rfl Try.underlying31 rfl iL hb9 rfl rfl rfl rfl ?_
      exact ⟨none, rfl, hF6.then_ hf9 (fun i hi e => by omega), spec_none (k := 4) hd2 (.inr (.inl hx1))⟩
end
end Lt
end Go.Proofs.Ythggbohoedfkpaa
