/- The index's laws: awake. -/
import Derived.Test.YthggbohoedfkpaaIxn
namespace Go.Proofs.Ythggbohoedfkpaa
open Go.RowKit
set_option linter.unusedVariables false
set_option linter.unusedSimpArgs false
set_option maxRecDepth 100000
namespace Ix
def a1 : En := ⟨0, ⟨#[107, 50]⟩, 0, 7, 0, 0, ⟨#[]⟩, 0, 0, 0, ⟨#[]⟩, ⟨#[]⟩, ⟨#[]⟩, ⟨#[]⟩⟩
def a2 : En := ⟨0, ⟨#[107, 49]⟩, 0, 0, 0, 0, ⟨#[]⟩, 0, 0, 0, ⟨#[]⟩, ⟨#[]⟩, ⟨#[]⟩, ⟨#[]⟩⟩
def a3 : En := ⟨0, ⟨#[107, 50]⟩, 0, 8, 0, 0, ⟨#[]⟩, 0, 0, 0, ⟨#[]⟩, ⟨#[]⟩, ⟨#[]⟩, ⟨#[]⟩⟩
theorem n1 : a1.nm = (0, [107, 50]) := by unfold En.nm; rw [ByteArray.toList_eq]; rfl
theorem n2 : a2.nm = (0, [107, 49]) := by unfold En.nm; rw [ByteArray.toList_eq]; rfl
theorem n3 : a3.nm = (0, [107, 50]) := by unfold En.nm; rw [ByteArray.toList_eq]; rfl
theorem h12 : ahead ((0, [107, 50]) : Nam) (0, [107, 49]) = false := by decide
theorem h23 : ahead ((0, [107, 49]) : Nam) (0, [107, 50]) = true := by decide
theorem h13 : ahead ((0, [107, 50]) : Nam) (0, [107, 50]) = false := by decide
theorem p1 : put En.nm [] a1 = [a1] := by simp [put, place, found]
theorem f1 : found En.nm [] a1.nm = false := rfl
theorem f2 : found En.nm [a1] a2.nm = false := by simp [found, n1, n2, h12]
theorem p2 : put En.nm [a1] a2 = [a2, a1] := by simp [put, place, found, n1, n2, h12]
theorem f3 : found En.nm [a2, a1] a3.nm = true := by simp [found, n1, n2, n3, h23, h13]
theorem p3 : put En.nm [a2, a1] a3 = [a2, a3] := by simp [put, place, found, n1, n2, n3, h23, h13]
theorem f4 : found En.nm [a2, a3] (0, [107, 50]) = true := by simp [found, n2, n3, h23, h13]
theorem g4 : gt [a2, a3] (0, [107, 50]) = a3 := by simp [gt, found, place, n2, n3, h23, h13]
section
variable {w w1 : World}
theorem k2l : (⟨#[107, 50]⟩ : ByteArray).toList = [107, 50] := by rw [ByteArray.toList_eq]
theorem t4 : ati [a2, a3] 0 = a2 := rfl
set_option maxHeartbeats 2000000 in
theorem xawake (w : World) : Calls Try.prog 23 #[] w fun e w' => e = .returned (.bool true) ∧ Frm0 w w' := by
  go_enter Try.func23, Try.ntmps23
  go_wp2_with fail
  refine (new_any _).mono ?_
  rintro e w1 ⟨rfl, hA1, hf1⟩
  obtain ⟨xb, hxb⟩ : ∃ xb, w.heap.size = xb := ⟨_, rfl⟩
  rw [hxb] at hA1 ⊢
  go_wp2_with fail
  refine (put_any xb _ [] a1 _ hA1 (by decide)).mono ?_
  rintro e w2 ⟨v2, rfl, hA2, hf2, -⟩
  rw [p1] at hA2
  rw [f1]
  have hF2 : Frm0 w w2 := hf1.then_ hf2 (fun k hk h => by
    rcases h with h | h
    · omega
    · cases h)
  go_wp2_with fail
  refine (put_any xb _ [a1] a2 _ hA2 (by decide)).mono ?_
  rintro e w3 ⟨v3, rfl, hA3, hf3, -⟩
  rw [p2] at hA3
  rw [f2]
  have hF3 : Frm0 w w3 := hF2.then_ hf3 (fun k hk h => by
    rcases h with h | h
    · omega
    · have := hA2.own k h; omega)
  go_wp2_with fail
  refine (put_any xb _ [a2, a1] a3 _ hA3 (by decide)).mono ?_
  rintro e w4 ⟨v4, rfl, hA4, hf4, -⟩
  rw [p3] at hA4
  rw [f3]
  have hF4 : Frm0 w w4 := hF3.then_ hf4 (fun k hk h => by
    rcases h with h | h
    · omega
    · have := hA3.own k h; omega)
  go_wp2_with fail
  refine (at_any xb _ [a2, a3] 0 _ hA4).mono ?_
  rintro e w5 ⟨rfl, hf5⟩
  rw [t4]
  have hA5 := hA4.frm0 hf5
  have hF5 := hF4.trans hf5
  clear hA1 hA2 hA3 hA4 hf1 hf2 hf3 hf4 hf5 hF2 hF3 hF4
  have hz6 := Bk.new w5 (.cells #[.int .i64 0, .string ⟨#[]⟩, .int .i64 0, .int .i64 0, .int .i64 0, .int .i64 0, .string ⟨#[]⟩, .int .i64 0, .int .i64 0, .int .i64 0, .string ⟨#[]⟩, .string ⟨#[]⟩, .string ⟨#[]⟩, .string ⟨#[]⟩] 52)
  have hA6' := hA5.frm0 ((Frm.refl (fun _ => False) w5).alloc (.cells #[.int .i64 0, .string ⟨#[]⟩, .int .i64 0, .int .i64 0, .int .i64 0, .int .i64 0, .string ⟨#[]⟩, .int .i64 0, .int .i64 0, .int .i64 0, .string ⟨#[]⟩, .string ⟨#[]⟩, .string ⟨#[]⟩, .string ⟨#[]⟩] 52))
  have hF6' := hF5.alloc (.cells #[.int .i64 0, .string ⟨#[]⟩, .int .i64 0, .int .i64 0, .int .i64 0, .int .i64 0, .string ⟨#[]⟩, .int .i64 0, .int .i64 0, .int .i64 0, .string ⟨#[]⟩, .string ⟨#[]⟩, .string ⟨#[]⟩, .string ⟨#[]⟩] 52)
  have hx5 := hA5.lt
  have hs5 := hF5.size
  go_wp2_with (refine wpList_store_blk rfl 52 (.tmp 5) (.tmp 22) rfl hz6 rfl rfl iE (us := #[.int .i64 0, .string ⟨#[107, 49]⟩, .int .i64 0, .int .i64 0, .int .i64 0, .int .i64 0, .string ⟨#[]⟩, .int .i64 0, .int .i64 0, .int .i64 0, .string ⟨#[]⟩, .string ⟨#[]⟩, .string ⟨#[]⟩, .string ⟨#[]⟩]) rfl rfl rfl ?_; intro w6 hb6 hf6)
  generalize w5.alloc (.cells #[.int .i64 0, .string ⟨#[]⟩, .int .i64 0, .int .i64 0, .int .i64 0, .int .i64 0, .string ⟨#[]⟩, .int .i64 0, .int .i64 0, .int .i64 0, .string ⟨#[]⟩, .string ⟨#[]⟩, .string ⟨#[]⟩, .string ⟨#[]⟩] 52) = w6' at *
  generalize hb : w5.heap.size = b6 at *
  have hA6 := hA6'.frm hf6 (by omega) (fun g hg => by have := hA5.own g hg; omega)
  have hF6 := hF6'.then_ hf6 (fun k hk h => by omega)
  clear hz6 hA6' hF6' hf6
  refine (get_any xb _ [a2, a3] 0 ⟨#[107, 50]⟩ _ hA6).mono ?_
  rintro e w7 ⟨rfl, hf7⟩
  rw [k2l, f4, g4]
  have hA7 := hA6.frm0 hf7
  have hb7 := hf7.blk hb6 (fun h => h)
  have hF7 := hF6.trans hf7
  have hz8 := Bk.new w7 (.cells #[.int .i64 0, .string ⟨#[]⟩, .int .i64 0, .int .i64 0, .int .i64 0, .int .i64 0, .string ⟨#[]⟩, .int .i64 0, .int .i64 0, .int .i64 0, .string ⟨#[]⟩, .string ⟨#[]⟩, .string ⟨#[]⟩, .string ⟨#[]⟩] 52)
  have hfa := (Frm.refl (fun _ => False) w7).alloc (.cells #[.int .i64 0, .string ⟨#[]⟩, .int .i64 0, .int .i64 0, .int .i64 0, .int .i64 0, .string ⟨#[]⟩, .int .i64 0, .int .i64 0, .int .i64 0, .string ⟨#[]⟩, .string ⟨#[]⟩, .string ⟨#[]⟩, .string ⟨#[]⟩] 52)
  have hA8' := hA7.frm0 hfa
  have hb8' := hfa.blk hb7 (fun h => h)
  have hF8' := hF7.alloc (.cells #[.int .i64 0, .string ⟨#[]⟩, .int .i64 0, .int .i64 0, .int .i64 0, .int .i64 0, .string ⟨#[]⟩, .int .i64 0, .int .i64 0, .int .i64 0, .string ⟨#[]⟩, .string ⟨#[]⟩, .string ⟨#[]⟩, .string ⟨#[]⟩] 52)
  have hx7 := hA7.lt
  have hb7l := Bk.lt hb7
  have hs7 := hF7.size
  go_upto_region 7 with (refine wpList_store_blk rfl 52 (.tmp 7) (.tmp 27) rfl hz8 rfl rfl iE (us := #[.int .i64 0, .string ⟨#[107, 50]⟩, .int .i64 0, .int .i64 8, .int .i64 0, .int .i64 0, .string ⟨#[]⟩, .int .i64 0, .int .i64 0, .int .i64 0, .string ⟨#[]⟩, .string ⟨#[]⟩, .string ⟨#[]⟩, .string ⟨#[]⟩]) rfl rfl rfl ?_; intro w8 hb8 hf8)
  generalize w7.alloc (.cells #[.int .i64 0, .string ⟨#[]⟩, .int .i64 0, .int .i64 0, .int .i64 0, .int .i64 0, .string ⟨#[]⟩, .int .i64 0, .int .i64 0, .int .i64 0, .string ⟨#[]⟩, .string ⟨#[]⟩, .string ⟨#[]⟩, .string ⟨#[]⟩] 52) = w8' at *
  generalize hb8e : w7.heap.size = b8 at *
  have hA8 := hA8'.frm hf8 (by omega) (fun g hg => by have := hA7.own g hg; omega)
  have hb9 := hf8.blk hb8' (show ¬ b6 = b8 by omega)
  have hF8 := hF8'.then_ hf8 (fun k hk h => by omega)
  have x1 : w8.cell? ⟨b6, 1, none⟩ = some (.string ⟨#[107, 49]⟩) := by rw [Bk.cell hb9]; rfl
  have x3 : w8.cell? ⟨b8, 3, none⟩ = some (.int .i64 8) := by rw [Bk.cell hb8]; rfl
  go_wp2_with fail
  refine (len_any xb _ _ _ hA8).mono ?_
  rintro e w9 ⟨rfl, rfl⟩
  go_wp2
  go_ret
  exact ⟨rfl, hF8⟩
end
end Ix
end Go.Proofs.Ythggbohoedfkpaa
