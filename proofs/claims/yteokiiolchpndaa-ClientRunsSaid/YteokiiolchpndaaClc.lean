/- The client: contracts of Asked, Told, Hear, Ask. -/
import Derived.Test.YteokiiolchpndaaClb
import Derived.Deep.RegionLaw
namespace Go.Proofs.Yteokiiolchpndaa
open Go.RowKit
set_option linter.unusedVariables false
set_option linter.unusedSimpArgs false

theorem flat_set {α : Type} (f : α → List Value) (sz : Nat) (hf : ∀ a, (f a).length = sz) : ∀ (l : List α) (i j : Nat) (a a' : α) (u : Value), l[i]? = some a → j < sz → (f a).set j u = f a' → (l.flatMap f).set (i * sz + j) u = (l.set i a').flatMap f
  | [], i, j, a, a', u, h, _, _ => by simp at h
  | b :: l, 0, j, a, a', u, h, hj, e => by
    simp only [List.getElem?_cons_zero, Option.some.injEq] at h
    subst h
    rw [List.flatMap_cons, Nat.zero_mul, Nat.zero_add, List.set_append_left _ _ (by rw [hf]; omega), e, List.set_cons_zero, List.flatMap_cons]
  | b :: l, i + 1, j, a, a', u, h, hj, e => by
    simp only [List.getElem?_cons_succ] at h
    have := flat_set f sz hf l i j a a' u h hj e
    rw [List.flatMap_cons, List.set_append_right _ _ (by rw [hf, Nat.add_mul]; omega), hf, show (i + 1) * sz + j - sz = i * sz + j by rw [Nat.add_mul]; omega, this, List.set_cons_succ, List.flatMap_cons]

section
variable {w : World} {cb : Nat} {id : Int} {v : Value} {ls : List Ln}
/-- What at says, in whatever world behind w. -/
def AtSays (w : World) (p : Option Addr) (s : Int) (x : Ln) (b : Bool) : Prop := ∀ w1, Frm0 w w1 → Calls Try.prog 57 #[.pointer p, .int .i64 s] w1 fun e w' => e = .returned (.tuple #[lnV x, .bool b]) ∧ Frm0 w1 w'
theorem says_yes (h : Cl w cb id v ls) (hl : ls.length ≤ 1000000) (k : Nat) (hk : k < ls.length) (s : Int) (hs : s = (k : Int) + 1) : AtSays w (some ⟨cb, 0, none⟩) s ls[k] true := fun w1 hf => at_yes (h.frm0 hf) k hk s hs hl
theorem says_no (h : Cl w cb id v ls) (s : Int) (hs : ¬ (1 ≤ s ∧ s ≤ ls.length)) : AtSays w (some ⟨cb, 0, none⟩) s ⟨rq0, none⟩ false := fun w1 hf => at_no (h.frm0 hf) s hs
theorem says_nil (w : World) (s : Int) : AtSays w none s ⟨rq0, none⟩ false := fun w1 hf => at_nil s w1
set_option maxRecDepth 100000 in
theorem asked_of {s : Int} {b : Bool} {x : Ln} {p : Option Addr} (HA : AtSays w p s x b) :
    Calls Try.prog 44 #[.pointer p, .int .i64 s] w fun e w' => e = .returned (.tuple #[rqV x.r, .bool b]) ∧ Frm0 w w' := by
  have hF0 := (Frm.refl (fun _ => False) w).alloc (.cells #[.int .i64 0, .int .i64 0, .int .i64 0, .string ⟨#[]⟩, .string ⟨#[]⟩, .string ⟨#[]⟩, .string ⟨#[]⟩] 84)
  have HA := Lib.hid (HA _ hF0)
  unfold rqV
  unfold lnV at HA
  obtain ⟨⟨y0, y1, y2, y3, y4, y5, y6⟩, a⟩ := x
  generalize Ln.ptr ⟨⟨y0, y1, y2, y3, y4, y5, y6⟩, a⟩ = y7 at *
  simp only at HA ⊢
  go_enter Try.func44, Try.ntmps44
  go_wp2_with fail
  refine HA.out.mono ?_
  rintro e w1 ⟨rfl, hf1⟩
  have hF := hF0.trans hf1
  have hb := hf1.blk (Bk.new w _) (fun h => h)
  have hlt := Bk.lt hb
  have hb2 := Bk.alloc hb (.cells #[.int .i64 y0, .int .i64 y1, .int .i64 y2, .string y3, .string y4, .string y5, .string y6, .pointer y7] 123)
  go_wp2_with (refine wpList_store_blk rfl 84 (.tmp 4) (.tmp 15) rfl hb2 rfl rfl iRq rfl rfl rfl ?_; intro w2 hb3 hf3)
  (try simp only [Exit.inBlock, Exit.then])
  refine ret_cell1 rfl Try.underlying84 rfl iRq hb3 rfl rfl rfl rfl ?_
  exact ⟨rfl, (hF.alloc _).then_ hf3 (fun i hi e => by omega)⟩
/-- What was told: nothing. -/
theorem told_no {s : Int} {b : Bool} {x : Ln} {p : Option Addr} (HA : AtSays w p s x b) (hx : x.a = none) :
    Calls Try.prog 45 #[.pointer p, .int .i64 s] w fun e w' => e = .returned (.tuple #[anV an0, .bool false]) ∧ Frm0 w w' := by
  have hF0 := (Frm.refl (fun _ => False) w).alloc (.cells #[.int .i64 0, .int .i64 0, .int .i64 0, .string ⟨#[]⟩, .int .i64 0, .int .i64 0] 86)
  have HA := Lib.hid (HA _ hF0)
  unfold anV an0
  unfold lnV at HA
  obtain ⟨⟨y0, y1, y2, y3, y4, y5, y6⟩, a⟩ := x
  simp only at hx
  subst hx
  have e7 : Ln.ptr ⟨⟨y0, y1, y2, y3, y4, y5, y6⟩, none⟩ = none := rfl
  rw [e7] at HA
  clear e7
  simp only at HA ⊢
  go_enter Try.func45, Try.ntmps45
  go_wp2_with fail
  refine HA.out.mono ?_
  rintro e w1 ⟨rfl, hf1⟩
  have hF := hF0.trans hf1
  have hb := hf1.blk (Bk.new w _) (fun h => h)
  have hlt := Bk.lt hb
  have hb2 := Bk.alloc hb (.cells #[.int .i64 y0, .int .i64 y1, .int .i64 y2, .string y3, .string y4, .string y5, .string y6, .pointer none] 123)
  go_wp2_with (refine wpList_store_blk rfl 86 (.tmp 4) (.tmp 17) rfl hb2 rfl rfl iAn rfl rfl rfl ?_; intro w2 hb3 hf3)
  (try simp only [Exit.inBlock, Exit.then])
  refine ret_cell1 rfl Try.underlying86 rfl iAn hb3 rfl rfl rfl rfl ?_
  exact ⟨rfl, (hF.alloc _).then_ hf3 (fun i hi e => by omega)⟩
/-- .. an answer. -/
theorem told_yes {s : Int} {b : Bool} {x : Ln} {p : Option Addr} (HA : AtSays w p s x b) {g : Nat} {y : An} (hx : x.a = some (g, y))
    (hg : w.heap[g]? = some (.cells #[.int .i64 y.client, .int .i64 y.serial, .int .i64 y.status, .string y.text, .int .i64 y.after, .int .i64 y.epoch] 86 (0, 0))) :
    Calls Try.prog 45 #[.pointer p, .int .i64 s] w fun e w' => e = .returned (.tuple #[anV y, .bool true]) ∧ Frm0 w w' := by
  have hF0 := (Frm.refl (fun _ => False) w).alloc (.cells #[.int .i64 0, .int .i64 0, .int .i64 0, .string ⟨#[]⟩, .int .i64 0, .int .i64 0] 86)
  have HA := Lib.hid (HA _ hF0)
  unfold anV
  unfold lnV at HA
  obtain ⟨⟨y0, y1, y2, y3, y4, y5, y6⟩, a⟩ := x
  simp only at hx
  subst hx
  have e7 : Ln.ptr ⟨⟨y0, y1, y2, y3, y4, y5, y6⟩, some (g, y)⟩ = some ⟨g, 0, none⟩ := rfl
  rw [e7] at HA
  clear e7
  obtain ⟨z0, z1, z2, z3, z4, z5⟩ := y
  simp only at HA hg ⊢
  go_enter Try.func45, Try.ntmps45
  go_wp2_with fail
  refine HA.out.mono ?_
  rintro e w1 ⟨rfl, hf1⟩
  have hF := hF0.trans hf1
  have hb := hf1.blk (Bk.new w _) (fun h => h)
  have hlt := Bk.lt hb
  have hb2 := Bk.alloc hb (.cells #[.int .i64 y0, .int .i64 y1, .int .i64 y2, .string y3, .string y4, .string y5, .string y6, .pointer (some ⟨g, 0, none⟩)] 123)
  have hg2 := Bk.alloc (hF.blk hg (fun h => h)) (.cells #[.int .i64 y0, .int .i64 y1, .int .i64 y2, .string y3, .string y4, .string y5, .string y6, .pointer (some ⟨g, 0, none⟩)] 123)
  obtain ⟨r0, r1, r2, r3, r4, r5⟩ := Bk.c6 hg2
  go_wp2_with (refine wpList_store_blk rfl 86 (.tmp 4) (.tmp 21) rfl hb2 rfl rfl iAn rfl rfl rfl ?_; intro w2 hb3 hf3)
  (try simp only [Exit.inBlock, Exit.then])
  refine ret_cell1 rfl Try.underlying86 rfl iAn hb3 rfl rfl rfl rfl ?_
  exact ⟨rfl, (hF.alloc _).then_ hf3 (fun i hi e => by omega)⟩
end
end Go.Proofs.Yteokiiolchpndaa
