/- Packed numbers: the opener's Raw, number, Num, Text. -/
import Derived.Test.YthggbohoedfkpaaPkc
namespace Go.Proofs.Ythggbohoedfkpaa
open Go.RowKit
set_option linter.unusedVariables false
set_option linter.unusedSimpArgs false
set_option maxRecDepth 100000
theorem max_is (a b c : Int) (h : (if a < b then b else a) = c) : ∀ ats ty, Builtin.max_ ats ty #[.int .i64 a, .int .i64 b] = pure (.int .i64 c) := fun ats ty => by
  subst h; simp only [Builtin.max_, List.foldlM_cons, List.foldlM_nil, Builtin.max2, gt_iff_lt]; rfl
namespace Pk
theorem oraw_ok (n : Int) (m : Nat) (ob : Nat) (s : ByteArray) (w : World) (h : Op w ob s false) (hm : (if n < 0 then (0 : Int) else n) = m) (hs : m ≤ s.size) (hs2 : s.size ≤ 1000000000) :
    Calls Try.prog 75 #[.pointer (some ⟨ob, 0, none⟩), .int .i64 n] w fun e w' => e = .returned (.string (s.extract 0 m)) ∧ Op w' ob (s.extract m s.size) false ∧ Frm (fun k => k = ob) w w' := by
  have m1 := max_is n 0 m hm
  have c0 := h.c0
  have f0 := h.fr 0
  have HO := Lib.hid (ook_any ob s false w h)
  have hfin : Op (w.setCell ⟨ob, 0, none⟩ (.string (s.extract m s.size))) ob (s.extract m s.size) false := ⟨Bk.set h.blk 0 _⟩
  have HF := Lib.hid hfin
  have hmi : (m : Int) ≤ (s.size : Int) := by omega
  have d1 : decide ((s.size : Int) < (m : Int)) = false := decide_eq_false (by omega)
  have d2 : ¬ s.size < m := by omega
  clear hfin hm h
  go_enter Try.func75, Try.ntmps75
  go_wp2_with fail
  refine HO.out.mono ?_
  rintro e w' ⟨rfl, rfl⟩
  go_wp2
  go_ret
  exact ⟨rfl, HF.out, (Frm.refl (fun k => k = ob) w).set1 0 _⟩
theorem oraw_bad (n : Int) (ob : Nat) (s : ByteArray) (w : World) (h : Op w ob s true) :
    Calls Try.prog 75 #[.pointer (some ⟨ob, 0, none⟩), .int .i64 n] w fun e w' => e = .returned (.string ⟨#[]⟩) ∧ Op w' ob ⟨#[]⟩ true ∧ Frm (fun k => k = ob) w w' := by
  obtain ⟨X, hX⟩ : ∃ X, (if n < 0 then (0 : Int) else n) = X := ⟨_, rfl⟩
  have m1 := max_is n 0 X hX
  have HO := Lib.hid (ook_any ob s true w h)
  have HF := Lib.hid (fail_any ob s true w h)
  clear hX
  go_enter Try.func75, Try.ntmps75
  go_wp2_with fail
  refine HO.out.mono ?_
  rintro e w' ⟨rfl, rfl⟩
  go_wp2_with fail
  refine HF.out.mono ?_
  rintro e w1 ⟨rfl, h1, hf1⟩
  go_wp2
  go_ret
  exact ⟨rfl, h1, hf1⟩
theorem oraw_short (n : Int) (ob : Nat) (s : ByteArray) (w : World) (h : Op w ob s false) (hs : (s.size : Int) < (if n < 0 then (0 : Int) else n)) :
    Calls Try.prog 75 #[.pointer (some ⟨ob, 0, none⟩), .int .i64 n] w fun e w' => e = .returned (.string ⟨#[]⟩) ∧ Op w' ob ⟨#[]⟩ true ∧ Frm (fun k => k = ob) w w' := by
  obtain ⟨X, hX⟩ : ∃ X, (if n < 0 then (0 : Int) else n) = X := ⟨_, rfl⟩
  have m1 := max_is n 0 X hX
  rw [hX] at hs
  have c0 := h.c0
  have HO := Lib.hid (ook_any ob s false w h)
  have HF := Lib.hid (fail_any ob s false w h)
  have d1 : decide ((s.size : Int) < X) = true := decide_eq_true hs
  clear hX
  go_enter Try.func75, Try.ntmps75
  go_wp2_with fail
  refine HO.out.mono ?_
  rintro e w' ⟨rfl, rfl⟩
  go_wp2_with fail
  refine HF.out.mono ?_
  rintro e w1 ⟨rfl, h1, hf1⟩
  go_wp2
  go_ret
  exact ⟨rfl, h1, hf1⟩
theorem oraw_nil (n : Int) (w : World) : Calls Try.prog 75 #[.pointer none, .int .i64 n] w fun e w' => e = .returned (.string ⟨#[]⟩) ∧ w = w' := by
  obtain ⟨X, hX⟩ : ∃ X, (if n < 0 then (0 : Int) else n) = X := ⟨_, rfl⟩
  have m1 := max_is n 0 X hX
  clear hX
  go_enter Try.func75, Try.ntmps75
  go_wp2_with fail
  refine (ook_nil _).mono ?_
  rintro e w' ⟨rfl, rfl⟩
  go_wp2_with fail
  refine (fail_nil _).mono ?_
  rintro e w' ⟨rfl, rfl⟩
  go_wp2
  go_ret
  exact ⟨rfl, rfl⟩
theorem number_nil (w : World) : Calls Try.prog 62 #[.pointer none] w fun e w' => e = .returned (.int .i64 (-1)) ∧ w = w' := by
  go_enter Try.func62, Try.ntmps62
  go_wp2_with fail
  go_loop [6] (fun i => i = .int .i64 0) (fun _ => 0)
  case atStart => rfl
  case round =>
    obtain rfl := hrel
    go_wp2_with fail
    refine (oraw_nil _ _).mono ?_
    rintro e w' ⟨rfl, rfl⟩
    go_wp2
    go_ret
    exact ⟨rfl, rfl⟩
theorem onum_nil (n : Int) (w : World) : Calls Try.prog 46 #[.pointer none, .int .i64 n] w fun e w' => e = .returned (.int .i64 0) ∧ w = w' := by
  go_enter Try.func46, Try.ntmps46
  go_wp2_with fail
  refine (number_nil _).mono ?_
  rintro e w' ⟨rfl, rfl⟩
  go_wp2_with fail
  refine (ook_nil _).mono ?_
  rintro e w' ⟨rfl, rfl⟩
  go_wp2_with fail
  refine (fail_nil _).mono ?_
  rintro e w' ⟨rfl, rfl⟩
  go_wp2
  go_ret
  exact ⟨rfl, rfl⟩
end Pk
end Go.Proofs.Ythggbohoedfkpaa
