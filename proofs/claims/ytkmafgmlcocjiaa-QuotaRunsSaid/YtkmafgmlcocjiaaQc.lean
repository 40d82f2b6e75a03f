/- Quota's law is awake; nobody's quota answers as the document says. -/
import Derived.Test.YtkmafgmlcocjiaaQa
import Derived.Test.YtkmafgmlcocjiaaQb
namespace Go.Proofs.Ytkmafgmlcocjiaa
open Go.RowKit Qt

theorem take_to {t : Int} {b : Nat} {most : Int} {u u' : List Int} {c : Int} {w : World} (hq : At w b most u) (h : take most u t = (u', c)) :
    Calls Try.prog 37 #[.pointer (some ⟨b, 0, none⟩), .int .i64 t] w fun e w' => e = .returned (.int .i64 c) ∧ At w' b most u' ∧ Frm (fun k => k = b) w w' := by
  have := take_any t b most u w hq
  rw [h] at this
  exact this

theorem qawake (w : World) : Calls Try.prog 32 #[] w fun e w' => e = .returned (.bool true) ∧ Frm0 w w' := by
  go_enter Try.func32, Try.ntmps32
  go_wp2_with fail
  refine (new_any 1 _).mono ?_
  rintro e w1 ⟨rfl, hq1, hf1⟩
  have hq1 : At w1 w.heap.size 1 [0, 0, 0, 0] := hq1
  go_wp2_with fail
  refine (take_to (u' := [0, 0, 1, 0]) (c := 0) hq1 rfl).mono ?_
  rintro e w2 ⟨rfl, hq2, hf2⟩
  go_wp2_with fail
  refine (take_to (u' := [0, 0, 1, 0]) (c := 2) hq2 rfl).mono ?_
  rintro e w3 ⟨rfl, hq3, hf3⟩
  go_wp2_with fail
  refine (take_to (u' := [0, 0, 1, 1]) (c := 0) hq3 rfl).mono ?_
  rintro e w4 ⟨rfl, hq4, hf4⟩
  go_wp2_with fail
  refine (all_any _ _ _ _ hq4).mono ?_
  rintro e w5 ⟨rfl, rfl⟩
  go_wp2
  go_ret
  exact ⟨rfl, hf1.then_ (hf2.trans (hf3.trans hf4)) (fun i hi h => by omega)⟩

theorem take_nil (t : Int) (w : World) : Calls Try.prog 37 #[.pointer none, .int .i64 t] w fun e w' => e = .returned (.int .i64 1) ∧ w = w' := by
  go_enter Try.func37, Try.ntmps37
  go_wp2_with (go_at_call 56; refine (has_nil _ _).mono ?_; rintro e w' ⟨rfl, rfl⟩)
  go_ret
  exact ⟨rfl, rfl⟩
theorem give_nil (t : Int) (w : World) : Calls Try.prog 35 #[.pointer none, .int .i64 t] w fun e w' => e = .returned (.int .i64 1) ∧ w = w' := by
  go_enter Try.func35, Try.ntmps35
  go_wp2_with (go_at_call 56; refine (has_nil _ _).mono ?_; rintro e w' ⟨rfl, rfl⟩)
  go_ret
  exact ⟨rfl, rfl⟩
theorem used_nil (t : Int) (w : World) : Calls Try.prog 40 #[.pointer none, .int .i64 t] w fun e w' => e = .returned (.int .i64 0) ∧ w = w' := by
  go_enter Try.func40, Try.ntmps40
  go_wp2_with (go_at_call 56; refine (has_nil _ _).mono ?_; rintro e w' ⟨rfl, rfl⟩)
  go_ret
  exact ⟨rfl, rfl⟩
theorem left_nil (t : Int) (w : World) : Calls Try.prog 41 #[.pointer none, .int .i64 t] w fun e w' => e = .returned (.int .i64 0) ∧ w = w' := by
  go_enter Try.func41, Try.ntmps41
  go_wp2_with (go_at_call 56; refine (has_nil _ _).mono ?_; rintro e w' ⟨rfl, rfl⟩)
  go_ret
  exact ⟨rfl, rfl⟩
theorem all_nil (w : World) : Calls Try.prog 42 #[.pointer none] w fun e w' => e = .returned (.int .i64 0) ∧ w = w' := by
  go_enter Try.func42, Try.ntmps42
  go_wp2
  go_ret
  exact ⟨rfl, rfl⟩
end Go.Proofs.Ytkmafgmlcocjiaa
