/- A histogram: contracts of New, Add, Count, In. -/
import Derived.Test.YtmpbgnopejeelaaHic
import Derived.Deep.RegionWith
namespace Go.Proofs.Ytmpbgnopejeelaa
open Go.RowKit
set_option linter.unusedVariables false
set_option linter.unusedSimpArgs false

theorem zero_hist : Try.zeroCells67 = Array.replicate 306 (Value.int .i64 0) := by kernel_rfl
namespace Hs
structure At (w : World) (hb : Nat) (q : Nat → Nat) (n : Nat) : Prop where
  blk : ∃ cs, w.heap[hb]? = some (.cells cs 67 (0, 0)) ∧ cs.size = 306
  cell : ∀ c, c < 305 → w.cell? ⟨hb, c, none⟩ = some (.int .i64 (q c))
  all : w.cell? ⟨hb, 305, none⟩ = some (.int .i64 n)
section
variable {w w1 : World} {hb : Nat} {q : Nat → Nat} {n : Nat} {S : Nat → Prop}
theorem At.lt (h : At w hb q n) : hb < w.heap.size := by
  obtain ⟨cs, h1, _⟩ := h.blk
  exact Bk.lt h1
theorem At.fr (h : At w hb q n) (c : Nat) : w.frozen? ⟨hb, c, none⟩ = false := by
  obtain ⟨cs, h1, _⟩ := h.blk
  exact Bk.frozen h1 c
theorem At.frm (h : At w hb q n) (hf : Frm S w w1) (hs : ¬ S hb) : At w1 hb q n := by
  obtain ⟨cs, h1, h2⟩ := h.blk
  exact ⟨⟨cs, hf.blk h1 hs, h2⟩, fun c hc => hf.cell (h.cell c hc) hs, hf.cell h.all hs⟩
theorem At.frm0 (h : At w hb q n) (hf : Frm0 w w1) : At w1 hb q n := h.frm hf (fun h => h)
theorem At.drew (h : At w hb q n) : At w.drew hb q n := ⟨h.blk, h.cell, h.all⟩
theorem At.set (h : At w hb q n) (c : Nat) (hc : c < 305) (m : Nat) : At (w.setCell ⟨hb, c, none⟩ (.int .i64 (m : Nat))) hb (fun k => if k = c then m else q k) n := by
  obtain ⟨cs, h1, h2⟩ := h.blk
  refine ⟨⟨_, Bk.set h1 c _, by simpa using h2⟩, fun k hk => ?_, ?_⟩
  · by_cases e : k = c
    · subst e
      rw [World.cell?_setCell_same _ _ _ (h.cell k hk), if_pos rfl]
    · rw [World.cell?_setCell_other _ _ _ _ (by simp [e]), if_neg e]
      exact h.cell k hk
  · rw [World.cell?_setCell_other _ _ _ _ (by first | (simp; done) | (simp; omega))]
    exact h.all
theorem At.setAll (h : At w hb q n) (m : Nat) : At (w.setCell ⟨hb, 305, none⟩ (.int .i64 (m : Nat))) hb q m := by
  obtain ⟨cs, h1, h2⟩ := h.blk
  refine ⟨⟨_, Bk.set h1 305 _, by simpa using h2⟩, fun k hk => ?_, ?_⟩
  · rw [World.cell?_setCell_other _ _ _ _ (by first | (simp; done) | (simp; omega))]
    exact h.cell k hk
  · rw [World.cell?_setCell_same _ _ _ h.all]
end
/-- One more in a cell. -/
def bump (q : Nat → Nat) (c : Nat) : Nat → Nat := fun k => if k = c then q c + 1 else q k

theorem new_any (w : World) : Calls Try.prog 21 #[] w fun e w' => e = .returned (.pointer (some ⟨w.heap.size, 0, none⟩)) ∧ At w' w.heap.size (fun _ => 0) 0 ∧ Frm0 w w' := by
  go_enter Try.func21, Try.ntmps21
  go_wp2
  go_ret
  have hb := Bk.new w (.cells Try.zeroCells67 67)
  refine ⟨rfl, ⟨⟨_, hb, by rw [zero_hist]; simp⟩, fun c hc => ?_, ?_⟩, (Frm.refl _ _).alloc _⟩
  · rw [Bk.cell hb, zero_hist, Array.getElem?_replicate, if_pos (by omega)]
    rfl
  · rw [Bk.cell hb, zero_hist]
    simp

theorem count_any (hb : Nat) (q : Nat → Nat) (n : Nat) (w : World) (h : At w hb q n) : Calls Try.prog 26 #[.pointer (some ⟨hb, 0, none⟩)] w fun e w' => e = .returned (.int .i64 n) ∧ w = w' := by
  have c0 := h.all
  go_enter Try.func26, Try.ntmps26
  go_wp2
  go_ret
  exact ⟨rfl, rfl⟩
theorem count_nil (w : World) : Calls Try.prog 26 #[.pointer none] w fun e w' => e = .returned (.int .i64 0) ∧ w = w' := by
  go_enter Try.func26, Try.ntmps26
  go_wp2
  go_ret
  exact ⟨rfl, rfl⟩
def inI (q : Nat → Nat) (c : Int) : Nat := if 0 ≤ c ∧ c < 305 then q c.toNat else 0
theorem in_any (c : Int) (hb : Nat) (q : Nat → Nat) (n : Nat) (w : World) (h : At w hb q n) : Calls Try.prog 24 #[.pointer (some ⟨hb, 0, none⟩), .int .i64 c] w fun e w' => e = .returned (.int .i64 (inI q c)) ∧ w = w' := by
  by_cases hc : 0 ≤ c ∧ c < 305
  · unfold inI
    rw [if_pos hc]
    obtain ⟨k, rfl⟩ := Int.eq_ofNat_of_zero_le hc.1
    have c0 := h.cell k (by omega)
    simp only [Int.toNat_natCast]
    have d1 : decide ((k : Int) < 0) = false := decide_eq_false (by omega)
    have d2 : decide ((305 : Int) ≤ (k : Int)) = false := decide_eq_false (by omega)
    have k1 : (k : Int) < 305 := by omega
    generalize q k = m at *
    go_enter Try.func24, Try.ntmps24
    go_wp2
    go_ret
    exact ⟨rfl, rfl⟩
  · unfold inI
    rw [if_neg hc]
    by_cases h0 : c < 0
    · have d1 : decide (c < 0) = true := decide_eq_true (by omega)
      go_enter Try.func24, Try.ntmps24
      go_wp2
      go_ret
      exact ⟨rfl, rfl⟩
    · have d1 : decide (c < 0) = false := decide_eq_false (by omega)
      have d2 : decide ((305 : Int) ≤ c) = true := decide_eq_true (by omega)
      go_enter Try.func24, Try.ntmps24
      go_wp2
      go_ret
      exact ⟨rfl, rfl⟩
theorem in_nil (c : Int) (w : World) : Calls Try.prog 24 #[.pointer none, .int .i64 c] w fun e w' => e = .returned (.int .i64 0) ∧ w = w' := by
  go_enter Try.func24, Try.ntmps24
  go_wp2
  go_ret
  exact ⟨rfl, rfl⟩
theorem add_nil (a : Int) (w : World) : Calls Try.prog 22 #[.pointer none, .int .i64 a] w fun e w' => e = .returned (.tuple #[]) ∧ w = w' := by
  go_enter Try.func22, Try.ntmps22
  go_wp2
  go_returns
  exact ⟨rfl, rfl⟩
set_option maxHeartbeats 1000000 in
set_option maxRecDepth 10000 in
theorem add_any (a : Int) (hb : Nat) (q : Nat → Nat) (n : Nat) (w : World) (h : At w hb q n) (hn : n < 1000000) (hq : ∀ c, q c < 1000000) :
    Calls Try.prog 22 #[.pointer (some ⟨hb, 0, none⟩), .int .i64 a] w fun e w' => e = .returned (.tuple #[]) ∧ At w' hb (bump q (cellN (tm a).toNat)) (n + 1) ∧ Frm (fun k => k = hb) w w' := by
  have hb1 := tm_bd a
  have hc4 := (cell_in (n := (tm a).toNat) (by omega)).1
  have HC := Lib.hid (fun w => hcell_any a w)
  generalize cellN (tm a).toNat = c at *
  have c0 := h.cell c (by omega)
  have fr := h.fr c
  have hqc := hq c
  have hA1 := (h.set c (by omega) (q c + 1)).drew
  have hA2 := hA1.setAll (n + 1)
  have call := h.all
  have fall := h.fr 305
  have hF := (((Frm.refl (fun k => k = hb) w).set1 c (.int .i64 ((q c + 1 : Nat) : Int))).drew).set1 305 (.int .i64 ((n + 1 : Nat) : Int))
  have k1 : (c : Int) < 305 := by omega
  have HA2 := Lib.hid hA2
  have HF := Lib.hid hF
  clear hA1 hA2 hF hq h
  have e1 : ((q c + 1 : Nat) : Int) = (q c : Int) + 1 := by omega
  have e2 : ((n + 1 : Nat) : Int) = (n : Int) + 1 := by omega
  have HE1 := Lib.hid e1
  have HE2 := Lib.hid e2
  clear e1 e2
  generalize hm : q c = m at *
  go_enter Try.func22, Try.ntmps22
  go_wp2_with fail
  go_region_with (go_at_call 14; refine (HC.out _).mono ?_; rintro e w' ⟨rfl, rfl⟩)
  all_goals
    go_wp2
    go_returns
    have h1 := HA2.out
    have h2 := HF.out
    rw [HE1.out, HE2.out] at h1 h2
    exact ⟨rfl, by unfold bump; rw [hm]; exact h1, h2⟩
end Hs
end Go.Proofs.Ytmpbgnopejeelaa
