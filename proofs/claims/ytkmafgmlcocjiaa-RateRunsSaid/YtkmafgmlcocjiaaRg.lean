/- What the reference of rate does: contracts. -/
import Derived.Test.YtkmafgmlcocjiaaRf
namespace Go.Proofs.Ytkmafgmlcocjiaa
open Go.RowKit Rt
set_option linter.unusedVariables false
set_option linter.unusedSimpArgs false

theorem owns_frm1 {w w' : World} {base : Nat} {e : TypeId} {size g n cap : Nat} {xs : List Value} {S : Nat → Prop} (h : w.ownsRow base e size (.slice (some ⟨g, 0, none⟩) n cap) n xs) (hf : Frm S w w') (hs : ¬ S g) : w'.ownsRow base e size (.slice (some ⟨g, 0, none⟩) n cap) n xs := by
  refine ⟨h.1, ?_⟩
  rcases h.2 with ⟨h, _⟩ | ⟨g', cap', cur, he, hb, hg, hr⟩
  · cases h
  · cases he
    exact .inr ⟨g, cap, cur, rfl, hb, hf.blk hg hs, hr⟩
theorem flat_at2 {ms : List Mk} (hl : ms.length = 4) (t : Nat) (ht : t < 4) : (Rt.flat ms)[t * 2]? = some (.int .i64 (ms.getD t (0, 0)).1) ∧ (Rt.flat ms)[t * 2 + 1]? = some (.int .i64 (ms.getD t (0, 0)).2) := by
  match ms, hl, t, ht with
  | [m0, m1, m2, m3], _, 0, _ => exact ⟨rfl, rfl⟩
  | [m0, m1, m2, m3], _, 1, _ => exact ⟨rfl, rfl⟩
  | [m0, m1, m2, m3], _, 2, _ => exact ⟨rfl, rfl⟩
  | [m0, m1, m2, m3], _, 3, _ => exact ⟨rfl, rfl⟩
theorem flat_set2 {ms : List Mk} (hl : ms.length = 4) (t : Nat) (ht : t < 4) (x y : Int) : ((Rt.flat ms).set (t * 2) (.int .i64 x)).set (t * 2 + 1) (.int .i64 y) = Rt.flat (ms.set t (x, y)) := by
  match ms, hl, t, ht with
  | [m0, m1, m2, m3], _, 0, _ => rfl
  | [m0, m1, m2, m3], _, 1, _ => rfl
  | [m0, m1, m2, m3], _, 2, _ => rfl
  | [m0, m1, m2, m3], _, 3, _ => rfl
namespace Rr
structure At (w : World) (rb mb cap : Nat) (each burst : Int) (ms : List Mk) : Prop where
  ok : Rt.Ok each burst ms
  blk : w.heap[rb]? = some (.cells #[.int .i64 each, .int .i64 burst, .slice (some ⟨mb, 0, none⟩) 4 cap] 86 (0, 0))
  row : w.ownsRow (rb + 1) 88 2 (.slice (some ⟨mb, 0, none⟩) 4 cap) 4 (Rt.flat ms)
section
variable {w w1 : World} {rb mb cap : Nat} {each burst : Int} {ms : List Mk}
theorem At.c0 (h : At w rb mb cap each burst ms) : w.cell? ⟨rb, 0, none⟩ = some (.int .i64 each) := by rw [Bk.cell h.blk]; rfl
theorem At.c1 (h : At w rb mb cap each burst ms) : w.cell? ⟨rb, 1, none⟩ = some (.int .i64 burst) := by rw [Bk.cell h.blk]; rfl
theorem At.c2 (h : At w rb mb cap each burst ms) : w.cell? ⟨rb, 2, none⟩ = some (.slice (some ⟨mb, 0, none⟩) 4 cap) := by rw [Bk.cell h.blk]; rfl
theorem At.lt (h : At w rb mb cap each burst ms) : rb < mb ∧ mb < w.heap.size := by have := h.row.lt mb rfl; omega
theorem At.ct (h : At w rb mb cap each burst ms) (t : Nat) (ht : t < 4) : w.cell? ⟨mb, t * 2, none⟩ = some (.int .i64 (ms.getD t (0, 0)).1) ∧ w.cell? ⟨mb, t * 2 + 1, none⟩ = some (.int .i64 (ms.getD t (0, 0)).2) :=
  ⟨(h.row.cellAt _ (by omega)).trans (flat_at2 h.ok.len t ht).1, (h.row.cellAt _ (by omega)).trans (flat_at2 h.ok.len t ht).2⟩
theorem At.frm {S : Nat → Prop} (h : At w rb mb cap each burst ms) (hf : Frm S w w1) (hs : ¬ S rb) (hm : ¬ S mb) : At w1 rb mb cap each burst ms := ⟨h.ok, hf.blk h.blk hs, owns_frm1 h.row hf hm⟩
theorem At.set (h : At w rb mb cap each burst ms) (t : Nat) (ht : t < 4) (x y : Int) (hm : 0 ≤ x ∧ x ≤ 1099511627776 ∧ 0 ≤ y ∧ y ≤ burst) :
    At ((w.setCell ⟨mb, t * 2, none⟩ (.int .i64 x)).setCell ⟨mb, t * 2 + 1, none⟩ (.int .i64 y)) rb mb cap each burst (ms.set t (x, y)) := by
  have hlt := h.lt
  refine ⟨h.ok.set t (x, y) hm, Bk.far (Bk.far h.blk (by simp; omega) _) (by simp; omega) _, ?_⟩
  have := ((h.row.stored (t * 2) (.int .i64 x)).1.stored (t * 2 + 1) (.int .i64 y)).1
  rw [flat_set2 h.ok.len t ht] at this
  exact this
end
end Rr

/-- The reference's reckoning of a mark is the program's. -/
theorem mkAt_late {each burst : Int} {m : Mk} {now : Int} (h0 : 0 ≤ m.1 ∧ m.1 ≤ 1099511627776) (h : m.1 ≤ tm now) : mkAt each burst m now = (tm now, min (m.2 + each * (tm now - m.1)) burst) := by
  unfold mkAt lft
  rw [tm_id h0.1 h0.2]
  by_cases he : tm now ≤ m.1
  · rw [if_pos he, show tm now = m.1 by omega]
    simp
  · rw [if_neg he, show m.1 + (tm now - m.1) = tm now by omega]
theorem mkAt_early {each burst : Int} {m : Mk} {now : Int} (h0 : 0 ≤ m.1 ∧ m.1 ≤ 1099511627776 ∧ 0 ≤ m.2 ∧ m.2 ≤ burst) (h : tm now < m.1) : mkAt each burst m now = (m.1, m.2) := by
  unfold mkAt lft
  rw [tm_id h0.1 h0.2.1, if_pos (by omega)]
  congr 1
  · omega
  · rw [Int.mul_zero]; omega

set_option maxHeartbeats 1000000 in
theorem rrat_any (t : Nat) (now : Int) (rb mb cap : Nat) (each burst : Int) (ms : List Mk) (w : World) (hq : Rr.At w rb mb cap each burst ms) (ht : t < 4) :
    Calls Try.prog 59 #[.pointer (some ⟨rb, 0, none⟩), .int .i64 t, .int .i64 now] w fun e w' => e = .returned (.agg #[.int .i64 (mkAt each burst (ms.getD t (0, 0)) now).1, .int .i64 (mkAt each burst (ms.getD t (0, 0)) now).2]) ∧ Frm0 w w' := by
  have c0 := hq.c0
  have c1 := hq.c1
  have c2 := hq.c2
  obtain ⟨c3, c4⟩ := hq.ct t ht
  have hb := hq.ok.get_bd t ht
  have he := hq.ok.eb
  have hu := hq.ok.bb
  have hlt := hq.lt
  have hlb := Bk.lt hq.blk
  generalize ms.getD t (0, 0) = m at *
  obtain ⟨at_, lf⟩ := m
  simp only at c3 c4 hb
  have hl : ∀ h, _ := fun h => mkAt_late (each := each) (burst := burst) (m := (at_, lf)) (now := now) ⟨hb.1, hb.2.1⟩ h
  have hearly : ∀ h, _ := fun h => mkAt_early (each := each) (burst := burst) (m := (at_, lf)) (now := now) hb h
  simp only at hl hearly
  have HM := Lib.hid (And.intro hl hearly)
  clear hl hearly
  generalize mkAt each burst (at_, lf) now = r at *
  obtain ⟨N, hN⟩ : ∃ N, tm now = N := ⟨_, rfl⟩
  have hNb := tm_bd now
  rw [hN] at HM hNb
  have HN := Lib.hid hN
  clear hN
  by_cases hlate : N < at_
  · have hr := HM.out.2 hlate
    subst hr
    go_enter Try.func59, Try.ntmps59
    go_wp2_with (go_at_call 17; refine (rtime_to HN.out _).mono ?_; rintro e w' ⟨rfl, rfl⟩)
    go_quiet (fail)
    go_wp2
    refine bodyPost_ret (v := .agg #[.int .i64 at_, .int .i64 lf]) (by simp [results, Try.results59, go_sem]) rfl ⟨rfl, ?_⟩
    exact (((((Frm.refl _ _).alloc _).alloc _).drewN _).setCell _ (fun h => absurd h (Nat.lt_irrefl _)) _).setCell _ (fun h => absurd h (Nat.lt_irrefl _)) _
  · have hr := HM.out.1 (by omega)
    have hmu := mul_bd (g := N - at_) he (by omega)
    generalize hP : each * (N - at_) = P at *
    have e2 : IntKind.i64.wrap P = P := IntWalk.i64_in _ (by omega)
    have e3 : IntKind.i64.wrap (lf + P) = lf + P := IntWalk.i64_in _ (by omega)
    by_cases hmin : lf + P ≤ burst
    · rw [show min (lf + P) burst = lf + P by omega] at hr
      subst hr
      go_enter Try.func59, Try.ntmps59
      go_wp2_with (go_at_call 17; refine (rtime_to HN.out _).mono ?_; rintro e w' ⟨rfl, rfl⟩)
      go_quiet (fail)
      go_wp2
      refine bodyPost_ret (v := .agg #[.int .i64 N, .int .i64 (lf + P)]) (by simp [results, Try.results59, go_sem]) rfl ⟨rfl, ?_⟩
      exact (((((Frm.refl _ _).alloc _).alloc _).drewN _).setCell _ (fun h => absurd h (Nat.lt_irrefl _)) _).setCell _ (fun h => absurd h (Nat.lt_irrefl _)) _
    · rw [show min (lf + P) burst = burst by omega] at hr
      subst hr
      go_enter Try.func59, Try.ntmps59
      go_wp2_with (go_at_call 17; refine (rtime_to HN.out _).mono ?_; rintro e w' ⟨rfl, rfl⟩)
      go_quiet (fail)
      go_wp2
      refine bodyPost_ret (v := .agg #[.int .i64 N, .int .i64 burst]) (by simp [results, Try.results59, go_sem]) rfl ⟨rfl, ?_⟩
      exact (((((Frm.refl _ _).alloc _).alloc _).drewN _).setCell _ (fun h => absurd h (Nat.lt_irrefl _)) _).setCell _ (fun h => absurd h (Nat.lt_irrefl _)) _
end Go.Proofs.Ytkmafgmlcocjiaa
