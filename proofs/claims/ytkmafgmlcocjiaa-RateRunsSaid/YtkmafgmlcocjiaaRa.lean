/- What each function of rate does to a rate: contracts, for every rate whose buckets lie within their bounds. -/
import Derived.Test.YtkmafgmlcocjiaaNum
import Derived.StillTailTactics
namespace Go.Proofs.Ytkmafgmlcocjiaa
open Go.RowKit
set_option linter.unusedVariables false
set_option linter.unusedSimpArgs false

namespace Rt
abbrev Mk := Int × Int
def flat (ms : List Mk) : List Value := ms.flatMap fun m => [.int .i64 m.1, .int .i64 m.2]
/-- A bucket, at a time. -/
def mkAt (each burst : Int) (m : Mk) (now : Int) : Mk := (m.1 + lft m.1 now, min (m.2 + each * lft m.1 now) burst)
structure Ok (each burst : Int) (ms : List Mk) : Prop where
  len : ms.length = 4
  eb : 0 ≤ each ∧ each ≤ 1000
  bb : 1 ≤ burst ∧ burst ≤ 1000
  bd : ∀ m ∈ ms, 0 ≤ m.1 ∧ m.1 ≤ 1099511627776 ∧ 0 ≤ m.2 ∧ m.2 ≤ burst
def get (ms : List Mk) (t : Int) : Mk := ms.getD t.toNat (0, 0)
def ok (t : Int) : Bool := decide (0 ≤ t ∧ t < 4)
def left (each burst : Int) (ms : List Mk) (t now : Int) : Int := if ok t = true then (mkAt each burst (Rt.get ms t) now).2 else 0
def take (each burst : Int) (ms : List Mk) (t now n : Int) : List Mk × Int :=
  if ok t = true ∧ 1 ≤ n then
    (if (mkAt each burst (Rt.get ms t) now).2 < n then (ms, 2) else (ms.set t.toNat ((mkAt each burst (Rt.get ms t) now).1, (mkAt each burst (Rt.get ms t) now).2 - n), 0))
  else (ms, 1)
def after (each burst : Int) (ms : List Mk) (t now n : Int) : Int :=
  if ok t = true then
    (if n ≤ (mkAt each burst (Rt.get ms t) now).2 then 0 else if burst < n ∨ each = 0 then -1 else (n - (mkAt each burst (Rt.get ms t) now).2 + each - 1) / each)
  else -1

theorem lft_bd (a b : Int) : 0 ≤ lft a b ∧ lft a b ≤ 1099511627776 := by
  have := tm_bd a
  have := tm_bd b
  unfold lft
  split <;> omega
theorem lft_in {a : Int} (b : Int) (h0 : 0 ≤ a) (h1 : a ≤ 1099511627776) : a + lft a b ≤ 1099511627776 := by
  have := tm_bd b
  unfold lft
  rw [tm_id h0 h1]
  split <;> omega
theorem mul_bd {each g : Int} (he : 0 ≤ each ∧ each ≤ 1000) (hg : 0 ≤ g ∧ g ≤ 1099511627776) : 0 ≤ each * g ∧ each * g ≤ 1099511627776000 := by
  refine ⟨Int.mul_nonneg he.1 hg.1, ?_⟩
  have := Int.mul_le_mul he.2 hg.2 hg.1 (by omega : (0 : Int) ≤ 1000)
  omega
theorem mkAt_bd {each burst : Int} {m : Mk} (now : Int) (he : 0 ≤ each ∧ each ≤ 1000) (hb : 1 ≤ burst ∧ burst ≤ 1000) (hm : 0 ≤ m.1 ∧ m.1 ≤ 1099511627776 ∧ 0 ≤ m.2 ∧ m.2 ≤ burst) :
    0 ≤ (mkAt each burst m now).1 ∧ (mkAt each burst m now).1 ≤ 1099511627776 ∧ 0 ≤ (mkAt each burst m now).2 ∧ (mkAt each burst m now).2 ≤ burst := by
  have h1 := lft_bd m.1 now
  have h2 := lft_in now hm.1 hm.2.1
  have h3 := mul_bd he h1
  unfold mkAt
  simp only
  omega
theorem Ok.get_bd {each burst : Int} {ms : List Mk} (h : Ok each burst ms) (t : Nat) (ht : t < 4) : 0 ≤ (ms.getD t (0, 0)).1 ∧ (ms.getD t (0, 0)).1 ≤ 1099511627776 ∧ 0 ≤ (ms.getD t (0, 0)).2 ∧ (ms.getD t (0, 0)).2 ≤ burst := by
  have hl := h.len
  rw [List.getD_eq_getElem?_getD, List.getElem?_eq_getElem (by omega)]
  exact h.bd _ (List.getElem_mem _)
theorem Ok.set {each burst : Int} {ms : List Mk} (h : Ok each burst ms) (t : Nat) (m : Mk) (hm : 0 ≤ m.1 ∧ m.1 ≤ 1099511627776 ∧ 0 ≤ m.2 ∧ m.2 ≤ burst) : Ok each burst (ms.set t m) := by
  refine ⟨by simp [h.len], h.eb, h.bb, fun y hy => ?_⟩
  rcases List.mem_or_eq_of_mem_set hy with hy | rfl
  · exact h.bd y hy
  · exact hm
def cells (each burst : Int) (ms : List Mk) : Array Value := (Value.int .i64 each :: Value.int .i64 burst :: flat ms).toArray
structure At (w : World) (b : Nat) (each burst : Int) (ms : List Mk) : Prop where
  ok : Ok each burst ms
  blk : w.heap[b]? = some (.cells (cells each burst ms) 83 (0, 0))
theorem flat4 (m0 m1 m2 m3 : Mk) : flat [m0, m1, m2, m3] = [.int .i64 m0.1, .int .i64 m0.2, .int .i64 m1.1, .int .i64 m1.2, .int .i64 m2.1, .int .i64 m2.2, .int .i64 m3.1, .int .i64 m3.2] := rfl
section
variable {w w1 : World} {b : Nat} {each burst : Int} {ms : List Mk}
theorem At.c0 (h : At w b each burst ms) : w.cell? ⟨b, 0, none⟩ = some (.int .i64 each) := by rw [Bk.cell h.blk]; rfl
theorem At.c1 (h : At w b each burst ms) : w.cell? ⟨b, 1, none⟩ = some (.int .i64 burst) := by rw [Bk.cell h.blk]; rfl
theorem At.ct (h : At w b each burst ms) (t : Nat) (ht : t < 4) : w.cell? ⟨b, 2 + t * 2, none⟩ = some (.int .i64 (ms.getD t (0, 0)).1) ∧ w.cell? ⟨b, 2 + t * 2 + 1, none⟩ = some (.int .i64 (ms.getD t (0, 0)).2) := by
  have hl := h.ok.len
  rw [Bk.cell h.blk, Bk.cell h.blk]
  match ms, hl, t, ht with
  | [m0, m1, m2, m3], _, 0, _ => exact ⟨rfl, rfl⟩
  | [m0, m1, m2, m3], _, 1, _ => exact ⟨rfl, rfl⟩
  | [m0, m1, m2, m3], _, 2, _ => exact ⟨rfl, rfl⟩
  | [m0, m1, m2, m3], _, 3, _ => exact ⟨rfl, rfl⟩
theorem At.frm {S : Nat → Prop} (h : At w b each burst ms) (hf : Frm S w w1) (hs : ¬ S b) : At w1 b each burst ms := ⟨h.ok, hf.blk h.blk hs⟩
theorem At.set (h : At w b each burst ms) (t : Nat) (ht : t < 4) (x y : Int) (hm : 0 ≤ x ∧ x ≤ 1099511627776 ∧ 0 ≤ y ∧ y ≤ burst) :
    At ((w.setCell ⟨b, 2 + t * 2, none⟩ (.int .i64 x)).setCell ⟨b, 2 + t * 2 + 1, none⟩ (.int .i64 y)) b each burst (ms.set t (x, y)) := by
  refine ⟨h.ok.set t (x, y) hm, ?_⟩
  rw [Bk.set (Bk.set h.blk _ _)]
  have hl := h.ok.len
  match ms, hl, t, ht with
  | [m0, m1, m2, m3], _, 0, _ => rfl
  | [m0, m1, m2, m3], _, 1, _ => rfl
  | [m0, m1, m2, m3], _, 2, _ => rfl
  | [m0, m1, m2, m3], _, 3, _ => rfl
end
end Rt
open Rt

theorem rhas_nil (t : Int) (w : World) : Calls Try.prog 57 #[.pointer none, .int .i64 t] w fun e w' => e = .returned (.bool false) ∧ w = w' := by
  go_enter Try.func57, Try.ntmps57
  go_wp2
  go_ret
  exact ⟨rfl, rfl⟩
theorem rhas_yes (t : Int) (a : Addr) (w : World) (h0 : 0 ≤ t) (h4 : t < 4) : Calls Try.prog 57 #[.pointer (some a), .int .i64 t] w fun e w' => e = .returned (.bool true) ∧ w = w' := by
  go_enter Try.func57, Try.ntmps57
  go_wp2
  go_ret
  exact ⟨rfl, rfl⟩
theorem rhas_no (t : Int) (a : Addr) (w : World) (h : ¬ (0 ≤ t ∧ t < 4)) : Calls Try.prog 57 #[.pointer (some a), .int .i64 t] w fun e w' => e = .returned (.bool false) ∧ w = w' := by
  by_cases h0 : 0 ≤ t
  · have h4 : 4 ≤ t := by omega
    clear h
    go_enter Try.func57, Try.ntmps57
    go_wp2
    go_ret
    exact ⟨by simp; omega, rfl⟩
  · clear h
    go_enter Try.func57, Try.ntmps57
    go_wp2
    go_ret
    exact ⟨rfl, rfl⟩

set_option maxHeartbeats 1000000 in
theorem rnow_any (t : Nat) (now : Int) (b : Nat) (each burst : Int) (ms : List Mk) (w : World) (hq : Rt.At w b each burst ms) (ht : t < 4) :
    Calls Try.prog 58 #[.pointer (some ⟨b, 0, none⟩), .int .i64 t, .int .i64 now] w fun e w' => e = .returned (.agg #[.int .i64 (mkAt each burst (ms.getD t (0, 0)) now).1, .int .i64 (mkAt each burst (ms.getD t (0, 0)) now).2]) ∧ Frm0 w w' := by
  have c0 := hq.c0
  have c1 := hq.c1
  have ct := hq.ct t ht
  obtain ⟨c2, c3⟩ := ct
  have hb := hq.ok.get_bd t ht
  have he := hq.ok.eb
  have hu := hq.ok.bb
  have hlt := Bk.lt hq.blk
  generalize ms.getD t (0, 0) = m at *
  obtain ⟨at_, lf⟩ := m
  simp only at c2 c3 hb
  have hl := lft_bd at_ now
  have hli := lft_in now hb.1 hb.2.1
  have hmu := mul_bd he hl
  have HM := Lib.hid (show mkAt each burst (at_, lf) now = (at_ + lft at_ now, min (lf + each * lft at_ now) burst) from rfl)
  generalize mkAt each burst (at_, lf) now = r at *
  generalize hg : lft at_ now = g at *
  have HG := Lib.hid hg
  clear hg
  go_enter Try.func58, Try.ntmps58
  go_wp2_with (go_at_call 21; refine (left_num_to HG.out _).mono ?_; rintro e w' ⟨rfl, rfl⟩)
  have e1 : IntKind.i64.wrap (at_ + g) = at_ + g := IntWalk.i64_in _ (by omega)
  have e2 : IntKind.i64.wrap (each * g) = each * g := IntWalk.i64_in _ (by omega)
  have e3 : IntKind.i64.wrap (lf + each * g) = lf + each * g := IntWalk.i64_in _ (by omega)
  by_cases hmin : lf + each * g ≤ burst
  · have hr : r = (at_ + g, lf + each * g) := by rw [HM.out]; congr 1; omega
    have HR := Lib.hid hr
    clear hr
    refine st_tail 19 (by kernel_rfl) (by kernel_rfl) ?_
    simp only [List.take_succ_cons, List.take_zero, List.drop_succ_cons, List.drop_zero]
    repeat still_step
    refine wpStill_nil ?_
    clear e1 e2 e3
    go_wp2
    refine bodyPost_ret (v := .agg #[.int .i64 r.1, .int .i64 r.2]) (by rw [HR.out]; simp [results, Try.results58, go_sem]) rfl ⟨rfl, ?_⟩
    exact (((Frm.refl _ _).alloc _).alloc _).drew
  · have hr : r = (at_ + g, burst) := by rw [HM.out]; congr 1; omega
    have HR := Lib.hid hr
    clear hr
    refine st_tail 19 (by kernel_rfl) (by kernel_rfl) ?_
    simp only [List.take_succ_cons, List.take_zero, List.drop_succ_cons, List.drop_zero]
    repeat still_step
    refine wpStill_nil ?_
    clear e1 e2 e3
    go_wp2
    refine bodyPost_ret (v := .agg #[.int .i64 r.1, .int .i64 r.2]) (by rw [HR.out]; simp [results, Try.results58, go_sem]) rfl ⟨rfl, ?_⟩
    exact (((Frm.refl _ _).alloc _).alloc _).drew

theorem okT {t : Int} (h : 0 ≤ t ∧ t < 4) : Rt.ok t = true := by simp [Rt.ok]; omega
theorem okF {t : Int} (h : ¬ (0 ≤ t ∧ t < 4)) : ¬ Rt.ok t = true := by simp [Rt.ok]; omega
theorem fld80 (x y : Value) (w : World) : (Instr.field 80 (.agg #[x, y]) 1).run Try.prog w = .ok y w := by kernel_rfl

theorem rleft_any (t now : Int) (b : Nat) (each burst : Int) (ms : List Mk) (w : World) (hq : Rt.At w b each burst ms) :
    Calls Try.prog 50 #[.pointer (some ⟨b, 0, none⟩), .int .i64 t, .int .i64 now] w fun e w' => e = .returned (.int .i64 (Rt.left each burst ms t now)) ∧ Frm0 w w' := by
  by_cases h : 0 ≤ t ∧ t < 4
  · have HP : Rt.left each burst ms t now = (mkAt each burst (ms.getD t.toNat (0, 0)) now).2 := by unfold Rt.left; rw [if_pos (okT h)]; rfl
    rw [HP]
    clear HP
    obtain ⟨h0, h4⟩ := h
    obtain ⟨t, rfl⟩ := Int.eq_ofNat_of_zero_le h0
    have ht : t < 4 := by omega
    rw [Int.toNat_natCast]
    have HQ := hq
    have hfd := fld80
    go_enter Try.func50, Try.ntmps50
    go_wp2_with (first | (go_at_call 57; refine (rhas_yes _ _ _ (by omega) (by omega)).mono ?_; rintro e w' ⟨rfl, rfl⟩) | (go_at_call 58; refine (rnow_any t now b each burst ms _ HQ ht).mono ?_; rintro e w' ⟨rfl, hf'⟩))
    go_ret
    exact ⟨rfl, hf'⟩
  · have HP : Rt.left each burst ms t now = 0 := by unfold Rt.left; rw [if_neg (okF h)]
    rw [HP]
    clear HP
    go_enter Try.func50, Try.ntmps50
    go_wp2_with (go_at_call 57; refine (rhas_no _ _ _ (by omega)).mono ?_; rintro e w' ⟨rfl, rfl⟩)
    go_ret
    exact ⟨rfl, Frm.refl _ _⟩

set_option maxHeartbeats 1000000 in
theorem rtake_any (t now n : Int) (b : Nat) (each burst : Int) (ms : List Mk) (w : World) (hq : Rt.At w b each burst ms) :
    Calls Try.prog 48 #[.pointer (some ⟨b, 0, none⟩), .int .i64 t, .int .i64 now, .int .i64 n] w fun e w' => e = .returned (.int .i64 (Rt.take each burst ms t now n).2) ∧ Rt.At w' b each burst (Rt.take each burst ms t now n).1 ∧ Frm (fun k => k = b) w w' := by
  by_cases h : 0 ≤ t ∧ t < 4
  · by_cases hn : 1 ≤ n
    · obtain ⟨h0, h4⟩ := h
      obtain ⟨t, rfl⟩ := Int.eq_ofNat_of_zero_le h0
      have ht : t < 4 := by omega
      have hr := mkAt_bd now hq.ok.eb hq.ok.bb (hq.ok.get_bd t ht)
      have hu := hq.ok.bb
      have HQ := hq
      have hlt := Bk.lt hq.blk
      have HT : Rt.take each burst ms (t : Int) now n = if (mkAt each burst (ms.getD t (0, 0)) now).2 < n then (ms, 2) else (ms.set t ((mkAt each burst (ms.getD t (0, 0)) now).1, (mkAt each burst (ms.getD t (0, 0)) now).2 - n), 0) := by
        unfold Rt.take Rt.get
        rw [if_pos ⟨okT (by omega), hn⟩, Int.toNat_natCast]
      have HNOW := Lib.hid (show ∀ w, Rt.At w b each burst ms → Calls Try.prog 58 #[.pointer (some ⟨b, 0, none⟩), .int .i64 t, .int .i64 now] w fun e w' => e = .returned (.agg #[.int .i64 (mkAt each burst (ms.getD t (0, 0)) now).1, .int .i64 (mkAt each burst (ms.getD t (0, 0)) now).2]) ∧ Frm0 w w' from fun w h => rnow_any t now b each burst ms w h ht)
      generalize mkAt each burst (ms.getD t (0, 0)) now = r at *
      obtain ⟨r1, r2⟩ := r
      simp only at hr HT HNOW
      by_cases hf : r2 < n
      · rw [HT, if_pos hf]
        clear HT
        go_enter Try.func48, Try.ntmps48
        go_wp2_with (first | (go_at_call 57; refine (rhas_yes _ _ _ (by omega) (by omega)).mono ?_; rintro e w' ⟨rfl, rfl⟩) | (go_at_call 58; refine (HNOW.out _ HQ).mono ?_; rintro e w' ⟨rfl, hf'⟩))
        go_ret
        exact ⟨rfl, (hq.frm hf' (fun h => h)).frm ((Frm.refl (fun _ => False) _).alloc _) (fun h => h), (hf'.of0).alloc _⟩
      · rw [HT, if_neg hf]
        clear HT
        go_enter Try.func48, Try.ntmps48
        go_wp2_with (first | (go_at_call 57; refine (rhas_yes _ _ _ (by omega) (by omega)).mono ?_; rintro e w' ⟨rfl, rfl⟩) | (go_at_call 58; refine (HNOW.out _ HQ).mono ?_; rintro e w' ⟨rfl, hf'⟩))
        have hq' := hq.frm hf' (fun h => h)
        have ct := hq'.ct t ht
        obtain ⟨c2, c3⟩ := ct
        have f2 := Bk.frozen hq'.blk (2 + t * 2)
        have f3 := Bk.frozen hq'.blk (2 + t * 2 + 1)
        have hlt' := Bk.lt hq'.blk
        refine st_tail 6 (by kernel_rfl) (by kernel_rfl) ?_
        simp only [List.take_succ_cons, List.take_zero, List.drop_succ_cons, List.drop_zero]
        repeat still_step
        refine wpStill_nil ?_
        go_wp2
        go_ret
        exact ⟨rfl, (hq'.set t ht r1 (r2 - n) ⟨hr.1, hr.2.1, by omega, by omega⟩).frm (((Frm.refl (fun _ => False) _).alloc _).drew) (fun h => h), (((hf'.of0.set1 _ _).set1 _ _).alloc _).drew⟩
    · have HP : Rt.take each burst ms t now n = (ms, 1) := by unfold Rt.take; rw [if_neg (fun h => hn h.2)]
      rw [HP]
      clear HP
      obtain ⟨h0, h4⟩ := h
      go_enter Try.func48, Try.ntmps48
      go_wp2_with (go_at_call 57; refine (rhas_yes _ _ _ (by omega) (by omega)).mono ?_; rintro e w' ⟨rfl, rfl⟩)
      go_ret
      exact ⟨rfl, hq, Frm.refl _ _⟩
  · have HP : Rt.take each burst ms t now n = (ms, 1) := by unfold Rt.take; rw [if_neg (fun h' => okF h h'.1)]
    rw [HP]
    clear HP
    go_enter Try.func48, Try.ntmps48
    go_wp2_with (go_at_call 57; refine (rhas_no _ _ _ (by omega)).mono ?_; rintro e w' ⟨rfl, rfl⟩)
    go_ret
    exact ⟨rfl, hq, Frm.refl _ _⟩

set_option maxHeartbeats 1000000 in
theorem rafter_any (t now n : Int) (b : Nat) (each burst : Int) (ms : List Mk) (w : World) (hq : Rt.At w b each burst ms) (hwf : (Lit.int .i64 n).wf = true) :
    Calls Try.prog 46 #[.pointer (some ⟨b, 0, none⟩), .int .i64 t, .int .i64 now, .int .i64 n] w fun e w' => e = .returned (.int .i64 (Rt.after each burst ms t now n)) ∧ Frm0 w w' := by
  by_cases h : 0 ≤ t ∧ t < 4
  · obtain ⟨h0, h4⟩ := h
    obtain ⟨t, rfl⟩ := Int.eq_ofNat_of_zero_le h0
    have ht : t < 4 := by omega
    have hr := mkAt_bd now hq.ok.eb hq.ok.bb (hq.ok.get_bd t ht)
    have hu := hq.ok.bb
    have he := hq.ok.eb
    have HQ := hq
    have hfd := fld80
    have HT : Rt.after each burst ms (t : Int) now n = if n ≤ (mkAt each burst (ms.getD t (0, 0)) now).2 then 0 else if burst < n ∨ each = 0 then -1 else (n - (mkAt each burst (ms.getD t (0, 0)) now).2 + each - 1) / each := by
      unfold Rt.after Rt.get
      rw [if_pos (okT (by omega)), Int.toNat_natCast]
    have HNOW := Lib.hid (show ∀ w, Rt.At w b each burst ms → Calls Try.prog 58 #[.pointer (some ⟨b, 0, none⟩), .int .i64 t, .int .i64 now] w fun e w' => e = .returned (.agg #[.int .i64 (mkAt each burst (ms.getD t (0, 0)) now).1, .int .i64 (mkAt each burst (ms.getD t (0, 0)) now).2]) ∧ Frm0 w w' from fun w h => rnow_any t now b each burst ms w h ht)
    generalize mkAt each burst (ms.getD t (0, 0)) now = r at *
    obtain ⟨r1, r2⟩ := r
    simp only at hr HT HNOW
    by_cases hf : n ≤ r2
    · rw [HT, if_pos hf]
      clear HT
      go_enter Try.func46, Try.ntmps46
      go_wp2_with (first | (go_at_call 57; refine (rhas_yes _ _ _ (by omega) (by omega)).mono ?_; rintro e w' ⟨rfl, rfl⟩) | (go_at_call 58; refine (HNOW.out _ HQ).mono ?_; rintro e w' ⟨rfl, hf'⟩; have c0 := (hq.frm hf' (fun h => h)).c0; have c1 := (hq.frm hf' (fun h => h)).c1))
      go_ret
      exact ⟨rfl, hf'⟩
    · by_cases hbu : burst < n
      · rw [HT, if_neg hf, if_pos (.inl hbu)]
        clear HT
        go_enter Try.func46, Try.ntmps46
        go_wp2_with (first | (go_at_call 57; refine (rhas_yes _ _ _ (by omega) (by omega)).mono ?_; rintro e w' ⟨rfl, rfl⟩) | (go_at_call 58; refine (HNOW.out _ HQ).mono ?_; rintro e w' ⟨rfl, hf'⟩; have c0 := (hq.frm hf' (fun h => h)).c0; have c1 := (hq.frm hf' (fun h => h)).c1))
        go_ret
        exact ⟨rfl, hf'⟩
      · by_cases hz : each = 0
        · rw [HT, if_neg hf, if_pos (.inr hz)]
          clear HT
          have hzb : (each == 0) = true := by rw [beq_iff_eq]; exact hz
          clear hz
          go_enter Try.func46, Try.ntmps46
          go_wp2_with (first | (go_at_call 57; refine (rhas_yes _ _ _ (by omega) (by omega)).mono ?_; rintro e w' ⟨rfl, rfl⟩) | (go_at_call 58; refine (HNOW.out _ HQ).mono ?_; rintro e w' ⟨rfl, hf'⟩; have c0 := (hq.frm hf' (fun h => h)).c0; have c1 := (hq.frm hf' (fun h => h)).c1))
          go_ret
          exact ⟨rfl, hf'⟩
        · rw [HT, if_neg hf, if_neg (by omega)]
          clear HT
          have hzb : (each == 0) = false := by rw [beq_eq_false_iff_ne]; exact hz
          have e1 : IntKind.i64.wrap (n - r2) = n - r2 := IntWalk.i64_in _ (by omega)
          have e2 : IntKind.i64.wrap (n - r2 + each) = n - r2 + each := IntWalk.i64_in _ (by omega)
          have e3 : IntKind.i64.wrap (n - r2 + each - 1) = n - r2 + each - 1 := IntWalk.i64_in _ (by omega)
          have E := Lib.hid (And.intro e1 (And.intro e2 e3))
          clear e1 e2 e3
          go_enter Try.func46, Try.ntmps46
          go_wp2_with (first | (go_at_call 57; refine (rhas_yes _ _ _ (by omega) (by omega)).mono ?_; rintro e w' ⟨rfl, rfl⟩) | (go_at_call 58; refine (HNOW.out _ HQ).mono ?_; rintro e w' ⟨rfl, hf'⟩; have c0 := (hq.frm hf' (fun h => h)).c0; have c1 := (hq.frm hf' (fun h => h)).c1))
          obtain ⟨e1, e2, e3⟩ := E.out
          go_quiet (fail)
          clear e1 e2 e3
          go_wp2
          go_ret
          exact ⟨rfl, hf'.drewN _⟩
  · have HP : Rt.after each burst ms t now n = -1 := by unfold Rt.after; rw [if_neg (okF h)]
    rw [HP]
    clear HP
    go_enter Try.func46, Try.ntmps46
    go_wp2_with (go_at_call 57; refine (rhas_no _ _ _ (by omega)).mono ?_; rintro e w' ⟨rfl, rfl⟩)
    go_ret
    exact ⟨rfl, Frm.refl _ _⟩

theorem max_is (a b c : Int) (h : (if a < b then b else a) = c) : ∀ ats ty, Builtin.max_ ats ty #[.int .i64 a, .int .i64 b] = pure (.int .i64 c) := fun ats ty => by
  subst h; simp only [Builtin.max_, List.foldlM_cons, List.foldlM_nil, Builtin.max2, gt_iff_lt]; rfl
theorem min_is (a b c : Int) (h : (if b < a then b else a) = c) : ∀ ats ty, Builtin.min_ ats ty #[.int .i64 a, .int .i64 b] = pure (.int .i64 c) := fun ats ty => by
  subst h; simp only [Builtin.min_, List.foldlM_cons, List.foldlM_nil, Builtin.min2]; rfl
theorem clamp_is (a lo hi : Int) (h : lo ≤ hi) : (if hi < (if a < lo then lo else a) then hi else (if a < lo then lo else a)) = bring a lo hi := by unfold bring; split <;> split <;> (try split) <;> omega
theorem rnew_any (r u : Int) (w : World) :
    Calls Try.prog 44 #[.int .i64 r, .int .i64 u] w fun e w' => e = .returned (.pointer (some ⟨w.heap.size, 0, none⟩)) ∧ Rt.At w' w.heap.size (bring r 0 1000) (bring u 1 1000) [(0, bring u 1 1000), (0, bring u 1 1000), (0, bring u 1 1000), (0, bring u 1 1000)] ∧ Frm0 w w' := by
  have hb1 := bring_bd r (show (0 : Int) ≤ 1000 by omega)
  have hb2 := bring_bd u (show (1 : Int) ≤ 1000 by omega)
  obtain ⟨X, hX⟩ : ∃ X, (if r < 0 then 0 else r) = X := ⟨_, rfl⟩
  obtain ⟨Y, hY⟩ : ∃ Y, (if u < 1 then 1 else u) = Y := ⟨_, rfl⟩
  have hX2 := clamp_is r 0 1000 (by omega)
  have hY2 := clamp_is u 1 1000 (by omega)
  rw [hX] at hX2
  rw [hY] at hY2
  have m1 := max_is r 0 X hX
  have m2 := max_is u 1 Y hY
  have n1 := min_is X 1000 _ hX2
  have n2 := min_is Y 1000 _ hY2
  clear hX hY hX2 hY2
  generalize bring r 0 1000 = each at *
  generalize bring u 1 1000 = burst at *
  go_enter Try.func44, Try.ntmps44
  go_wp2
  clear m1 m2 n1 n2
  refine wp_loop_rounds 5 ?_
  iterate 4
    rw [rounds_succ]
    go_wp2
    go_region
    go_wp2
  rw [rounds_succ]
  go_wp2
  go_ret
  have hbd : ∀ m ∈ [((0 : Int), burst), (0, burst), (0, burst), (0, burst)], 0 ≤ m.1 ∧ m.1 ≤ 1099511627776 ∧ 0 ≤ m.2 ∧ m.2 ≤ burst := by
    intro m hm
    have e : m = (0, burst) := by simpa using hm
    subst e
    simp only
    omega
  refine ⟨rfl, ⟨⟨rfl, hb1, hb2, hbd⟩, Bk.new w (.cells (Rt.cells each burst [(0, burst), (0, burst), (0, burst), (0, burst)]) 83)⟩, ?_⟩
  have hfr : Frm0 w (w.alloc (.cells (Rt.cells each burst [(0, burst), (0, burst), (0, burst), (0, burst)]) 83)) := (Frm.refl _ _).alloc _
  exact ⟨hfr.os, hfr.tape, hfr.output, hfr.size, hfr.block⟩
end Go.Proofs.Ytkmafgmlcocjiaa
