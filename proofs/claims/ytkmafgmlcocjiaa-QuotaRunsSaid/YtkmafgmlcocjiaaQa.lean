/- What each function of quota does to a quota: contracts, one a function, for every quota whose counts lie between none and the most. -/
import Derived.Test.YtkmafgmlcocjiaaProg
import Derived.Test.YtkmafgmlcocjiaaL
import Derived.Handy
namespace Go.Proofs.Ytkmafgmlcocjiaa
open Go.RowKit

namespace Qt
def cells (most : Int) (u : List Int) : Array Value := (Value.int .i64 most :: u.map (Value.int .i64)).toArray
/-- Block b is a quota: so many at most, and what each of the four tenants has. -/
structure At (w : World) (b : Nat) (most : Int) (u : List Int) : Prop where
  len : u.length = 4
  bd : ∀ x ∈ u, 0 ≤ x ∧ x ≤ most
  mb : 0 ≤ most ∧ most ≤ 200
  blk : w.heap[b]? = some (.cells (cells most u) 77 (0, 0))

def qget (u : List Int) (t : Int) : Int := u.getD t.toNat 0
def ok (t : Int) : Bool := decide (0 ≤ t ∧ t < 4)
def take (most : Int) (u : List Int) (t : Int) : List Int × Int :=
  if ok t = true then (if most ≤ qget u t then (u, 2) else (u.set t.toNat (qget u t + 1), 0)) else (u, 1)
def give (u : List Int) (t : Int) : List Int × Int :=
  if ok t = true then (if qget u t = 0 then (u, 6) else (u.set t.toNat (qget u t - 1), 0)) else (u, 1)
def used (u : List Int) (t : Int) : Int := if ok t = true then qget u t else 0
def left (most : Int) (u : List Int) (t : Int) : Int := if ok t = true then most - qget u t else 0
def all (u : List Int) : Int := u.sum

section
variable {w w1 : World} {b : Nat} {most : Int} {u : List Int}
theorem At.get_bd (h : At w b most u) (t : Nat) (ht : t < 4) : 0 ≤ u.getD t 0 ∧ u.getD t 0 ≤ most := by
  have hl := h.len
  rw [List.getD_eq_getElem?_getD, List.getElem?_eq_getElem (by omega)]
  exact h.bd _ (List.getElem_mem _)
theorem At.c0 (h : At w b most u) : w.cell? ⟨b, 0, none⟩ = some (.int .i64 most) := by rw [Bk.cell h.blk]; rfl
theorem At.ct (h : At w b most u) (t : Nat) (ht : t < 4) : w.cell? ⟨b, 1 + t, none⟩ = some (.int .i64 (u.getD t 0)) := by
  have hl := h.len
  rw [Bk.cell h.blk, Nat.add_comm]
  simp [cells, List.getElem?_eq_getElem (show t < u.length by omega)]
theorem At.frm {S : Nat → Prop} (h : At w b most u) (hf : Frm S w w1) (hs : ¬ S b) : At w1 b most u := ⟨h.len, h.bd, h.mb, hf.blk h.blk hs⟩
theorem At.drewN (h : At w b most u) (n : Nat) : At (w.drewN n) b most u := ⟨h.len, h.bd, h.mb, h.blk⟩
theorem At.set (h : At w b most u) (t : Nat) (x : Int) (hx : 0 ≤ x ∧ x ≤ most) : At (w.setCell ⟨b, 1 + t, none⟩ (.int .i64 x)) b most (u.set t x) := by
  refine ⟨by simp [h.len], fun y hy => ?_, h.mb, ?_⟩
  · rcases List.mem_or_eq_of_mem_set hy with hy | rfl
    · exact h.bd y hy
    · exact hx
  · rw [Bk.set h.blk]
    simp [cells, Nat.add_comm 1 t, List.map_set]
end
end Qt
open Qt

theorem has_nil (t : Int) (w : World) : Calls Try.prog 56 #[.pointer none, .int .i64 t] w fun e w' => e = .returned (.bool false) ∧ w = w' := by
  go_enter Try.func56, Try.ntmps56
  go_wp2
  go_ret
  exact ⟨rfl, rfl⟩

theorem has_yes (t : Int) (a : Addr) (w : World) (h0 : 0 ≤ t) (h4 : t < 4) : Calls Try.prog 56 #[.pointer (some a), .int .i64 t] w fun e w' => e = .returned (.bool true) ∧ w = w' := by
  go_enter Try.func56, Try.ntmps56
  go_wp2
  go_ret
  exact ⟨rfl, rfl⟩

theorem has_no (t : Int) (a : Addr) (w : World) (h : ¬ (0 ≤ t ∧ t < 4)) : Calls Try.prog 56 #[.pointer (some a), .int .i64 t] w fun e w' => e = .returned (.bool false) ∧ w = w' := by
  by_cases h0 : 0 ≤ t
  · have h4 : 4 ≤ t := by omega
    clear h
    go_enter Try.func56, Try.ntmps56
    go_wp2
    go_ret
    exact ⟨by simp; omega, rfl⟩
  · clear h
    go_enter Try.func56, Try.ntmps56
    go_wp2
    go_ret
    exact ⟨rfl, rfl⟩

theorem take_any (t : Int) (b : Nat) (most : Int) (u : List Int) (w : World) (hq : At w b most u) :
    Calls Try.prog 37 #[.pointer (some ⟨b, 0, none⟩), .int .i64 t] w fun e w' => e = .returned (.int .i64 (take most u t).2) ∧ At w' b most (take most u t).1 ∧ Frm (· = b) w w' := by
  by_cases h : 0 ≤ t ∧ t < 4
  · obtain ⟨h0, h4⟩ := h
    obtain ⟨t, rfl⟩ := Int.eq_ofNat_of_zero_le h0
    have ht : t < 4 := by omega
    have c0 := hq.c0
    have ct := hq.ct t ht
    have hb := hq.get_bd t ht
    have hm := hq.mb
    have fr := Bk.frozen hq.blk (1 + t)
    have hok : ok (t : Int) = true := by simp [ok]; omega
    by_cases hf : most ≤ u.getD t 0
    · have HP : take most u t = (u, 2) := by unfold take qget; rw [if_pos hok, Int.toNat_natCast, if_pos hf]
      rw [HP]
      clear HP
      generalize u.getD t 0 = x at *
      go_enter Try.func37, Try.ntmps37
      go_wp2_with (go_at_call 56; refine (has_yes _ _ _ (by omega) (by omega)).mono ?_; rintro e w' ⟨rfl, rfl⟩)
      go_quiet (fail)
      go_wp2
      go_ret
      exact ⟨rfl, hq.drewN _, (Frm.refl _ _).drewN _⟩
    · have HP : take most u t = (u.set t (u.getD t 0 + 1), 0) := by unfold take qget; rw [if_pos hok, Int.toNat_natCast, if_neg hf]
      rw [HP]
      clear HP
      have hx := hq.set t (u.getD t 0 + 1) (by omega)
      generalize u.getD t 0 = x at *
      go_enter Try.func37, Try.ntmps37
      go_wp2_with (go_at_call 56; refine (has_yes _ _ _ (by omega) (by omega)).mono ?_; rintro e w' ⟨rfl, rfl⟩)
      go_quiet (fail)
      go_wp2
      go_region
      go_wp2
      go_ret
      exact ⟨rfl, ⟨hx.len, hx.bd, hx.mb, hx.blk⟩, ((Frm.refl _ _).drewN _).set1 _ _⟩
  · have HP : take most u t = (u, 1) := by unfold take; rw [if_neg (by simp [ok]; omega)]
    rw [HP]
    clear HP
    go_enter Try.func37, Try.ntmps37
    go_wp2_with (go_at_call 56; refine (has_no _ _ _ (by omega)).mono ?_; rintro e w' ⟨rfl, rfl⟩)
    go_ret
    exact ⟨rfl, hq, Frm.refl _ _⟩

theorem give_any (t : Int) (b : Nat) (most : Int) (u : List Int) (w : World) (hq : At w b most u) :
    Calls Try.prog 35 #[.pointer (some ⟨b, 0, none⟩), .int .i64 t] w fun e w' => e = .returned (.int .i64 (give u t).2) ∧ At w' b most (give u t).1 ∧ Frm (· = b) w w' := by
  by_cases h : 0 ≤ t ∧ t < 4
  · obtain ⟨h0, h4⟩ := h
    obtain ⟨t, rfl⟩ := Int.eq_ofNat_of_zero_le h0
    have ht : t < 4 := by omega
    have c0 := hq.c0
    have ct := hq.ct t ht
    have hb := hq.get_bd t ht
    have hm := hq.mb
    have fr := Bk.frozen hq.blk (1 + t)
    have hok : ok (t : Int) = true := by simp [ok]; omega
    by_cases hf : u.getD t 0 = 0
    · have HP : give u t = (u, 6) := by unfold give qget; rw [if_pos hok, Int.toNat_natCast, if_pos hf]
      rw [HP]
      clear HP
      rw [hf] at ct
      clear hf
      go_enter Try.func35, Try.ntmps35
      go_wp2_with (go_at_call 56; refine (has_yes _ _ _ (by omega) (by omega)).mono ?_; rintro e w' ⟨rfl, rfl⟩)
      go_ret
      exact ⟨rfl, hq, Frm.refl _ _⟩
    · have HP : give u t = (u.set t (u.getD t 0 - 1), 0) := by unfold give qget; rw [if_pos hok, Int.toNat_natCast, if_neg hf]
      rw [HP]
      clear HP
      have hx := hq.set t (u.getD t 0 - 1) (by omega)
      generalize u.getD t 0 = x at *
      go_enter Try.func35, Try.ntmps35
      go_wp2_with (go_at_call 56; refine (has_yes _ _ _ (by omega) (by omega)).mono ?_; rintro e w' ⟨rfl, rfl⟩)
      go_region
      go_wp2
      go_ret
      exact ⟨rfl, ⟨hx.len, hx.bd, hx.mb, hx.blk⟩, ((Frm.refl _ _).set1 _ _).drew⟩
  · have HP : give u t = (u, 1) := by unfold give; rw [if_neg (by simp [ok]; omega)]
    rw [HP]
    clear HP
    go_enter Try.func35, Try.ntmps35
    go_wp2_with (go_at_call 56; refine (has_no _ _ _ (by omega)).mono ?_; rintro e w' ⟨rfl, rfl⟩)
    go_ret
    exact ⟨rfl, hq, Frm.refl _ _⟩

theorem used_any (t : Int) (b : Nat) (most : Int) (u : List Int) (w : World) (hq : At w b most u) :
    Calls Try.prog 40 #[.pointer (some ⟨b, 0, none⟩), .int .i64 t] w fun e w' => e = .returned (.int .i64 (used u t)) ∧ w = w' := by
  by_cases h : 0 ≤ t ∧ t < 4
  · obtain ⟨h0, h4⟩ := h
    obtain ⟨t, rfl⟩ := Int.eq_ofNat_of_zero_le h0
    have ht : t < 4 := by omega
    have ct := hq.ct t ht
    have hok : ok (t : Int) = true := by simp [ok]; omega
    have HP : used u t = u.getD t 0 := by unfold used qget; rw [if_pos hok, Int.toNat_natCast]
    rw [HP]
    clear HP
    generalize u.getD t 0 = x at *
    go_enter Try.func40, Try.ntmps40
    go_wp2_with (go_at_call 56; refine (has_yes _ _ _ (by omega) (by omega)).mono ?_; rintro e w' ⟨rfl, rfl⟩)
    go_ret
    exact ⟨rfl, rfl⟩
  · have HP : used u t = 0 := by unfold used; rw [if_neg (by simp [ok]; omega)]
    rw [HP]
    clear HP
    go_enter Try.func40, Try.ntmps40
    go_wp2_with (go_at_call 56; refine (has_no _ _ _ (by omega)).mono ?_; rintro e w' ⟨rfl, rfl⟩)
    go_ret
    exact ⟨rfl, rfl⟩

theorem left_any (t : Int) (b : Nat) (most : Int) (u : List Int) (w : World) (hq : At w b most u) :
    Calls Try.prog 41 #[.pointer (some ⟨b, 0, none⟩), .int .i64 t] w fun e w' => e = .returned (.int .i64 (left most u t)) ∧ ∃ n, w' = w.drewN n := by
  by_cases h : 0 ≤ t ∧ t < 4
  · obtain ⟨h0, h4⟩ := h
    obtain ⟨t, rfl⟩ := Int.eq_ofNat_of_zero_le h0
    have ht : t < 4 := by omega
    have c0 := hq.c0
    have ct := hq.ct t ht
    have hb := hq.get_bd t ht
    have hm := hq.mb
    have hok : ok (t : Int) = true := by simp [ok]; omega
    have HP : left most u t = most - u.getD t 0 := by unfold left qget; rw [if_pos hok, Int.toNat_natCast]
    rw [HP]
    clear HP
    generalize u.getD t 0 = x at *
    have hsub : IntKind.i64.wrap (most - x) = most - x := IntWalk.i64_in _ (by omega)
    go_enter Try.func41, Try.ntmps41
    go_wp2_with (go_at_call 56; refine (has_yes _ _ _ (by omega) (by omega)).mono ?_; rintro e w' ⟨rfl, rfl⟩)
    go_quiet (fail)
    go_wp2
    go_ret
    exact ⟨rfl, _, rfl⟩
  · have HP : left most u t = 0 := by unfold left; rw [if_neg (by simp [ok]; omega)]
    rw [HP]
    clear HP
    go_enter Try.func41, Try.ntmps41
    go_wp2_with (go_at_call 56; refine (has_no _ _ _ (by omega)).mono ?_; rintro e w' ⟨rfl, rfl⟩)
    go_ret
    exact ⟨rfl, 0, rfl⟩

theorem all_any (b : Nat) (most : Int) (u : List Int) (w : World) (hq : At w b most u) :
    Calls Try.prog 42 #[.pointer (some ⟨b, 0, none⟩)] w fun e w' => e = .returned (.int .i64 (all u)) ∧ w = w' := by
  have c0 := hq.ct 0 (by omega)
  have c1 := hq.ct 1 (by omega)
  have c2 := hq.ct 2 (by omega)
  have c3 := hq.ct 3 (by omega)
  have b0 := hq.get_bd 0 (by omega)
  have b1 := hq.get_bd 1 (by omega)
  have b2 := hq.get_bd 2 (by omega)
  have b3 := hq.get_bd 3 (by omega)
  have hm := hq.mb
  have hl := hq.len
  match u, hl with
  | [x0, x1, x2, x3], _ =>
    have HP : all [x0, x1, x2, x3] = 0 + x0 + x1 + x2 + x3 := by simp [all]; omega
    rw [HP]
    clear HP hq hl
    simp at c0 c1 c2 c3 b0 b1 b2 b3
    have i0 : ∀ w, (Instr.index 75 (.agg #[.int .i64 x0, .int .i64 x1, .int .i64 x2, .int .i64 x3]) (.int .i64 0)).run Try.prog w = .ok (.int .i64 x0) w := fun _ => by kernel_rfl
    have i1 : ∀ w, (Instr.index 75 (.agg #[.int .i64 x0, .int .i64 x1, .int .i64 x2, .int .i64 x3]) (.int .i64 1)).run Try.prog w = .ok (.int .i64 x1) w := fun _ => by kernel_rfl
    have i2 : ∀ w, (Instr.index 75 (.agg #[.int .i64 x0, .int .i64 x1, .int .i64 x2, .int .i64 x3]) (.int .i64 2)).run Try.prog w = .ok (.int .i64 x2) w := fun _ => by kernel_rfl
    have i3 : ∀ w, (Instr.index 75 (.agg #[.int .i64 x0, .int .i64 x1, .int .i64 x2, .int .i64 x3]) (.int .i64 3)).run Try.prog w = .ok (.int .i64 x3) w := fun _ => by kernel_rfl
    go_enter Try.func42, Try.ntmps42
    go_wp2
    go_rounds 5
    go_ret
    exact ⟨by simp, rfl⟩

theorem new_any (m : Int) (w : World) :
    Calls Try.prog 33 #[.int .i64 m] w fun e w' => e = .returned (.pointer (some ⟨w.heap.size, 0, none⟩)) ∧ At w' w.heap.size (max (min m 200) 0) [0, 0, 0, 0] ∧ Frm0 w w' := by
  have HN : ∀ k : Int, 0 ≤ k → k ≤ 200 → At (w.alloc (.cells (cells k [0, 0, 0, 0]) 77)) w.heap.size k [0, 0, 0, 0] := fun k h0 h1 => ⟨rfl, by simp; omega, ⟨h0, h1⟩, Bk.new _ _⟩
  have HF : ∀ k : Int, Frm0 w (w.alloc (.cells (cells k [0, 0, 0, 0]) 77)) := fun k => (Frm.refl _ _).alloc _
  go_enter Try.func33, Try.ntmps33
  go_wp2
  all_goals go_ret
  · exact ⟨rfl, by rw [show max (min m 200) 0 = 0 by omega]; exact HN 0 (by omega) (by omega), HF 0⟩
  · exact ⟨rfl, by rw [show max (min m 200) 0 = 200 by omega]; exact HN 200 (by omega) (by omega), HF 200⟩
  · exact ⟨rfl, by rw [show max (min m 200) 0 = m by omega]; exact HN m (by omega) (by omega), HF m⟩
end Go.Proofs.Ytkmafgmlcocjiaa
