/- The bag: contracts of New, Put, Len, At, Take, Room, Twice, All. -/
import Derived.Test.YteokiiolchpndaaBga
namespace Go.Proofs.Yteokiiolchpndaa
open Go.RowKit
set_option linter.unusedVariables false
set_option linter.unusedSimpArgs false

namespace Bg
/-- The text at a place, and is it there? -/
def at_ (xs : List ByteArray) (i : Int) : ByteArray × Bool := if 0 ≤ i ∧ i < xs.length then (xs.getD i.toNat ⟨#[]⟩, true) else (⟨#[]⟩, false)
/-- Without the one at a place. -/
def cut (xs : List ByteArray) (i : Int) : List ByteArray := if 0 ≤ i ∧ i < xs.length then xs.eraseIdx i.toNat else xs
/-- With the one at a place once more, and what is told. -/
def twice (xs : List ByteArray) (i : Int) : List ByteArray × Int := if 0 ≤ i ∧ i < xs.length then (if xs.length < 64 then (xs ++ [xs.getD i.toNat ⟨#[]⟩], 0) else (xs, 2)) else (xs, 6)
structure At (w : World) (bb : Nat) (v : Value) (xs : List ByteArray) : Prop where
  blk : w.heap[bb]? = some (.cells #[v] 113 (0, 0))
  row : w.ownsRow (bb + 1) 9 1 v xs.length (strs xs)
/-- Its row is the old one, or lies in new memory. -/
def Moved (w : World) (v v' : Value) : Prop := ∀ k, v'.ownBlock = some k → v.ownBlock = some k ∨ w.heap.size ≤ k
section
variable {w w1 : World} {bb : Nat} {v : Value} {xs : List ByteArray} {S : Nat → Prop}
theorem At.c0 (h : At w bb v xs) : w.cell? ⟨bb, 0, none⟩ = some v := by rw [Bk.cell h.blk]; rfl
theorem At.fr (h : At w bb v xs) : w.frozen? ⟨bb, 0, none⟩ = false := Bk.frozen h.blk 0
theorem At.lt (h : At w bb v xs) : bb < w.heap.size := Bk.lt h.blk
theorem At.own (h : At w bb v xs) (k : Nat) (hk : v.ownBlock = some k) : bb < k ∧ k < w.heap.size := by have := h.row.lt k hk; omega
theorem At.frm (h : At w bb v xs) (hf : Frm S w w1) (hs : ¬ S bb) (hr : ∀ k, v.ownBlock = some k → ¬ S k) : At w1 bb v xs := ⟨hf.blk h.blk hs, owns_frm h.row hf hr⟩
theorem At.frm0 (h : At w bb v xs) (hf : Frm0 w w1) : At w1 bb v xs := h.frm hf (fun h => h) (fun _ _ h => h)
theorem At.nil (h : At w bb v xs) : v = .slice none 0 0 ∨ ∃ A n c, v = .slice (some A) n c := by
  rcases h.row.2 with ⟨h, _⟩ | ⟨g, cap, cur, he, _⟩
  · exact .inl h
  · exact .inr ⟨_, _, _, he⟩
theorem At.form (h : At w bb v xs) : ∃ A c, v = .slice A xs.length c := by
  rcases h.row.2 with ⟨h, hn⟩ | ⟨g, cap, cur, he, _⟩
  · exact ⟨none, 0, by rw [h, hn]⟩
  · exact ⟨_, _, he⟩
end
theorem Moved.same (w : World) (v : Value) : Moved w v v := fun k h => .inl h

theorem new_any (w : World) : Calls Try.prog 24 #[] w fun e w' => e = .returned (.pointer (some ⟨w.heap.size, 0, none⟩)) ∧ At w' w.heap.size (.slice none 0 0) [] ∧ Frm0 w w' := by
  go_enter Try.func24, Try.ntmps24
  go_wp2
  go_ret
  exact ⟨rfl, ⟨Bk.new _ _, World.ownsRow_nil _ _ _ _⟩, (Frm.refl _ _).alloc _⟩
theorem len_any (bb : Nat) (v : Value) (xs : List ByteArray) (w : World) (h : At w bb v xs) :
    Calls Try.prog 30 #[.pointer (some ⟨bb, 0, none⟩)] w fun e w' => e = .returned (.int .i64 xs.length) ∧ w = w' := by
  have c0 := h.c0
  obtain ⟨A, c, rfl⟩ := h.form
  go_enter Try.func30, Try.ntmps30
  go_wp2
  go_ret
  exact ⟨rfl, rfl⟩
theorem room_any (bb : Nat) (v : Value) (xs : List ByteArray) (w : World) (h : At w bb v xs) :
    Calls Try.prog 31 #[.pointer (some ⟨bb, 0, none⟩)] w fun e w' => e = .returned (.bool (decide (xs.length < 64))) ∧ w = w' := by
  have c0 := h.c0
  obtain ⟨A, c, rfl⟩ := h.form
  go_enter Try.func31, Try.ntmps31
  go_wp2
  go_ret
  exact ⟨ret_bool (by simp; omega), rfl⟩
theorem at_any (i : Int) (bb : Nat) (v : Value) (xs : List ByteArray) (w : World) (h : At w bb v xs) (hlen : xs.length ≤ 1000) :
    Calls Try.prog 33 #[.pointer (some ⟨bb, 0, none⟩), .int .i64 i] w fun e w' => e = .returned (.tuple #[.string (at_ xs i).1, .bool (at_ xs i).2]) ∧ w = w' := by
  have c0 := h.c0
  by_cases hi : 0 ≤ i ∧ i < xs.length
  · unfold at_
    rw [if_pos hi]
    obtain ⟨n, rfl⟩ := Int.eq_ofNat_of_zero_le hi.1
    have hn : n < xs.length := by omega
    obtain ⟨m, hm⟩ : ∃ m, xs.length = m + 1 := ⟨xs.length - 1, by omega⟩
    have hrow := h.row
    rw [hm] at hrow
    obtain ⟨g, cap, rfl⟩ := owns_form hrow
    rw [← hm] at *
    have hcell := h.row.cellAt n (by omega)
    rw [strs_at xs n hn] at hcell
    have hget : xs.getD (n : Int).toNat ⟨#[]⟩ = xs[n] := by simp [List.getD_eq_getElem?_getD, List.getElem?_eq_getElem hn]
    simp only [hget]
    generalize xs[n] = x at *
    have hd1 : decide ((n : Int) < 0) = false := by simp
    have hd2 : decide ((xs.length : Int) ≤ (n : Int)) = false := by simp; omega
    have hni : (n : Int) < (xs.length : Int) := by omega
    have HL := Lib.hid (len_any bb _ xs w h)
    clear hget hrow hm
    go_enter Try.func33, Try.ntmps33
    go_wp2_with fail
    refine HL.out.mono ?_
    rintro e w1 ⟨rfl, rfl⟩
    go_wp2
    go_ret2
    exact ⟨rfl, rfl⟩
  · unfold at_
    rw [if_neg hi]
    obtain ⟨A, c, rfl⟩ := h.form
    have HL := Lib.hid (len_any bb _ xs w h)
    by_cases h0 : i < 0
    · have hd1 : decide (i < 0) = true := by simp; omega
      go_enter Try.func33, Try.ntmps33
      go_wp2
      go_ret2
      exact ⟨rfl, rfl⟩
    · have hd1 : decide (i < 0) = false := by simp; omega
      have hd2 : decide ((xs.length : Int) ≤ i) = true := by simp; omega
      go_enter Try.func33, Try.ntmps33
      go_wp2_with fail
      refine HL.out.mono ?_
      rintro e w1 ⟨rfl, rfl⟩
      go_wp2
      go_ret2
      exact ⟨rfl, rfl⟩
theorem put_any (s : ByteArray) (bb : Nat) (v : Value) (xs : List ByteArray) (w : World) (h : At w bb v xs) (hlen : xs.length ≤ 900) :
    Calls Try.prog 29 #[.pointer (some ⟨bb, 0, none⟩), .string s] w fun e w' => ∃ v', e = .returned (.int .i64 0) ∧ At w' bb v' (xs ++ [s]) ∧ Moved w v v' ∧ Frm (fun k => k = bb ∨ v.ownBlock = some k) w w' := by
  have c0 := h.c0
  have hM : xs.length + 1 ≤ maxLen := by unfold maxLen; omega
  have hlt := h.lt
  have hb2 := Bk.alloc h.blk (.cells #[.string s] 9)
  go_enter Try.func29, Try.ntmps29
  go_wp2_with (at_builtin; refine wpList_append_sl rfl (.tmp 11) (.tmp 13) rfl Estr (bb + 1) v (.slice (some ⟨w.heap.size, 0, none⟩) 1 1) xs.length 1 (strs xs) (strs [s]) rfl rfl (h.row.alloc _) (Sl.new _ _ _ 1 (by decide) (by omega)) rfl (strs_one [s]) (by omega) (by omega) (by simp; omega) ?_; intro v2 w2 hown2 hf2 hat2; have hb3 := hf2.blk hb2 (fun e => by have := h.own _ e; omega); have c2 : w2.cell? ⟨bb, 0, none⟩ = some v := Bk.cell hb3 0; have fr2 := Bk.frozen hb3 0; obtain ⟨g9, cap9, rfl⟩ := owns_form hown2)
  go_ret
  have hFF : Frm (fun k => v.ownBlock = some k) w w2 := ((Frm.refl _ w).alloc _).trans hf2
  have hsz := hFF.size
  refine ⟨_, rfl, ⟨Bk.set hb3 0 _, ?_⟩, fun k hk => ?_, ?_⟩
  · have e1 : strs (xs ++ [s]) = strs xs ++ strs [s] := by simp [strs]
    rw [e1, List.length_append]
    exact owns_frm hown2 ((Frm.refl (fun k => k = bb) w2).set1 0 _) (fun k hk e => by
      subst e
      have := (hown2.lt _ hk).1
      omega)
  · rcases hat2 with e | e
    · exact .inl (e ▸ hk)
    · rw [e] at hk
      cases hk
      exact .inr (by simp)
  · exact (hFF.mono (fun i _ e => .inr e)).setCell ⟨bb, 0, none⟩ (fun _ => .inl rfl) _
theorem take_any (i : Int) (bb : Nat) (v : Value) (xs : List ByteArray) (w : World) (h : At w bb v xs) (hlen : xs.length ≤ 1000) :
    Calls Try.prog 25 #[.pointer (some ⟨bb, 0, none⟩), .int .i64 i] w fun e w' => ∃ v', e = .returned (.tuple #[.string (at_ xs i).1, .bool (at_ xs i).2]) ∧ At w' bb v' (cut xs i) ∧ Moved w v v' ∧ Frm (fun k => k = bb ∨ v.ownBlock = some k) w w' := by
  have HA := Lib.hid (fun w (h : At w bb v xs) => at_any i bb v xs w h hlen)
  by_cases hi : 0 ≤ i ∧ i < xs.length
  · have hok : (at_ xs i).2 = true := by unfold at_; rw [if_pos hi]
    have hcut : cut xs i = xs.eraseIdx i.toNat := by unfold cut; rw [if_pos hi]
    obtain ⟨n, rfl⟩ := Int.eq_ofNat_of_zero_le hi.1
    have hn : n < xs.length := by omega
    rw [hcut]
    simp only [Int.toNat_natCast]
    have c0 := h.c0
    obtain ⟨m, hm⟩ : ∃ m, xs.length = m + 1 := ⟨xs.length - 1, by omega⟩
    have hrow := h.row
    rw [hm] at hrow
    obtain ⟨g, cap, rfl⟩ := owns_form hrow
    rw [← hm] at *
    have HD := Lib.hid (fun w (h : At w bb _ xs) => del_str xs (bb + 1) g cap n (n + 1) w h.row hn rfl hlen)
    rw [hok] at HA ⊢
    generalize (at_ xs (n : Int)).1 = x at *
    have hgb := (h.own g rfl).1
    go_enter Try.func25, Try.ntmps25
    go_wp2_with fail
    refine (HA.out _ h).mono ?_
    rintro e w1 ⟨rfl, rfl⟩
    go_wp2_with fail
    refine (HD.out _ h).mono ?_
    rintro e w2 ⟨rfl, hown2, hf2⟩
    have hb3 := hf2.blk h.blk (fun e => by omega)
    have c2 : w2.cell? ⟨bb, 0, none⟩ = some (.slice (some ⟨g, 0, none⟩) xs.length cap) := Bk.cell hb3 0
    have fr2 := Bk.frozen hb3 0
    go_wp2
    go_ret2
    refine ⟨.slice (some ⟨g, 0, none⟩) (xs.length - 1) cap, rfl, ⟨Bk.set hb3 0 _, ?_⟩, fun k hk => .inl hk, ?_⟩
    · have e2 : (xs.eraseIdx n).length = xs.length - 1 := by rw [List.length_eraseIdx, if_pos hn]
      rw [e2]
      exact owns_frm hown2 ((Frm.refl (fun k => k = bb) w2).set1 0 _) (fun k hk e => by
        subst e
        cases hk
        exact absurd hgb (Nat.lt_irrefl _))
    · exact (hf2.mono (fun i _ e => .inr (by subst e; rfl))).setCell ⟨bb, 0, none⟩ (fun _ => .inl rfl) _
  · have hok : (at_ xs i).2 = false := by unfold at_; rw [if_neg hi]
    have hcut : cut xs i = xs := by unfold cut; rw [if_neg hi]
    rw [hcut]
    rw [hok] at HA ⊢
    clear hi hok hcut
    generalize (at_ xs i).1 = x at *
    go_enter Try.func25, Try.ntmps25
    go_wp2_with fail
    refine (HA.out _ h).mono ?_
    rintro e w1 ⟨rfl, rfl⟩
    go_wp2
    go_ret2
    exact ⟨v, rfl, h, Moved.same _ _, Frm.refl _ _⟩
theorem twice_any (i : Int) (bb : Nat) (v : Value) (xs : List ByteArray) (w : World) (h : At w bb v xs) (hlen : xs.length ≤ 900) :
    Calls Try.prog 28 #[.pointer (some ⟨bb, 0, none⟩), .int .i64 i] w fun e w' => ∃ v', e = .returned (.int .i64 (twice xs i).2) ∧ At w' bb v' (twice xs i).1 ∧ Moved w v v' ∧ Frm (fun k => k = bb ∨ v.ownBlock = some k) w w' := by
  have HA := Lib.hid (at_any i bb v xs w h (by omega))
  have HR := Lib.hid (room_any bb v xs w h)
  by_cases hi : 0 ≤ i ∧ i < xs.length
  · have hok : (at_ xs i).2 = true := by unfold at_; rw [if_pos hi]
    have hx : (at_ xs i).1 = xs.getD i.toNat ⟨#[]⟩ := by unfold at_; rw [if_pos hi]
    rw [hok, hx] at HA
    have HP := Lib.hid (put_any (xs.getD i.toNat ⟨#[]⟩) bb v xs w h hlen)
    by_cases h64 : xs.length < 64
    · have htw : twice xs i = (xs ++ [xs.getD i.toNat ⟨#[]⟩], 0) := by unfold twice; rw [if_pos hi, if_pos h64]
      rw [htw]
      rw [decide_eq_true h64] at HR
      generalize xs.getD i.toNat ⟨#[]⟩ = x at *
      go_enter Try.func28, Try.ntmps28
      go_wp2_with fail
      refine HA.out.mono ?_
      rintro e w1 ⟨rfl, rfl⟩
      go_wp2_with fail
      refine HR.out.mono ?_
      rintro e w1 ⟨rfl, rfl⟩
      go_wp2_with fail
      refine HP.out.mono ?_
      rintro e w1 ⟨v', rfl, hA, hm, hf⟩
      go_wp2
      go_ret
      exact ⟨v', rfl, hA, hm, hf⟩
    · have htw : twice xs i = (xs, 2) := by unfold twice; rw [if_pos hi, if_neg h64]
      rw [htw]
      rw [decide_eq_false h64] at HR
      generalize xs.getD i.toNat ⟨#[]⟩ = x at *
      go_enter Try.func28, Try.ntmps28
      go_wp2_with fail
      refine HA.out.mono ?_
      rintro e w1 ⟨rfl, rfl⟩
      go_wp2_with fail
      refine HR.out.mono ?_
      rintro e w1 ⟨rfl, rfl⟩
      go_wp2
      go_ret
      exact ⟨v, rfl, h, Moved.same _ _, Frm.refl _ _⟩
  · have hok : (at_ xs i).2 = false := by unfold at_; rw [if_neg hi]
    have htw : twice xs i = (xs, 6) := by unfold twice; rw [if_neg hi]
    rw [htw]
    rw [hok] at HA
    generalize (at_ xs i).1 = x at *
    go_enter Try.func28, Try.ntmps28
    go_wp2_with fail
    refine HA.out.mono ?_
    rintro e w1 ⟨rfl, rfl⟩
    go_wp2
    go_ret
    exact ⟨v, rfl, h, Moved.same _ _, Frm.refl _ _⟩
theorem all_any (bb : Nat) (v : Value) (xs : List ByteArray) (w : World) (h : At w bb v xs) (hlen : xs.length ≤ 1000) :
    Calls Try.prog 32 #[.pointer (some ⟨bb, 0, none⟩)] w fun e w' => ∃ u, e = .returned u ∧ w'.ownsRow w.heap.size 9 1 u xs.length (strs xs) ∧ Frm0 w w' := by
  have c0 := h.c0
  have HC := Lib.hid (clone_str xs v w (Sl.of_own h.row) hlen h.nil)
  go_enter Try.func32, Try.ntmps32
  go_wp2_with fail
  refine HC.out.mono ?_
  rintro e w1 ⟨u, rfl, ho, hf⟩
  go_wp2
  go_ret
  exact ⟨u, rfl, ho, hf⟩
end Bg
end Go.Proofs.Yteokiiolchpndaa
