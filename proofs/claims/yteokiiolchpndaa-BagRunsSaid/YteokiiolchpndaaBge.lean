/- The walk of BagKeeps. -/
import Derived.Test.YteokiiolchpndaaBgd
namespace Go.Proofs.Yteokiiolchpndaa
open Go.RowKit Go.ChangeShapes
set_option linter.unusedVariables false
set_option linter.unusedSimpArgs false

theorem bdeed_at {w : World} {b o : Nat} {l : List BDeed} (h : ∀ j u, (l.flatMap BDeed.cells)[j]? = some u → w.cell? ⟨b, o + j, none⟩ = some u) (k : Nat) (hk : k < l.length) :
    w.cell? ⟨b, o + k * 3, none⟩ = some (.int .u8 (l[k]).kind) ∧ w.cell? ⟨b, o + k * 3 + 1, none⟩ = some (.string (l[k]).s) ∧ w.cell? ⟨b, o + k * 3 + 2, none⟩ = some (.int .i64 (l[k]).n) := by
  have h0 := flat_at BDeed.cells 3 BDeed.cells_len l k 0 l[k] (List.getElem?_eq_getElem hk) (by omega)
  have h1 := flat_at BDeed.cells 3 BDeed.cells_len l k 1 l[k] (List.getElem?_eq_getElem hk) (by omega)
  have h2 := flat_at BDeed.cells 3 BDeed.cells_len l k 2 l[k] (List.getElem?_eq_getElem hk) (by omega)
  exact ⟨h _ _ h0, h _ _ h1, h _ _ h2⟩

namespace Bg
theorem At.out {w0 w w1 : World} {bb : Nat} {u : Value} {xs : List ByteArray} (h : At w bb u xs) (hF : Frm0 w0 w) (hbb : w0.heap.size ≤ bb) (hf : Frm (fun k => k = bb ∨ u.ownBlock = some k) w w1) : Frm0 w0 w1 :=
  hF.then_ hf (fun i hi e => by
    rcases e with e | e
    · omega
    · have := h.own i e; omega)
theorem at_get {xs : List ByteArray} {n : Int} (h : 0 ≤ n ∧ n < xs.length) : at_ xs n = (xs.getD n.toNat ⟨#[]⟩, true) := by unfold at_; rw [if_pos h]
theorem at_no {xs : List ByteArray} {n : Int} (h : ¬ (0 ≤ n ∧ n < xs.length)) : at_ xs n = (⟨#[]⟩, false) := by unfold at_; rw [if_neg h]
theorem cut_len {xs : List ByteArray} {n : Int} (h : 0 ≤ n ∧ n < xs.length) : (cut xs n).length = xs.length - 1 := by unfold cut; rw [if_pos h, List.length_eraseIdx, if_pos (by omega)]
theorem cut_no {xs : List ByteArray} {n : Int} (h : ¬ (0 ≤ n ∧ n < xs.length)) : cut xs n = xs := by unfold cut; rw [if_neg h]
theorem at_last (xs : List ByteArray) (x : ByteArray) (n : Int) (hn : n = xs.length) : at_ (xs ++ [x]) n = (x, true) := by
  subst hn
  unfold at_
  rw [if_pos (by simp; omega)]
  simp [List.getD_eq_getElem?_getD]
theorem at_to {i : Int} {bb : Nat} {v : Value} {xs : List ByteArray} {x : ByteArray} {b : Bool} {w : World} (h : At w bb v xs) (hlen : xs.length ≤ 1000) (ha : at_ xs i = (x, b)) :
    Calls Try.prog 33 #[.pointer (some ⟨bb, 0, none⟩), .int .i64 i] w fun e w' => e = .returned (.tuple #[.string x, .bool b]) ∧ w = w' := by
  have := at_any i bb v xs w h hlen
  rwa [ha] at this
theorem len_to {bb : Nat} {v : Value} {xs : List ByteArray} {w : World} {n : Nat} (h : At w bb v xs) (hn : xs.length = n) :
    Calls Try.prog 30 #[.pointer (some ⟨bb, 0, none⟩)] w fun e w' => e = .returned (.int .i64 n) ∧ w = w' := by
  subst hn
  exact len_any bb v xs w h

set_option maxHeartbeats 2000000 in
set_option maxRecDepth 100000 in
theorem keeps_walk (v : Value) (l : List BDeed) (w : World) (hs : Sl w v l.length (l.flatMap BDeed.cells)) (hg : ∀ a ∈ l, BDeed.Good a) :
    Calls Try.prog 8 #[v] w fun e w' => e = .returned (.bool true) ∧ Below w.heap.size w w' := by
  have hlen := hs.len
  by_cases h150 : 150 < l.length
  · obtain ⟨A, c, rfl⟩ := hs.form
    go_enter Try.func8, Try.ntmps8
    go_wp2_with fail
    refine (bawake _).mono ?_
    rintro e w1 ⟨rfl, hf1⟩
    go_wp2
    go_ret
    exact ⟨rfl, hf1.below (fun _ _ h => h)⟩
  obtain ⟨A, c, rfl⟩ := hs.form
  have hcell : ∀ k (hk : k < l.length), ∃ b o, A = some ⟨b, o, none⟩ ∧ w.cell? ⟨b, o + k * 3, none⟩ = some (.int .u8 (l[k]).kind) ∧ w.cell? ⟨b, o + k * 3 + 1, none⟩ = some (.string (l[k]).s) ∧ w.cell? ⟨b, o + k * 3 + 2, none⟩ = some (.int .i64 (l[k]).n) ∧ (0 ≤ (l[k]).kind ∧ (l[k]).kind ≤ 255) ∧ (l[k]).s.size ≤ maxLen := by
    intro k hk
    rcases hs with ⟨A', c', _, hn, _⟩ | ⟨b, o, c', he, h0, h1, h2, h3, h4⟩
    · omega
    · cases he
      obtain ⟨x0, x1, x2⟩ := bdeed_at h4 k hk
      have gg := hg _ (List.getElem_mem hk)
      exact ⟨b, o, rfl, x0, x1, x2, bounds_u8 gg.kind, gg.s⟩
  have HC := Lib.hid hcell
  clear hcell hs hg
  go_enter Try.func8, Try.ntmps8
  go_wp2_with fail
  refine (bawake _).mono ?_
  rintro e w1 ⟨rfl, hf1⟩
  go_wp2_with fail
  refine (new_any _).mono ?_
  rintro e w2 ⟨rfl, hA, hf2⟩
  have hF2 := hf1.trans hf2
  have hbb : w.heap.size ≤ w1.heap.size := hf1.size
  generalize w1.heap.size = bb at *
  clear hf1 hf2
  go_wp2_with fail
  go_loopw [4, 5, 27] (fun p q i wr => ∃ (k P Q : Nat) (xs : List ByteArray) (u : Value), k ≤ l.length ∧ i = .int .i64 k ∧ p = .int .i64 P ∧ q = .int .i64 Q ∧ At wr bb u xs ∧ Hid (P = Q + xs.length) ∧ P ≤ k ∧ Frm0 w wr) (fun _ _ i _ => l.length - (intOf i).toNat)
  case atStart => exact ⟨0, 0, 0, [], _, by omega, rfl, rfl, rfl, hA, rfl, by omega, hF2⟩
  case round =>
    clear hA hF2
    obtain ⟨k, P, Q, xs, u, hk, rfl, rfl, rfl, hA, HPQ, hPk, hF⟩ := hrel
    have hxk : xs.length ≤ 150 := by have := HPQ.out; omega
    have hQb : Q ≤ 150 := by have := HPQ.out; omega
    by_cases hlt : k < l.length
    · obtain ⟨b, o, rfl, c0, c1, c2, hkd, hsm⟩ := HC.out k hlt
      have c0 := hF.cell c0 (fun h => h)
      have c1 := hF.cell c1 (fun h => h)
      have c2 := hF.cell c2 (fun h => h)
      generalize (l[k]).kind = kd at *
      generalize (l[k]).s = s at *
      generalize (l[k]).n = n at *
      have hA2 := hA.frm0 ((Frm.refl (fun _ => False) wr).alloc (.cells #[.int .u8 kd, .string s, .int .i64 n] 59))
      have hF3 := hF.alloc (.cells #[.int .u8 kd, .string s, .int .i64 n] 59)
      have hbD := Bk.new wr (.cells #[.int .u8 kd, .string s, .int .i64 n] 59)
      have hDb := hA.lt
      have hDo := hA.own
      go_wp2_with fail
      all_goals
        generalize wr.alloc (.cells #[.int .u8 kd, .string s, .int .i64 n] 59) = wa at *
        generalize wr.heap.size = D at *
        clear c0 c1 c2 hA hF
        have x2 : wa.cell? ⟨D, 2, none⟩ = some (.int .i64 n) := Bk.cell hbD 2
      · go_ret
        exact ⟨rfl, hF3.below (fun _ _ h => h)⟩
      · by_cases hi : 0 ≤ n ∧ n < xs.length
        · have hcl := cut_len hi
          have hag := Lib.hid (at_get hi)
          refine (take_to hA2 (by omega) hag.out rfl).mono ?_
          rintro e w3 ⟨u3, rfl, h3, hm3, hf3⟩
          have hF4 := hA2.out hF3 hbb hf3
          go_wp2_with fail
          go_roundw
          case rel => exact ⟨k + 1, P, Q + 1, _, _, by omega, by go_num, rfl, by go_num, h3, by have := HPQ.out; unfold Hid; omega, by omega, hF4⟩
          case measure => simp [intOf]; omega
        · have hag := Lib.hid (at_no hi)
          have hcn := Lib.hid (cut_no hi)
          refine (take_to hA2 (by omega) hag.out hcn.out).mono ?_
          rintro e w3 ⟨u3, rfl, h3, hm3, hf3⟩
          have hF4 := hA2.out hF3 hbb hf3
          go_wp2_with fail
          go_roundw
          case rel => exact ⟨k + 1, P, Q, _, _, by omega, by go_num, rfl, rfl, h3, by have := HPQ.out; unfold Hid; omega, by omega, hF4⟩
          case measure => simp [intOf]; omega
      · by_cases hi : 0 ≤ n ∧ n < xs.length
        · have hag := Lib.hid (at_get hi)
          by_cases h64 : xs.length < 64
          · have htw := Lib.hid (show twice xs n = (xs ++ [xs.getD n.toNat ⟨#[]⟩], 0) by unfold twice; rw [if_pos hi, if_pos h64])
            generalize xs.getD n.toNat ⟨#[]⟩ = x at *
            refine (at_to hA2 (by omega) hag.out).mono ?_
            rintro e w3 ⟨rfl, rfl⟩
            go_wp2_with fail
            refine (twice_to hA2 (by omega) htw.out).mono ?_
            rintro e w3 ⟨u3, rfl, h3, hm3, hf3⟩
            have hF4 := hA2.out hF3 hbb hf3
            go_wp2_with fail
            refine (len_to h3 (n := xs.length + 1) (by simp)).mono ?_
            rintro e w4 ⟨rfl, rfl⟩
            have hwr : ((xs.length + 1 : Nat) : Int) - 1 = (xs.length : Int) := by omega
            go_wp2_with fail
            refine (at_to h3 (by simp; omega) (at_last xs x _ (by omega))).mono ?_
            rintro e w4 ⟨rfl, rfl⟩
            go_wp2_with fail
            go_roundw
            case rel => exact ⟨k + 1, P + 1, Q, _, _, by omega, by go_num, by go_num, rfl, h3, by have := HPQ.out; unfold Hid; simp; omega, by omega, hF4⟩
            case measure => simp [intOf]; omega
          · have htw := Lib.hid (show twice xs n = (xs, 2) by unfold twice; rw [if_pos hi, if_neg h64])
            generalize xs.getD n.toNat ⟨#[]⟩ = x at *
            refine (at_to hA2 (by omega) hag.out).mono ?_
            rintro e w3 ⟨rfl, rfl⟩
            go_wp2_with fail
            refine (twice_to hA2 (by omega) htw.out).mono ?_
            rintro e w3 ⟨u3, rfl, h3, hm3, hf3⟩
            have hF4 := hA2.out hF3 hbb hf3
            go_wp2_with fail
            go_roundw
            case rel => exact ⟨k + 1, P, Q, _, _, by omega, by go_num, rfl, rfl, h3, by have := HPQ.out; unfold Hid; omega, by omega, hF4⟩
            case measure => simp [intOf]; omega
        · have hag := Lib.hid (at_no hi)
          have htw := Lib.hid (show twice xs n = (xs, 6) by unfold twice; rw [if_neg hi])
          refine (at_to hA2 (by omega) hag.out).mono ?_
          rintro e w3 ⟨rfl, rfl⟩
          go_wp2_with fail
          refine (twice_to hA2 (by omega) htw.out).mono ?_
          rintro e w3 ⟨u3, rfl, h3, hm3, hf3⟩
          have hF4 := hA2.out hF3 hbb hf3
          go_wp2_with fail
          go_roundw
          case rel => exact ⟨k + 1, P, Q, _, _, by omega, by go_num, rfl, rfl, h3, by have := HPQ.out; unfold Hid; omega, by omega, hF4⟩
          case measure => simp [intOf]; omega
      · refine (put_to hA2 (by omega) rfl).mono ?_
        rintro e w3 ⟨u3, rfl, h3, hm3, hf3⟩
        have hF4 := hA2.out hF3 hbb hf3
        go_wp2_with fail
        go_roundw
        case rel => exact ⟨k + 1, P + 1, Q, _, _, by omega, by go_num, by go_num, rfl, h3, by have := HPQ.out; unfold Hid; simp; omega, by omega, hF4⟩
        case measure => simp [intOf]; omega
    · obtain rfl : k = l.length := by omega
      go_wp2_with fail
      go_loopw [5] (fun q wq => ∃ (Q : Nat) (xs : List ByteArray) (u : Value), q = .int .i64 Q ∧ At wq bb u xs ∧ Hid (P = Q + xs.length) ∧ Frm0 w wq) (fun q _ => P - (intOf q).toNat)
      case atStart => exact ⟨Q, xs, u, rfl, hA, HPQ, hF⟩
      case round =>
        clear hA HPQ hF hxk
        obtain ⟨Q, xs, u, rfl, hA, HPQ, hF⟩ := hrel
        have hxk : xs.length ≤ 150 := by have := HPQ.out; omega
        have hQP : Q ≤ P := by have := HPQ.out; omega
        have hQb : Q ≤ 150 := by have := HPQ.out; omega
        by_cases h0 : 0 < xs.length
        · have hd1 : decide ((0 : Int) < (xs.length : Int)) = true := by simp; omega
          have hd2 : decide ((Q : Int) ≤ (P : Int)) = true := by simp; omega
          have hi : 0 ≤ (0 : Int) ∧ (0 : Int) < xs.length := by omega
          have HCL := Lib.hid (cut_len hi)
          have hag := Lib.hid (at_get hi)
          go_wp2_with fail
          refine (len_to hA rfl).mono ?_
          rintro e w3 ⟨rfl, rfl⟩
          go_wp2_with fail
          refine (take_to hA (by omega) hag.out rfl).mono ?_
          rintro e w3 ⟨u3, rfl, h3, hm3, hf3⟩
          have hF4 := hA.out hF hbb hf3
          go_wp2_with fail
          go_roundw
          case rel => exact ⟨Q + 1, cut xs 0, _, by go_num, h3, by have := HPQ.out; unfold Hid; rw [HCL.out]; omega, hF4⟩
          case measure => have := HPQ.out; simp [intOf]; omega
        · have hd1 : decide ((0 : Int) < (xs.length : Int)) = false := decide_eq_false (by omega)
          obtain rfl : P = Q := by have := HPQ.out; omega
          go_wp2_with fail
          refine (len_to hA rfl).mono ?_
          rintro e w3 ⟨rfl, rfl⟩
          go_wp2_with fail
          refine (at_nil _).mono ?_
          rintro e w3 ⟨rfl, rfl⟩
          go_wp2_with fail
          refine (take_nil _).mono ?_
          rintro e w3 ⟨rfl, rfl⟩
          go_wp2_with fail
          refine (put_nil _ _).mono ?_
          rintro e w3 ⟨rfl, rfl⟩
          go_wp2_with fail
          refine (twice_nil _ _).mono ?_
          rintro e w3 ⟨rfl, rfl⟩
          go_wp2_with fail
          refine (len_nil _).mono ?_
          rintro e w3 ⟨rfl, rfl⟩
          go_wp2_with fail
          refine (room_nil _).mono ?_
          rintro e w3 ⟨rfl, rfl⟩
          go_wp2_with fail
          refine (all_nil _).mono ?_
          rintro e w3 ⟨rfl, rfl⟩
          go_wp2
          go_ret
          exact ⟨rfl, hF.below (fun _ _ h => h)⟩
end Bg
end Go.Proofs.Yteokiiolchpndaa
