/- Whatever is taken and given, quota answers as its reference: the walk of QuotaRuns. -/
import Derived.Test.YtkmafgmlcocjiaaQf
import Derived.Test.YtkmafgmlcocjiaaQe
namespace Go.Proofs.Ytkmafgmlcocjiaa
open Go.RowKit Qt

theorem gdeed_len (a : Bool × Int) : (gdeed a).length = 2 := rfl
theorem gdeed_at {w : World} {b o : Nat} {l : List (Bool × Int)} (h : ∀ j u, (l.flatMap gdeed)[j]? = some u → w.cell? ⟨b, o + j, none⟩ = some u) (k : Nat) (hk : k < l.length) :
    w.cell? ⟨b, o + k * 2, none⟩ = some (.bool (l[k]).1) ∧ w.cell? ⟨b, o + k * 2 + 1, none⟩ = some (.int .i64 (l[k]).2) := by
  have h0 := flat_at gdeed 2 gdeed_len l k 0 l[k] (List.getElem?_eq_getElem hk) (by omega)
  have h1 := flat_at gdeed 2 gdeed_len l k 1 l[k] (List.getElem?_eq_getElem hk) (by omega)
  exact ⟨h _ _ h0, h _ _ h1⟩

set_option maxHeartbeats 2000000 in
set_option maxRecDepth 100000 in
theorem runs_walk (most : Int) (v : Value) (l : List (Bool × Int)) (w : World) (hs : Sl w v l.length (l.flatMap gdeed)) :
    Calls Try.prog 9 #[.int .i64 most, v] w fun e w' => e = .returned (.bool true) ∧ Below w.heap.size w w' := by
  have hlen := hs.len
  rcases hs with ⟨A, c, rfl, hn, _⟩ | ⟨b, o, c, rfl, h00, h1, h2, hb, hc⟩
  · have hl : l = [] := List.eq_nil_of_length_eq_zero hn
    subst hl
    go_enter Try.func9, Try.ntmps9
    go_wp2_with fail
    refine (qawake _).mono ?_
    rintro e w1 ⟨rfl, hf1⟩
    go_wp2_with fail
    refine (new_any most _).mono ?_
    rintro e w2 ⟨rfl, hq2, hf2⟩
    go_wp2
    go_rounds 1
    go_ret
    exact ⟨rfl, (hf1.trans hf2).below (fun _ _ h => h)⟩
  · by_cases h500 : 500 < l.length
    · go_enter Try.func9, Try.ntmps9
      go_wp2_with fail
      refine (qawake _).mono ?_
      rintro e w1 ⟨rfl, hf1⟩
      go_wp2
      go_ret
      exact ⟨rfl, hf1.below (fun _ _ h => h)⟩
    · have hcell := gdeed_at hc
      have HC := Lib.hid hcell
      clear hcell hc
      go_enter Try.func9, Try.ntmps9
      go_wp2_with fail
      refine (qawake _).mono ?_
      rintro e w1 ⟨rfl, hf1⟩
      go_wp2_with fail
      refine (new_any most _).mono ?_
      rintro e w2 ⟨rfl, hq2, hf2⟩
      have hF2 := hf1.trans hf2
      have hsz1 := hf1.size
      have hsz2 := hf2.size
      clear hf2
      generalize hqb : w1.heap.size = qb at *
      clear hqb
      have hl2 := Bk.lt hq2.blk
      change At w2 qb (rmost most) _ at hq2
      go_wp2
      go_loopw [6, 21] (fun t i wr => ∃ k : Nat, k ≤ l.length ∧ i = .int .i64 k ∧ (∃ xs u, Sl wr t xs.length (ints xs) ∧ Agrees xs u ∧ At wr qb (rmost most) u ∧ xs.length ≤ k ∧ t.ownBlock ≠ some qb) ∧ Frm0 w wr) (fun _ i _ => l.length - (intOf i).toNat)
      case atStart => exact ⟨0, by omega, rfl, ⟨[], _, Sl.nil _, agrees_nil, hq2, by simp, by simp [Value.ownBlock]⟩, hF2⟩
      case round =>
        obtain ⟨k, hk, rfl, ⟨xs, u, hsr, hA, hqr, hxk, hno⟩, hFr⟩ := hrel
        by_cases hlt : k < l.length
        · have hck := HC.out k hlt
          have hc0 := hFr.cell hck.1 (fun h => h)
          have hc1 := hFr.cell hck.2 (fun h => h)
          clear hck
          generalize (l[k]).1 = g at *
          generalize (l[k]).2 = t at *
          have ht3 : (0 ≤ t ∧ t < 4) ∨ t < 0 ∨ 0 ≤ t ∧ 3 < t := by omega
          cases g
          · rcases ht3 with ht | hneg | ⟨hp0, hbig⟩
            · go_wp2_with fail
              refine (take_inv hA most t _ _ (hsr.frm0 ((Frm.refl _ _).alloc _)) (by omega)).mono ?_
              rintro e w3 ⟨v1, ys, rfl, hs3, hA3, hf3, hl3, hn3⟩
              have hfa : Frm0 wr w3 := ((Frm.refl _ _).alloc _).trans hf3
              have hq3 := hqr.frm hfa (fun h => h)
              have hb3 := hf3.blk (Bk.new wr _) (fun h => h)
              have hd3 := Bk.cell hb3
              go_wp2_with fail
              refine (take_any t qb _ u _ hq3).mono ?_
              rintro e w4 ⟨rfl, hq4, hf4⟩
              generalize (take (rmost most) u t).2 = e0 at *
              generalize (take (rmost most) u t).1 = u1 at *
              have hlr := Bk.lt hqr.blk
              have hnq : v1.ownBlock ≠ some qb := hn3 qb (by simp; omega) hno
              have hs4 := hs3.frm hf4 (fun i _ hi e => hnq (by rw [hi, e]))
              have hb4 := hf4.blk hb3 (by omega)
              have hd4 := Bk.cell hb4
              have hF4 : Frm0 w w4 := (hFr.trans hfa).then_ hf4 (fun i hi h => by omega)
              clear hd3
              go_wp2_with fail
              refine (count_any ys t v1 _ hs4).mono ?_
              rintro e w5 ⟨rfl, rfl⟩
              go_wp2_with fail
              refine (most_any most _).mono ?_
              rintro e w5 ⟨rfl, rfl⟩
              have hcl : 0 ≤ (cnt t ys : Int) ∧ (cnt t ys : Int) ≤ 1000 := by have := cnt_le t ys; omega
              have hmb := hq4.mb
              have hU := Lib.hid (agrees_used hA3 t)
              have hAL := Lib.hid (agrees_all hA3)
              have hL : left (rmost most) u1 t = rmost most - (cnt t ys : Int) := by unfold left; rw [if_pos (by simp [ok]; omega), agrees_get hA3 ht]
              have HL := Lib.hid hL
              clear hL
              generalize (cnt t ys : Int) = ct at *
              generalize hm0 : rmost most = m at *
              have HM := Lib.hid hm0
              clear hm0
              obtain ⟨ht0, ht4⟩ := ht
              go_wp2_with fail
              refine (used_to hq4 hU.out).mono ?_
              rintro e w6 ⟨rfl, rfl⟩
              go_wp2_with fail
              refine (left_to hq4 HL.out).mono ?_
              rintro e w6 ⟨rfl, nd, rfl⟩
              have hq6 := hq4.drewN nd
              have hs6 := hs4.frm0 ((Frm.refl _ _).drewN nd)
              have hF6 := hF4.drewN nd
              generalize w4.drewN nd = w6 at *
              go_wp2_with fail
              refine (all_to hq6 hAL.out).mono ?_
              rintro e w7 ⟨rfl, rfl⟩
              obtain ⟨A7, c7, rfl⟩ := hs6.form
              go_wp2
              go_roundw
              case rel => exact ⟨k + 1, by omega, by go_num, ⟨ys, u1, hs6, hA3, HM.out ▸ hq6, by omega, hnq⟩, hF6⟩
              case measure => simp [intOf]; omega
            · have ht : ¬ (0 ≤ t ∧ t < 4) := by omega
              go_wp2_with fail
              refine (take_inv hA most t _ _ (hsr.frm0 ((Frm.refl _ _).alloc _)) (by omega)).mono ?_
              rintro e w3 ⟨v1, ys, rfl, hs3, hA3, hf3, hl3, hn3⟩
              have hfa : Frm0 wr w3 := ((Frm.refl _ _).alloc _).trans hf3
              have hq3 := hqr.frm hfa (fun h => h)
              have hb3 := hf3.blk (Bk.new wr _) (fun h => h)
              have hd3 := Bk.cell hb3
              go_wp2_with fail
              refine (take_any t qb _ u _ hq3).mono ?_
              rintro e w4 ⟨rfl, hq4, hf4⟩
              generalize (take (rmost most) u t).2 = e0 at *
              generalize (take (rmost most) u t).1 = u1 at *
              have hlr := Bk.lt hqr.blk
              have hnq : v1.ownBlock ≠ some qb := hn3 qb (by simp; omega) hno
              have hs4 := hs3.frm hf4 (fun i _ hi e => hnq (by rw [hi, e]))
              have hb4 := hf4.blk hb3 (by omega)
              have hd4 := Bk.cell hb4
              have hF4 : Frm0 w w4 := (hFr.trans hfa).then_ hf4 (fun i hi h => by omega)
              clear hd3
              go_wp2_with fail
              refine (count_any ys t v1 _ hs4).mono ?_
              rintro e w5 ⟨rfl, rfl⟩
              go_wp2_with fail
              refine (most_any most _).mono ?_
              rintro e w5 ⟨rfl, rfl⟩
              have hcl : 0 ≤ (cnt t ys : Int) ∧ (cnt t ys : Int) ≤ 1000 := by have := cnt_le t ys; omega
              have hmb := hq4.mb
              have hU := Lib.hid (agrees_used hA3 t)
              have hAL := Lib.hid (agrees_all hA3)
              have hL : left (rmost most) u1 t = 0 := by unfold left; rw [if_neg (by simp [ok]; omega)]
              have HL := Lib.hid hL
              clear hL
              generalize (cnt t ys : Int) = ct at *
              generalize hm0 : rmost most = m at *
              have HM := Lib.hid hm0
              clear hm0
              clear ht
              go_wp2_with fail
              refine (used_to hq4 hU.out).mono ?_
              rintro e w6 ⟨rfl, rfl⟩
              go_wp2_with fail
              refine (left_to hq4 HL.out).mono ?_
              rintro e w6 ⟨rfl, nd, rfl⟩
              have hq6 := hq4.drewN nd
              have hs6 := hs4.frm0 ((Frm.refl _ _).drewN nd)
              have hF6 := hF4.drewN nd
              generalize w4.drewN nd = w6 at *
              go_wp2_with fail
              refine (all_to hq6 hAL.out).mono ?_
              rintro e w7 ⟨rfl, rfl⟩
              obtain ⟨A7, c7, rfl⟩ := hs6.form
              go_wp2
              go_roundw
              case rel => exact ⟨k + 1, by omega, by go_num, ⟨ys, u1, hs6, hA3, HM.out ▸ hq6, by omega, hnq⟩, hF6⟩
              case measure => simp [intOf]; omega
            · have ht : ¬ (0 ≤ t ∧ t < 4) := by omega
              go_wp2_with fail
              refine (take_inv hA most t _ _ (hsr.frm0 ((Frm.refl _ _).alloc _)) (by omega)).mono ?_
              rintro e w3 ⟨v1, ys, rfl, hs3, hA3, hf3, hl3, hn3⟩
              have hfa : Frm0 wr w3 := ((Frm.refl _ _).alloc _).trans hf3
              have hq3 := hqr.frm hfa (fun h => h)
              have hb3 := hf3.blk (Bk.new wr _) (fun h => h)
              have hd3 := Bk.cell hb3
              go_wp2_with fail
              refine (take_any t qb _ u _ hq3).mono ?_
              rintro e w4 ⟨rfl, hq4, hf4⟩
              generalize (take (rmost most) u t).2 = e0 at *
              generalize (take (rmost most) u t).1 = u1 at *
              have hlr := Bk.lt hqr.blk
              have hnq : v1.ownBlock ≠ some qb := hn3 qb (by simp; omega) hno
              have hs4 := hs3.frm hf4 (fun i _ hi e => hnq (by rw [hi, e]))
              have hb4 := hf4.blk hb3 (by omega)
              have hd4 := Bk.cell hb4
              have hF4 : Frm0 w w4 := (hFr.trans hfa).then_ hf4 (fun i hi h => by omega)
              clear hd3
              go_wp2_with fail
              refine (count_any ys t v1 _ hs4).mono ?_
              rintro e w5 ⟨rfl, rfl⟩
              go_wp2_with fail
              refine (most_any most _).mono ?_
              rintro e w5 ⟨rfl, rfl⟩
              have hcl : 0 ≤ (cnt t ys : Int) ∧ (cnt t ys : Int) ≤ 1000 := by have := cnt_le t ys; omega
              have hmb := hq4.mb
              have hU := Lib.hid (agrees_used hA3 t)
              have hAL := Lib.hid (agrees_all hA3)
              have hL : left (rmost most) u1 t = 0 := by unfold left; rw [if_neg (by simp [ok]; omega)]
              have HL := Lib.hid hL
              clear hL
              generalize (cnt t ys : Int) = ct at *
              generalize hm0 : rmost most = m at *
              have HM := Lib.hid hm0
              clear hm0
              clear ht
              go_wp2_with fail
              refine (used_to hq4 hU.out).mono ?_
              rintro e w6 ⟨rfl, rfl⟩
              go_wp2_with fail
              refine (left_to hq4 HL.out).mono ?_
              rintro e w6 ⟨rfl, nd, rfl⟩
              have hq6 := hq4.drewN nd
              have hs6 := hs4.frm0 ((Frm.refl _ _).drewN nd)
              have hF6 := hF4.drewN nd
              generalize w4.drewN nd = w6 at *
              go_wp2_with fail
              refine (all_to hq6 hAL.out).mono ?_
              rintro e w7 ⟨rfl, rfl⟩
              obtain ⟨A7, c7, rfl⟩ := hs6.form
              go_wp2
              go_roundw
              case rel => exact ⟨k + 1, by omega, by go_num, ⟨ys, u1, hs6, hA3, HM.out ▸ hq6, by omega, hnq⟩, hF6⟩
              case measure => simp [intOf]; omega
          · rcases ht3 with ht | hneg | ⟨hp0, hbig⟩
            · go_wp2_with fail
              refine (give_inv hA t _ _ (hsr.frm0 ((Frm.refl _ _).alloc _)) (by omega)).mono ?_
              rintro e w3 ⟨v1, ys, rfl, hs3, hA3, hf3, hl3, hn3⟩
              have hfa : Frm0 wr w3 := ((Frm.refl _ _).alloc _).trans hf3
              have hq3 := hqr.frm hfa (fun h => h)
              have hb3 := hf3.blk (Bk.new wr _) (fun h => h)
              have hd3 := Bk.cell hb3
              go_wp2_with fail
              refine (give_any t qb _ u _ hq3).mono ?_
              rintro e w4 ⟨rfl, hq4, hf4⟩
              generalize (give u t).2 = e0 at *
              generalize (give u t).1 = u1 at *
              have hlr := Bk.lt hqr.blk
              have hnq : v1.ownBlock ≠ some qb := hn3 qb (by simp; omega) hno
              have hs4 := hs3.frm hf4 (fun i _ hi e => hnq (by rw [hi, e]))
              have hb4 := hf4.blk hb3 (by omega)
              have hd4 := Bk.cell hb4
              have hF4 : Frm0 w w4 := (hFr.trans hfa).then_ hf4 (fun i hi h => by omega)
              clear hd3
              go_wp2_with fail
              refine (count_any ys t v1 _ hs4).mono ?_
              rintro e w5 ⟨rfl, rfl⟩
              go_wp2_with fail
              refine (most_any most _).mono ?_
              rintro e w5 ⟨rfl, rfl⟩
              have hcl : 0 ≤ (cnt t ys : Int) ∧ (cnt t ys : Int) ≤ 1000 := by have := cnt_le t ys; omega
              have hmb := hq4.mb
              have hU := Lib.hid (agrees_used hA3 t)
              have hAL := Lib.hid (agrees_all hA3)
              have hL : left (rmost most) u1 t = rmost most - (cnt t ys : Int) := by unfold left; rw [if_pos (by simp [ok]; omega), agrees_get hA3 ht]
              have HL := Lib.hid hL
              clear hL
              generalize (cnt t ys : Int) = ct at *
              generalize hm0 : rmost most = m at *
              have HM := Lib.hid hm0
              clear hm0
              obtain ⟨ht0, ht4⟩ := ht
              go_wp2_with fail
              refine (used_to hq4 hU.out).mono ?_
              rintro e w6 ⟨rfl, rfl⟩
              go_wp2_with fail
              refine (left_to hq4 HL.out).mono ?_
              rintro e w6 ⟨rfl, nd, rfl⟩
              have hq6 := hq4.drewN nd
              have hs6 := hs4.frm0 ((Frm.refl _ _).drewN nd)
              have hF6 := hF4.drewN nd
              generalize w4.drewN nd = w6 at *
              go_wp2_with fail
              refine (all_to hq6 hAL.out).mono ?_
              rintro e w7 ⟨rfl, rfl⟩
              obtain ⟨A7, c7, rfl⟩ := hs6.form
              go_wp2
              go_roundw
              case rel => exact ⟨k + 1, by omega, by go_num, ⟨ys, u1, hs6, hA3, HM.out ▸ hq6, by omega, hnq⟩, hF6⟩
              case measure => simp [intOf]; omega
            · have ht : ¬ (0 ≤ t ∧ t < 4) := by omega
              go_wp2_with fail
              refine (give_inv hA t _ _ (hsr.frm0 ((Frm.refl _ _).alloc _)) (by omega)).mono ?_
              rintro e w3 ⟨v1, ys, rfl, hs3, hA3, hf3, hl3, hn3⟩
              have hfa : Frm0 wr w3 := ((Frm.refl _ _).alloc _).trans hf3
              have hq3 := hqr.frm hfa (fun h => h)
              have hb3 := hf3.blk (Bk.new wr _) (fun h => h)
              have hd3 := Bk.cell hb3
              go_wp2_with fail
              refine (give_any t qb _ u _ hq3).mono ?_
              rintro e w4 ⟨rfl, hq4, hf4⟩
              generalize (give u t).2 = e0 at *
              generalize (give u t).1 = u1 at *
              have hlr := Bk.lt hqr.blk
              have hnq : v1.ownBlock ≠ some qb := hn3 qb (by simp; omega) hno
              have hs4 := hs3.frm hf4 (fun i _ hi e => hnq (by rw [hi, e]))
              have hb4 := hf4.blk hb3 (by omega)
              have hd4 := Bk.cell hb4
              have hF4 : Frm0 w w4 := (hFr.trans hfa).then_ hf4 (fun i hi h => by omega)
              clear hd3
              go_wp2_with fail
              refine (count_any ys t v1 _ hs4).mono ?_
              rintro e w5 ⟨rfl, rfl⟩
              go_wp2_with fail
              refine (most_any most _).mono ?_
              rintro e w5 ⟨rfl, rfl⟩
              have hcl : 0 ≤ (cnt t ys : Int) ∧ (cnt t ys : Int) ≤ 1000 := by have := cnt_le t ys; omega
              have hmb := hq4.mb
              have hU := Lib.hid (agrees_used hA3 t)
              have hAL := Lib.hid (agrees_all hA3)
              have hL : left (rmost most) u1 t = 0 := by unfold left; rw [if_neg (by simp [ok]; omega)]
              have HL := Lib.hid hL
              clear hL
              generalize (cnt t ys : Int) = ct at *
              generalize hm0 : rmost most = m at *
              have HM := Lib.hid hm0
              clear hm0
              clear ht
              go_wp2_with fail
              refine (used_to hq4 hU.out).mono ?_
              rintro e w6 ⟨rfl, rfl⟩
              go_wp2_with fail
              refine (left_to hq4 HL.out).mono ?_
              rintro e w6 ⟨rfl, nd, rfl⟩
              have hq6 := hq4.drewN nd
              have hs6 := hs4.frm0 ((Frm.refl _ _).drewN nd)
              have hF6 := hF4.drewN nd
              generalize w4.drewN nd = w6 at *
              go_wp2_with fail
              refine (all_to hq6 hAL.out).mono ?_
              rintro e w7 ⟨rfl, rfl⟩
              obtain ⟨A7, c7, rfl⟩ := hs6.form
              go_wp2
              go_roundw
              case rel => exact ⟨k + 1, by omega, by go_num, ⟨ys, u1, hs6, hA3, HM.out ▸ hq6, by omega, hnq⟩, hF6⟩
              case measure => simp [intOf]; omega
            · have ht : ¬ (0 ≤ t ∧ t < 4) := by omega
              go_wp2_with fail
              refine (give_inv hA t _ _ (hsr.frm0 ((Frm.refl _ _).alloc _)) (by omega)).mono ?_
              rintro e w3 ⟨v1, ys, rfl, hs3, hA3, hf3, hl3, hn3⟩
              have hfa : Frm0 wr w3 := ((Frm.refl _ _).alloc _).trans hf3
              have hq3 := hqr.frm hfa (fun h => h)
              have hb3 := hf3.blk (Bk.new wr _) (fun h => h)
              have hd3 := Bk.cell hb3
              go_wp2_with fail
              refine (give_any t qb _ u _ hq3).mono ?_
              rintro e w4 ⟨rfl, hq4, hf4⟩
              generalize (give u t).2 = e0 at *
              generalize (give u t).1 = u1 at *
              have hlr := Bk.lt hqr.blk
              have hnq : v1.ownBlock ≠ some qb := hn3 qb (by simp; omega) hno
              have hs4 := hs3.frm hf4 (fun i _ hi e => hnq (by rw [hi, e]))
              have hb4 := hf4.blk hb3 (by omega)
              have hd4 := Bk.cell hb4
              have hF4 : Frm0 w w4 := (hFr.trans hfa).then_ hf4 (fun i hi h => by omega)
              clear hd3
              go_wp2_with fail
              refine (count_any ys t v1 _ hs4).mono ?_
              rintro e w5 ⟨rfl, rfl⟩
              go_wp2_with fail
              refine (most_any most _).mono ?_
              rintro e w5 ⟨rfl, rfl⟩
              have hcl : 0 ≤ (cnt t ys : Int) ∧ (cnt t ys : Int) ≤ 1000 := by have := cnt_le t ys; omega
              have hmb := hq4.mb
              have hU := Lib.hid (agrees_used hA3 t)
              have hAL := Lib.hid (agrees_all hA3)
              have hL : left (rmost most) u1 t = 0 := by unfold left; rw [if_neg (by simp [ok]; omega)]
              have HL := Lib.hid hL
              clear hL
              generalize (cnt t ys : Int) = ct at *
              generalize hm0 : rmost most = m at *
              have HM := Lib.hid hm0
              clear hm0
              clear ht
              go_wp2_with fail
              refine (used_to hq4 hU.out).mono ?_
              rintro e w6 ⟨rfl, rfl⟩
              go_wp2_with fail
              refine (left_to hq4 HL.out).mono ?_
              rintro e w6 ⟨rfl, nd, rfl⟩
              have hq6 := hq4.drewN nd
              have hs6 := hs4.frm0 ((Frm.refl _ _).drewN nd)
              have hF6 := hF4.drewN nd
              generalize w4.drewN nd = w6 at *
              go_wp2_with fail
              refine (all_to hq6 hAL.out).mono ?_
              rintro e w7 ⟨rfl, rfl⟩
              obtain ⟨A7, c7, rfl⟩ := hs6.form
              go_wp2
              go_roundw
              case rel => exact ⟨k + 1, by omega, by go_num, ⟨ys, u1, hs6, hA3, HM.out ▸ hq6, by omega, hnq⟩, hF6⟩
              case measure => simp [intOf]; omega
        · obtain rfl : k = l.length := by omega
          go_wp2
          go_ret
          exact ⟨rfl, hFr.below (fun _ _ h => h)⟩
end Go.Proofs.Ytkmafgmlcocjiaa
