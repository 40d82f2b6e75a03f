/- The walk of HistCounts. -/
import Derived.Test.YtmpbgnopejeelaaHih
import Derived.Test.YtmpbgnopejeelaaO
import Derived.Test.YtmpbgnopejeelaaA
namespace Go.Proofs.Ytmpbgnopejeelaa
open Go.RowKit Go.ChangeShapes Go.WideShapes
set_option linter.unusedVariables false
set_option linter.unusedSimpArgs false

namespace Hs
set_option maxHeartbeats 1000000 in
theorem rplace_any (n : Nat) (part of_ : Int) (w : World) (hn0 : 0 < n) (hn : n ≤ 10000) :
    Calls Try.prog 27 #[.int .i64 n, .int .i64 part, .int .i64 of_] w fun e w' => e = .returned (.int .i64 (leftN n part of_)) ∧ w = w' := by
  have hbo := bring_bd of_ (show (1 : Int) ≤ 10000 by omega)
  have HB := Lib.hid (rbring_any of_ 1 10000)
  unfold leftN
  generalize bring of_ 1 10000 = o at *
  have hbp := bring_bd part (show (0 : Int) ≤ o by omega)
  have HP := Lib.hid (rbring_any part 0 o)
  generalize bring part 0 o = p at *
  obtain ⟨O, rfl⟩ := Int.eq_ofNat_of_zero_le (show 0 ≤ o by omega)
  obtain ⟨P, rfl⟩ := Int.eq_ofNat_of_zero_le hbp.1
  simp only [Int.toNat_natCast] at *
  have hP : P ≤ 10000 := by omega
  have hnp : n * P ≤ 100000000 := Nat.mul_le_mul hn hP
  obtain ⟨Z, hZ⟩ : ∃ Z, n * P = Z := ⟨_, rfl⟩
  have hZi : IntKind.i64.wrap ((n : Int) * (P : Int)) = (Z : Int) := by
    rw [show (n : Int) * (P : Int) = (Z : Int) by rw [← hZ]; simp]
    exact IntWalk.i64_in _ (by omega)
  rw [hZ] at hnp ⊢
  have hOz : ((O : Int) == 0) = false := by rw [beq_eq_false_iff_ne]; omega
  obtain ⟨D, hD⟩ : ∃ D, Z / O = D := ⟨_, rfl⟩
  have hDi : (Z : Int) / (O : Int) = (D : Int) := by rw [← hD]; simp
  have hDle : D ≤ Z := by rw [← hD]; exact Nat.div_le_self _ _
  rw [hD]
  clear hZ hD
  by_cases hc : n - 1 < D
  · have hd : decide ((n : Int) - 1 < (D : Int)) = true := decide_eq_true (by omega)
    go_enter Try.func27, Try.ntmps27
    go_wp2_with fail
    with_reducible refine (HB.out _).mono ?_
    rintro e w' ⟨rfl, rfl⟩
    go_wp2_with fail
    with_reducible refine (HP.out _).mono ?_
    rintro e w' ⟨rfl, rfl⟩
    go_wp2
    go_ret
    exact ⟨ret_int (by omega), rfl⟩
  · have hd : decide ((n : Int) - 1 < (D : Int)) = false := decide_eq_false (by omega)
    go_enter Try.func27, Try.ntmps27
    go_wp2_with fail
    with_reducible refine (HB.out _).mono ?_
    rintro e w' ⟨rfl, rfl⟩
    go_wp2_with fail
    with_reducible refine (HP.out _).mono ?_
    rintro e w' ⟨rfl, rfl⟩
    go_wp2
    go_ret
    exact ⟨ret_int (by omega), rfl⟩

theorem sum_snoc (q : Nat → Nat) : ∀ f c, sumN q (f + 1) c = sumN q f c + q (c + f)
  | 0, c => by simp [sumN]
  | f + 1, c => by
    show q c + sumN q (f + 1) (c + 1) = q c + sumN q f (c + 1) + q (c + (f + 1))
    rw [sum_snoc q f (c + 1), show c + 1 + f = c + (f + 1) by omega]
    omega
theorem sum_mono (q : Nat → Nat) (c : Nat) (h : c ≤ 305) : sumN q c 0 ≤ sumN q 305 0 := by
  obtain ⟨d, hd⟩ : ∃ d, 305 = c + d := ⟨305 - c, by omega⟩
  rw [hd]
  clear hd h
  induction d with
  | zero => exact Nat.le_refl _
  | succ d ih => rw [← Nat.add_assoc, sum_snoc]; omega
theorem count_take (s : List Nat) (c k : Nat) (h : k < s.length) : (s.take (k + 1)).count c = (s.take k).count c + if s[k] = c then 1 else 0 := by
  rw [← List.take_append_getElem h, List.count_append, List.count_singleton]
  simp

set_option maxHeartbeats 4000000 in
set_option maxRecDepth 100000 in
theorem counts_walk (l : List Int) (p : Int × Int) (v : Value) (w : World) (hs : Sl w v l.length (wints l)) :
    Calls Try.prog 5 #[v, arr2 p] w fun e w' => e = .returned (.bool true) ∧ Below w.heap.size w w' := by
  have hlen := hs.len
  obtain ⟨A, c, rfl⟩ := hs.form
  obtain ⟨p0, p1⟩ := p
  unfold arr2
  simp only
  by_cases h60 : 60 < l.length
  · go_enter Try.func5, Try.ntmps5
    go_wp2_with fail
    refine (hawake _).mono ?_
    rintro e w1 ⟨rfl, hf1⟩
    have hF1 : Frm0 w w1 := ((Frm.refl _ _).alloc _).trans hf1
    go_wp2
    go_ret
    exact ⟨rfl, hF1.below (fun _ _ h => h)⟩
  have hcell : ∀ k (hk : k < l.length), ∃ b o, A = some ⟨b, o, none⟩ ∧ w.cell? ⟨b, o + k, none⟩ = some (.int .i64 l[k]) := by
    intro k hk
    rcases hs with ⟨A', c', he, hn, _⟩ | ⟨b, o, c', he, h0, h1, h2, _, hc⟩
    · omega
    · cases he
      exact ⟨b, o, rfl, hc k _ (wints_at l k hk)⟩
  have HC := Lib.hid hcell
  clear hcell
  go_enter Try.func5, Try.ntmps5
  go_wp2_with fail
  refine (hawake _).mono ?_
  rintro e w1 ⟨rfl, hf1⟩
  have hb1 := hf1.blk (Bk.new w (.cells #[.int .i64 p0, .int .i64 p1] 26)) (fun h => h)
  have hF1 : Frm0 w w1 := ((Frm.refl _ _).alloc _).trans hf1
  have hlt1 := Bk.lt hb1
  go_wp2_with fail
  refine (new_any _).mono ?_
  rintro e w2 ⟨rfl, hA, hf2⟩
  have hF2 := hF1.trans hf2
  have hb2 := hf2.blk hb1 (fun h => h)
  have hbb : w.heap.size < w1.heap.size := hlt1
  clear hf1 hb1 hF1 hlt1 hf2
  generalize w1.heap.size = hb at *
  have e0 : w2.cell? ⟨w.heap.size, 0, none⟩ = some (.int .i64 p0) := Bk.cell hb2 0
  have e1 : w2.cell? ⟨w.heap.size, 1, none⟩ = some (.int .i64 p1) := Bk.cell hb2 1
  have E := Lib.hid (And.intro e0 e1)
  clear e0 e1 hb2
  go_wp2_with fail
  go_loopw [27] (fun i wr => ∃ (k : Nat), k ≤ l.length ∧ i = .int .i64 k ∧ At wr hb (qOf (l.take k)) k ∧ Frm (fun j => j = hb) w2 wr) (fun i _ => l.length - (intOf i).toNat)
  case atStart => exact ⟨0, Nat.zero_le _, rfl, hA, Frm.refl _ _⟩
  case round =>
    clear hA
    obtain ⟨k, hk, rfl, hA, hFr⟩ := hrel
    by_cases hlt : k < l.length
    · obtain ⟨b, o, rfl, hc⟩ := HC.out k hlt
      have hbl := World.block_lt_of_cell? w _ hc
      simp only at hbl
      have c0 := hFr.cell (hF2.cell hc (fun h => h)) (by simp only; omega)
      have hq := Lib.hid (qOf_take l k hlt)
      have hQL : Hid (∀ c, qOf (l.take k) c < 1000000) := fun c => by
        have := qOf_le (l.take k) c
        rw [List.length_take] at this
        omega
      have HA := Lib.hid (fun w (h : At w hb (qOf (l.take k)) k) => add_to (w := w) h (by omega) hQL.out hq.out.symm)
      generalize l[k] = a at *
      go_wp2_with fail
      refine (HA.out _ hA).mono ?_
      rintro e w3 ⟨rfl, h3, hf3⟩
      go_wp2_with fail
      go_roundw
      case rel => exact ⟨k + 1, by omega, by go_num, h3, hFr.trans hf3⟩
      case measure => simp [intOf]; omega
    · obtain rfl : k = l.length := by omega
      have e1 := Lib.hid (List.take_length (l := l))
      rw [e1.out] at hA
      have hF3 : Frm0 w wr := hF2.then_ hFr (fun i hi e => by omega)
      have E3 : Hid (wr.cell? ⟨w.heap.size, 0, none⟩ = some (.int .i64 p0) ∧ wr.cell? ⟨w.heap.size, 1, none⟩ = some (.int .i64 p1)) := Lib.hid ⟨hFr.cell E.out.1 (by simp only; omega), hFr.cell E.out.2 (by simp only; omega)⟩
      have hs3 := hs.frm0 hF3
      clear hF2 hFr E
      go_wp2_with fail
      refine (rsorted_any l _ _ hs3 (by omega)).mono ?_
      rintro e w4 ⟨u, rfl, hU, hf4⟩
      have hA4 := hA.frm0 hf4
      have hF4 := hF3.trans hf4
      have E4 : Hid (w4.cell? ⟨w.heap.size, 0, none⟩ = some (.int .i64 p0) ∧ w4.cell? ⟨w.heap.size, 1, none⟩ = some (.int .i64 p1)) := Lib.hid ⟨hf4.cell E3.out.1 (fun h => h), hf4.cell E3.out.2 (fun h => h)⟩
      clear hA hF3 E3 hs3 hf4
      have hsl := srt_len l
      have hUc : ∀ j (hj : j < (srt l).length), ∃ g cap, u = .slice (some ⟨g, 0, none⟩) l.length cap ∧ w4.cell? ⟨g, j, none⟩ = some (.int .i64 (srt l)[j]) := by
        intro j hj
        rcases hU.2 with ⟨h, h0⟩ | ⟨g, cap, cur, rfl, _⟩
        · omega
        · exact ⟨g, cap, rfl, by rw [hU.cellAt j (by omega), wints_at _ j hj]⟩
      obtain ⟨A5, c5, rfl⟩ := (Sl.of_own hU).form
      have HU := Lib.hid hUc
      clear hUc hU
      have HSB := Lib.hid (srt_bd l)
      have HQS := Lib.hid (qOf_srt l)
      have HSUM := Lib.hid (sum_qOf l)
      have HQL : Hid (∀ c, qOf l c ≤ 60) := fun c => by have := qOf_le l c; omega
      have HPL := Lib.hid (srt_plc l)
      have HSM := Lib.hid (fun c h => sum_mono (qOf l) c h)
      generalize hss : srt l = s at *
      have HSS := Lib.hid hss
      clear hss
      have HSL := Lib.hid hsl
      clear hsl
      go_wp2_with fail
      go_loop [9, 37] (fun t i => ∃ (c : Nat), c ≤ 305 ∧ i = .int .i64 c ∧ t = .int .i64 (sumN (qOf l) c 0 : Nat)) (fun _ i => 305 - (intOf i).toNat)
      case atStart => exact ⟨0, Nat.zero_le _, rfl, rfl⟩
      case round =>
        obtain ⟨c, hc5, rfl, rfl⟩ := hrel
        have hsb : sumN (qOf l) c 0 ≤ 60 := by
          have h1 := HSM.out c hc5
          have h2 := HSUM.out
          omega
        by_cases hlc : c < 305
        · have hci : (c : Int) < 305 := by omega
          have hqc := HQL.out c
          have hsn := Lib.hid (sum_snoc (qOf l) c 0)
          have HIN := Lib.hid (fun w (h : At w hb (qOf l) l.length) => in_any (c : Int) hb _ _ w h)
          have hin : inI (qOf l) (c : Int) = qOf l c := by unfold inI; rw [if_pos (by omega)]; simp
          rw [hin] at HIN
          have hqs := Lib.hid (HQS.out c)
          generalize hS : sumN (qOf l) c 0 = S0 at *
          have HS := Lib.hid hS
          clear hS hin
          go_wp2_with fail
          go_loop [11, 42] (fun t i => ∃ (k : Nat), k ≤ l.length ∧ i = .int .i64 k ∧ t = .int .i64 (((cls s).take k).count c : Nat)) (fun _ i => l.length - (intOf i).toNat)
          case atStart => exact ⟨0, Nat.zero_le _, rfl, rfl⟩
          case round =>
            obtain ⟨k, hk, rfl, rfl⟩ := hrel
            have hck : ((cls s).take k).count c ≤ 60 := by
              have h1 := List.count_le_length (a := c) (l := (cls s).take k)
              rw [List.length_take] at h1
              omega
            by_cases hlt : k < l.length
            · have hks : k < s.length := by have := HSL.out; omega
              have hkc : k < (cls s).length := by unfold cls; rwa [List.length_map]
              obtain ⟨g, cap, he, hc⟩ := HU.out k hks
              cases he
              have hn := HSB.out s[k] (List.getElem_mem hks)
              have HRC := Lib.hid (rcell_any s[k])
              rw [tm_id hn.1 hn.2] at HRC
              have hct := count_take (cls s) c k hkc
              have hck2 : (cls s)[k] = cellN (s[k]).toNat := by simp [cls]
              rw [hck2] at hct
              have HCT := Lib.hid hct
              have hki : (k : Int) < (l.length : Int) := by omega
              clear hct hck2
              generalize cellN (s[k]).toNat = C at *
              generalize s[k] = n at *
              generalize ((cls s).take k).count c = K0 at *
              by_cases hCc : C = c
              · have hd : ((C : Int) == (c : Int)) = true := by rw [beq_iff_eq]; omega
                go_wp2_with fail
                refine (HRC.out _).mono ?_
                rintro e w' ⟨rfl, rfl⟩
                go_wp2
                go_round
                case rel => exact ⟨k + 1, by omega, by go_num, by rw [HCT.out, if_pos hCc]; go_num⟩
                case measure => simp [intOf]; omega
              · have hd : ((C : Int) == (c : Int)) = false := by rw [beq_eq_false_iff_ne]; omega
                go_wp2_with fail
                refine (HRC.out _).mono ?_
                rintro e w' ⟨rfl, rfl⟩
                go_wp2
                go_round
                case rel => exact ⟨k + 1, by omega, by go_num, by rw [HCT.out, if_neg hCc]; rfl⟩
                case measure => simp [intOf]; omega
            · obtain rfl : k = l.length := by omega
              have hfull : ((cls s).take l.length).count c = qOf l c := by
                rw [List.take_of_length_le (by unfold cls; rw [List.length_map]; have := HSL.out; omega)]
                exact hqs.out.symm
              rw [hfull]
              clear hfull hck
              generalize hQ0 : qOf l c = Q0 at *
              have HQ0 := Lib.hid hQ0
              clear hQ0
              go_wp2_with fail
              refine (HIN.out _ hA4).mono ?_
              rintro e w' ⟨rfl, rfl⟩
              go_wp2
              go_round
              case rel => exact ⟨c + 1, by omega, by go_num, by rw [hsn.out, Nat.zero_add, HQ0.out]; go_num⟩
              case measure => simp [intOf]; omega
        · obtain rfl : c = 305 := by omega
          rw [HSUM.out]
          clear hsb
          have i1 : inI (qOf l) (-1) = 0 := by unfold inI; rw [if_neg (by omega)]
          have i2 : inI (qOf l) 305 = 0 := by unfold inI; rw [if_neg (by omega)]
          have HI1 := Lib.hid (fun w (h : At w hb (qOf l) l.length) => in_any (-1) hb _ _ w h)
          have HI2 := Lib.hid (fun w (h : At w hb (qOf l) l.length) => in_any 305 hb _ _ w h)
          rw [i1] at HI1
          rw [i2] at HI2
          have f0 := E4.out.1
          have f1 := E4.out.2
          by_cases hl0 : l.length = 0
          · have hln : l = [] := List.eq_nil_of_length_eq_zero hl0
            subst hln
            have HA0 : At w4 hb (qOf []) 0 := hA4
            go_wp2_with fail
            refine (at_none p0 p1 hb _ _ HA0).mono ?_
            rintro e w5 ⟨rfl, hf5⟩
            have hA5 := HA0.frm0 hf5
            go_wp2_with fail
            refine (count_any hb _ 0 _ hA5).mono ?_
            rintro e w' ⟨rfl, rfl⟩
            go_wp2_with fail
            with_reducible refine (HI1.out _ hA5).mono ?_
            rintro e w' ⟨rfl, rfl⟩
            go_wp2_with fail
            with_reducible refine (HI2.out _ hA5).mono ?_
            rintro e w' ⟨rfl, rfl⟩
            go_wp2
            go_ret
            exact ⟨rfl, (hF4.trans hf5).below (fun _ _ h => h)⟩
          · have hl1 : 0 < l.length := by omega
            have hi : leftN l.length p0 p1 < l.length := by unfold leftN; omega
            have his : leftN l.length p0 p1 < s.length := by have := HSL.out; omega
            have HP := Lib.hid (fun w => rplace_any l.length p0 p1 w hl1 (by omega))
            have hpl := HPL.out (leftN l.length p0 p1) his
            have HAT := Lib.hid (fun w (h : At w hb (qOf l) l.length) => at_some p0 p1 hb (qOf l) l.length w h hl1 (by omega) HSUM.out)
            rw [hpl] at HAT
            obtain ⟨g, cap, he, hc⟩ := HU.out _ his
            cases he
            have hn := HSB.out _ (List.getElem_mem his)
            have HRC := Lib.hid (rcell_any (s[leftN l.length p0 p1]))
            rw [tm_id hn.1 hn.2] at HRC
            obtain ⟨N, hN⟩ := Int.eq_ofNat_of_zero_le hn.1
            rw [hN] at HRC HAT hc hn
            simp only [Int.toNat_natCast] at HRC HAT
            obtain ⟨k1, k2, k3⟩ := cell_in (n := N) (by omega)
            have HL := Lib.hid (rleast_any (cellN N : Nat))
            have HM := Lib.hid (rmost_any (cellN N : Nat))
            rw [show leastI (cellN N : Nat) = leastN (cellN N) by unfold leastI; rw [bring_id (by omega) (by omega)]; simp] at HL
            rw [show mostI (cellN N : Nat) = mostN (cellN N) by unfold mostI; rw [bring_id (by omega) (by omega)]; simp] at HM
            clear hN hpl HPL
            generalize leastN (cellN N) = LC at *
            generalize mostN (cellN N) = MC at *
            generalize cellN N = C at *
            generalize leftN l.length p0 p1 = i at *
            have d1 : decide ((LC : Int) ≤ (N : Int)) = true := decide_eq_true (by omega)
            have d2 : decide ((N : Int) ≤ (MC : Int)) = true := decide_eq_true (by omega)
            have d3 : decide ((0 : Int) < (l.length : Int)) = true := decide_eq_true (by omega)
            have hii : (i : Int) < (l.length : Int) := by omega
            go_wp2_with fail
            with_reducible refine (HAT.out _ hA4).mono ?_
            rintro e w5 ⟨rfl, hf5⟩
            have hA5 := hA4.frm0 hf5
            have f0 := hf5.cell f0 (fun h => h)
            have f1 := hf5.cell f1 (fun h => h)
            have hc := hf5.cell hc (fun h => h)
            go_wp2_with fail
            refine (count_any hb _ _ _ hA5).mono ?_
            rintro e w' ⟨rfl, rfl⟩
            go_wp2_with fail
            with_reducible refine (HI1.out _ hA5).mono ?_
            rintro e w' ⟨rfl, rfl⟩
            go_wp2_with fail
            with_reducible refine (HI2.out _ hA5).mono ?_
            rintro e w' ⟨rfl, rfl⟩
            go_wp2_with fail
            with_reducible refine (HP.out _).mono ?_
            rintro e w' ⟨rfl, rfl⟩
            go_wp2_with fail
            with_reducible refine (HRC.out _).mono ?_
            rintro e w' ⟨rfl, rfl⟩
            go_wp2_with fail
            with_reducible refine (HL.out _).mono ?_
            rintro e w' ⟨rfl, rfl⟩
            go_wp2_with fail
            with_reducible refine (HM.out _).mono ?_
            rintro e w' ⟨rfl, rfl⟩
            go_wp2
            go_ret
            exact ⟨rfl, (hF4.trans hf5).below (fun _ _ h => h)⟩
end Hs
end Go.Proofs.Ytmpbgnopejeelaa
