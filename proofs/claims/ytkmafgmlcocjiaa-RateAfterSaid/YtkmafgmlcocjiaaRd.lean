/- The walk of RateAfter. -/
import Derived.Test.YtkmafgmlcocjiaaRc
import Derived.Deep.RegionHeld3
namespace Go.Proofs.Ytkmafgmlcocjiaa
open Go.RowKit Rt
set_option linter.unusedVariables false
set_option linter.unusedSimpArgs false

set_option maxHeartbeats 2000000 in
set_option maxRecDepth 100000 in
theorem rateafter_long (p : Int × Int) (ask : Int × Int × Int) (v : Value) (l : List (Int × Int × Int)) (w : World) (hs : Sl w v l.length (l.flatMap rdeed)) (h20 : 20 < l.length) :
    Calls Try.prog 13 #[arr2 p, v, arr3 ask] w fun e w' => e = .returned (.bool true) ∧ Below w.heap.size w w' := by
  have hlen := hs.len
  have hdc : decide ((20 : Int) < (l.length : Int)) = true := by simp; omega
  obtain ⟨A, c, rfl⟩ := hs.form
  obtain ⟨p0, p1⟩ := p
  obtain ⟨q0, q1, q2⟩ := ask
  unfold arr2 arr3
  simp only
  go_enter Try.func13, Try.ntmps13
  go_wp2_with fail
  refine (rawake _).mono ?_
  rintro e w1 ⟨rfl, hf1⟩
  have hF1 : Frm0 w w1 := (((Frm.refl _ _).alloc _).alloc _).trans hf1
  go_wp2
  go_ret
  exact ⟨rfl, hF1.below (fun _ _ h => h)⟩

set_option maxHeartbeats 2000000 in
set_option maxRecDepth 100000 in
theorem rateafter_late (p : Int × Int) (ask : Int × Int × Int) (v : Value) (l : List (Int × Int × Int)) (w : World) (hs : Sl w v l.length (l.flatMap rdeed)) (h20 : ¬ 20 < l.length) (hq : 549755813888 < ask.2.1) :
    Calls Try.prog 13 #[arr2 p, v, arr3 ask] w fun e w' => e = .returned (.bool true) ∧ Below w.heap.size w w' := by
  have hlen := hs.len
  have hdc : decide ((20 : Int) < (l.length : Int)) = false := by simp; omega
  obtain ⟨A, c, rfl⟩ := hs.form
  obtain ⟨p0, p1⟩ := p
  obtain ⟨q0, q1, q2⟩ := ask
  simp only at hq
  unfold arr2 arr3
  simp only
  go_enter Try.func13, Try.ntmps13
  go_wp2_with fail
  refine (rawake _).mono ?_
  rintro e w1 ⟨rfl, hf1⟩
  have hb3 := hf1.blk (Bk.new _ _) (fun h => h)
  have hF1 : Frm0 w w1 := (((Frm.refl _ _).alloc _).alloc _).trans hf1
  rw [show (w.alloc (Obj.cells #[Value.int IntKind.i64 p0, Value.int IntKind.i64 p1] 62)).heap.size = w.heap.size + 1 by simp] at hb3
  have hlt3 := Bk.lt hb3
  have e1 : w1.cell? ⟨w.heap.size + 1, 1, none⟩ = some (.int .i64 q1) := Bk.cell hb3 1
  go_wp2
  go_ret
  exact ⟨rfl, hF1.below (fun _ _ h => h)⟩

theorem keepA {a0 a2 : Addr} {v0 v2 : Value} {rb : Nat} {each burst : Int} {ms : List Mk} {S : Nat → Prop} {w wa wb : World} (h : wa.cell? a0 = some v0 ∧ wa.cell? a2 = some v2 ∧ Rt.At wa rb each burst ms ∧ Frm S w wa) (hf : Frm0 wa wb) :
    wb.cell? a0 = some v0 ∧ wb.cell? a2 = some v2 ∧ Rt.At wb rb each burst ms ∧ Frm S w wb := ⟨hf.cell h.1 (fun h => h), hf.cell h.2.1 (fun h => h), h.2.2.1.frm hf (fun h => h), h.2.2.2.then0 hf⟩
theorem keepA_at {a0 a2 : Addr} {v0 v2 : Value} {rb : Nat} {each burst : Int} {ms : List Mk} {S : Nat → Prop} {w wa : World} (h : wa.cell? a0 = some v0 ∧ wa.cell? a2 = some v2 ∧ Rt.At wa rb each burst ms ∧ Frm S w wa) : Rt.At wa rb each burst ms := h.2.2.1
theorem keepA_frm {a0 a2 : Addr} {v0 v2 : Value} {rb : Nat} {each burst : Int} {ms : List Mk} {S : Nat → Prop} {w wa : World} (h : wa.cell? a0 = some v0 ∧ wa.cell? a2 = some v2 ∧ Rt.At wa rb each burst ms ∧ Frm S w wa) : Frm S w wa := h.2.2.2

set_option maxHeartbeats 4000000 in
set_option maxRecDepth 100000 in
theorem rateafter_walk (p : Int × Int) (ask : Int × Int × Int) (v : Value) (l : List (Int × Int × Int)) (w : World) (hs : Sl w v l.length (l.flatMap rdeed)) (hw : (Lit.int .i64 ask.2.2).wf = true) :
    Calls Try.prog 13 #[arr2 p, v, arr3 ask] w fun e w' => e = .returned (.bool true) ∧ Below w.heap.size w w' := by
  by_cases h20 : 20 < l.length
  · exact rateafter_long p ask v l w hs h20
  by_cases hql : 549755813888 < ask.2.1
  · exact rateafter_late p ask v l w hs h20 hql
  have hlen := hs.len
  have hdc : decide ((20 : Int) < (l.length : Int)) = false := by simp; omega
  obtain ⟨p0, p1⟩ := p
  obtain ⟨q0, q1, q2⟩ := ask
  simp only at hw hql
  obtain ⟨A, c, rfl⟩ := hs.form
  have hcell : ∀ k (hk : k < l.length), ∃ b o, A = some ⟨b, o, none⟩ ∧ w.cell? ⟨b, o + k * 3, none⟩ = some (.int .i64 (l[k]).1) ∧ w.cell? ⟨b, o + k * 3 + 1, none⟩ = some (.int .i64 (l[k]).2.1) ∧ w.cell? ⟨b, o + k * 3 + 2, none⟩ = some (.int .i64 (l[k]).2.2) := by
    intro k hk
    rcases hs with ⟨A', c', _, hn, _⟩ | ⟨b, o, c', he, h0, h1, h2, h3, h4⟩
    · omega
    · cases he
      exact ⟨b, o, rfl, rdeed_at h4 k hk⟩
  have HC := Lib.hid hcell
  clear hcell
  unfold arr2 arr3
  simp only
  go_enter Try.func13, Try.ntmps13
  go_wp2_with fail
  refine (rawake _).mono ?_
  rintro e w1 ⟨rfl, hf1⟩
  have hb2 := hf1.blk (Bk.alloc (Bk.new w _) _) (fun h => h)
  have hb3 := hf1.blk (Bk.new _ _) (fun h => h)
  have hF1 : Frm0 w w1 := (((Frm.refl _ _).alloc _).alloc _).trans hf1
  rw [show (w.alloc (Obj.cells #[Value.int IntKind.i64 p0, Value.int IntKind.i64 p1] 62)).heap.size = w.heap.size + 1 by simp] at hb3
  have hlt3 := Bk.lt hb3
  have hlt2 := Bk.lt hb2
  have d0 : w1.cell? ⟨w.heap.size, 0, none⟩ = some (.int .i64 p0) := Bk.cell hb2 0
  have d1 : w1.cell? ⟨w.heap.size, 1, none⟩ = some (.int .i64 p1) := Bk.cell hb2 1
  have e0 : w1.cell? ⟨w.heap.size + 1, 0, none⟩ = some (.int .i64 q0) := Bk.cell hb3 0
  have e1 : w1.cell? ⟨w.heap.size + 1, 1, none⟩ = some (.int .i64 q1) := Bk.cell hb3 1
  have e2 : w1.cell? ⟨w.heap.size + 1, 2, none⟩ = some (.int .i64 q2) := Bk.cell hb3 2
  clear hf1 hb2 hb3
  go_wp2_with fail
  refine (rnew_any p0 p1 _).mono ?_
  rintro e w2 ⟨rfl, hq2, hf2⟩
  have hb1 := bring_bd p0 (show (0 : Int) ≤ 1000 by omega)
  have hb2 := bring_bd p1 (show (1 : Int) ≤ 1000 by omega)
  generalize bring p0 0 1000 = each at *
  generalize bring p1 1 1000 = burst at *
  have hsz2 := Bk.lt hq2.blk
  have hr := hlt3
  have hwz : w.heap.size ≤ w1.heap.size := hF1.size
  have hF2 := hF1.trans hf2
  have E : Hid (w2.cell? ⟨w.heap.size + 1, 0, none⟩ = some (.int .i64 q0) ∧ w2.cell? ⟨w.heap.size + 1, 1, none⟩ = some (.int .i64 q1) ∧ w2.cell? ⟨w.heap.size + 1, 2, none⟩ = some (.int .i64 q2)) := Lib.hid ⟨hf2.cell e0 (fun h => h), hf2.cell e1 (fun h => h), hf2.cell e2 (fun h => h)⟩
  clear d0 d1 e0 e1 e2 hf2 hF1 hs
  generalize w1.heap.size = rb at *
  go_wp2_with fail
  have HQ0 : ∃ (k : Nat) (ms : List Mk) (T : Int), k ≤ l.length ∧ (Value.int .i64 0) = .int .i64 k ∧ (Value.int .i64 0) = .int .i64 T ∧ Rt.At w2 rb each burst ms ∧ Upto ms T ∧ 0 ≤ T ∧ T ≤ 549755813888 ∧ Frm (fun j => j = rb) w2 w2 :=
    ⟨0, _, 0, by omega, rfl, rfl, hq2, (by intro m hm; have e : m = (0, burst) := by simpa using hm
                                           subst e; exact Int.le_refl _), by omega, by omega, Frm.refl _ _⟩
  go_loopw [8, 31] (fun t i wr => ∃ (k : Nat) (ms : List Mk) (T : Int), k ≤ l.length ∧ i = .int .i64 k ∧ t = .int .i64 T ∧ Rt.At wr rb each burst ms ∧ Upto ms T ∧ 0 ≤ T ∧ T ≤ 549755813888 ∧ Frm (fun j => j = rb) w2 wr) (fun _ i _ => l.length - (intOf i).toNat)
  case atStart => exact HQ0
  case round =>
    clear HQ0 hq2
    obtain ⟨k, ms, T, hk, rfl, rfl, hqr, hU, hT0, hT1, hFr⟩ := hrel
    have HU := Lib.hid hU
    clear hU
    by_cases hlt : k < l.length
    · obtain ⟨b, o, rfl, c0, c1, c2⟩ := HC.out k hlt
      have hbl := World.block_lt_of_cell? w _ c0
      simp only at hbl
      have c0 := hFr.cell (hF2.cell c0 (fun h => h)) (by simp; omega)
      have c1 := hFr.cell (hF2.cell c1 (fun h => h)) (by simp; omega)
      have c2 := hFr.cell (hF2.cell c2 (fun h => h)) (by simp; omega)
      generalize (l[k]).1 = t at *
      generalize (l[k]).2.1 = now at *
      generalize (l[k]).2.2 = n at *
      by_cases hlate : 549755813888 < now
      · go_wp2
        go_ret
        exact ⟨rfl, (hF2.then_ (hFr.alloc _) (fun i hi e => by omega)).below (fun _ _ h => h)⟩
      · obtain ⟨T2, hT2⟩ : ∃ T2, (if T < now then now else T) = T2 := ⟨_, rfl⟩
        have hTT : T ≤ T2 ∧ now ≤ T2 ∧ T2 ≤ 549755813888 ∧ 0 ≤ T2 := by subst hT2; split <;> omega
        have m1 := max_is T now T2 hT2
        clear hT2
        go_wp2_with fail
        have hqa := hqr.frm ((Frm.refl (fun _ => False) _).alloc (.cells #[.int .i64 t, .int .i64 now, .int .i64 n] 70)) (fun h => h)
        have HT := Lib.hid ((HU.out.mono hTT.1).take (t := t) (n := n) hqr.ok (by omega) hTT.2.1 hTT.2.2.2)
        refine (rtake_any t now n rb each burst ms _ hqa).mono ?_
        rintro e w3 ⟨rfl, hq3, hf3⟩
        generalize (Rt.take each burst ms t now n).2 = e0 at *
        generalize (Rt.take each burst ms t now n).1 = ms1 at *
        clear m1
        go_wp2
        go_roundw
        case rel => exact ⟨k + 1, ms1, T2, by omega, by go_num, rfl, hq3, HT.out, by omega, by omega, (hFr.alloc _).trans hf3⟩
        case measure => simp [intOf]; omega
    · obtain rfl : k = l.length := by omega
      have e0 := hFr.cell E.out.1 (by simp; omega)
      have e1 := hFr.cell E.out.2.1 (by simp; omega)
      have e2 := hFr.cell E.out.2.2 (by simp; omega)
      have hF3 : Frm0 w wr := hF2.then_ hFr (fun i hi e => by omega)
      obtain ⟨T2, hT2⟩ : ∃ T2, (if T < q1 then q1 else T) = T2 := ⟨_, rfl⟩
      have hTT : T ≤ T2 ∧ T2 ≤ 549755813888 ∧ 0 ≤ T2 := by subst hT2; split <;> omega
      have m1 := max_is T q1 T2 hT2
      have HU2 := Lib.hid (HU.out.mono hTT.1)
      clear hT2 HU
      have HA : Rt.after each burst ms q0 T2 q2 = Rt.after each burst ms q0 T2 q2 := rfl
      have hneg : Rt.after each burst ms q0 T2 q2 < 0 → (Rt.take each burst ms q0 T2 q2).2 ≠ 0 := after_neg hqr.ok
      have hpos := fun h => after_k (t := q0) (n := q2) hqr.ok HU2.out hTT.2.1 h
      clear HA
      obtain ⟨K, hK⟩ : ∃ K, Rt.after each burst ms q0 T2 q2 = K := ⟨_, rfl⟩
      rw [hK] at hneg hpos
      have HK := Lib.hid hK
      clear hK
      have HN := Lib.hid hneg
      have HP := Lib.hid hpos
      clear hneg hpos
      go_wp2_with fail
      refine (rafter_to hqr hw HK.out).mono ?_
      rintro e w3 ⟨rfl, hf3⟩
      have e0 := hf3.cell e0 (fun h => h)
      have e1 := hf3.cell e1 (fun h => h)
      have e2 := hf3.cell e2 (fun h => h)
      have hq3 := hqr.frm hf3 (fun h => h)
      have hF4 := hF3.trans hf3
      clear m1 hf3
      by_cases hKn : K < 0
      · have hne := HN.out hKn
        go_wp2_with fail
        refine (rtake_any q0 T2 q2 rb each burst ms _ hq3).mono ?_
        rintro e w4 ⟨rfl, hq4, hf4⟩
        generalize (Rt.take each burst ms q0 T2 q2).2 = r at *
        generalize (Rt.take each burst ms q0 T2 q2).1 = ms4 at *
        have hnb : (r == 0) = false := beq_eq_false_iff_ne.2 hne
        have HNE := Lib.hid hne
        clear hne
        go_wp2
        go_ret
        have hne := HNE.out
        exact ⟨by simpa using hne, (hF4.then_ hf4 (fun i hi e => by omega)).below (fun _ _ h => h)⟩
      · obtain ⟨hK1, hl1, hl2⟩ := HP.out (by omega)
        obtain ⟨L1, hL1⟩ : ∃ L, Rt.left each burst ms q0 (T2 + K) = L := ⟨_, rfl⟩
        rw [hL1] at hl1
        have HL1 := Lib.hid hL1
        clear hL1
        have hd1 : decide (q2 ≤ L1) = true := decide_eq_true hl1
        have s1 : IntKind.i64.wrap (T2 + K) = T2 + K := IntWalk.i64_in _ (by omega)
        have S1 := Lib.hid s1
        by_cases hK0 : 0 < K
        · have hl2 := hl2 hK0
          obtain ⟨L2, hL2⟩ : ∃ L, Rt.left each burst ms q0 (T2 + K - 1) = L := ⟨_, rfl⟩
          rw [hL2] at hl2
          have HL2 := Lib.hid hL2
          clear hL2
          have hd2 : decide (q2 ≤ L2) = false := decide_eq_false (by omega)
          have hd3 : decide (0 < K) = true := decide_eq_true hK0
          have s2 : IntKind.i64.wrap (T2 + K - 1) = T2 + K - 1 := IntWalk.i64_in _ (by omega)
          have HD1 := Lib.hid hd1
          clear hd1
          go_wp2_with fail
          go_region_held3 (fun w' => w'.cell? ⟨w.heap.size + 1, 0, none⟩ = some (.int .i64 q0) ∧ w'.cell? ⟨w.heap.size + 1, 2, none⟩ = some (.int .i64 q2) ∧ Rt.At w' rb each burst ms ∧ Frm (fun _ => False) w w')
            (first
              | exact ⟨e0, e2, ⟨hq3.ok, hq3.blk⟩, hF4.drew⟩
              | exact keepA (by assumption) hf')
            (first
              | (go_at_call 50; refine (rleft_to (keepA_at (by assumption)) HL2.out).mono ?_; rintro e w' ⟨rfl, hf'⟩))
          have hd1 := HD1.out
          clear hd2 e0 e2 hq3
          rename_i hH
          obtain ⟨e0, e2, hq5, hF5⟩ := hH
          go_wp2_with fail
          have s1 := S1.out
          go_region_held3 (fun w' => w'.cell? ⟨w.heap.size + 1, 0, none⟩ = some (.int .i64 q0) ∧ w'.cell? ⟨w.heap.size + 1, 2, none⟩ = some (.int .i64 q2) ∧ Rt.At w' rb each burst ms ∧ Frm (fun _ => False) w w')
            (first
              | exact ⟨e0, e2, ⟨hq5.ok, hq5.blk⟩, hF5.drew⟩
              | assumption
              | exact keepA (by assumption) hf9)
            (first
              | (go_at_call 50; with_reducible refine (rleft_nil _ _ _).mono ?_; rintro e w' ⟨rfl, rfl⟩)
              | (go_at_call 50; refine (rleft_to (keepA_at (by assumption)) HL1.out).mono ?_; rintro e w' ⟨rfl, hf9⟩)
              | (go_at_call 48; refine (rtake_nil _ _ _ _).mono ?_; rintro e w' ⟨rfl, rfl⟩)
              | (go_at_call 46; refine (rafter_nil _ _ _ _).mono ?_; rintro e w' ⟨rfl, rfl⟩))
          go_wp2
          go_ret
          exact ⟨rfl, (keepA_frm (by assumption)).below (fun _ _ h => h)⟩
        · have hd3 : decide (0 < K) = false := decide_eq_false hK0
          have HD1 := Lib.hid hd1
          clear hd1 s1
          go_wp2_with fail
          go_quiet (fail)
          have hd1 := HD1.out
          go_wp2_with fail
          have s1 := S1.out
          go_region_held3 (fun w' => w'.cell? ⟨w.heap.size + 1, 0, none⟩ = some (.int .i64 q0) ∧ w'.cell? ⟨w.heap.size + 1, 2, none⟩ = some (.int .i64 q2) ∧ Rt.At w' rb each burst ms ∧ Frm (fun _ => False) w w')
            (first
              | exact ⟨e0, e2, ⟨hq3.ok, hq3.blk⟩, (hF4.drewN _).drew⟩
              | assumption
              | exact keepA (by assumption) hf9)
            (first
              | (go_at_call 50; with_reducible refine (rleft_nil _ _ _).mono ?_; rintro e w' ⟨rfl, rfl⟩)
              | (go_at_call 50; refine (rleft_to (keepA_at (by assumption)) HL1.out).mono ?_; rintro e w' ⟨rfl, hf9⟩)
              | (go_at_call 48; refine (rtake_nil _ _ _ _).mono ?_; rintro e w' ⟨rfl, rfl⟩)
              | (go_at_call 46; refine (rafter_nil _ _ _ _).mono ?_; rintro e w' ⟨rfl, rfl⟩))
          go_wp2
          go_ret
          exact ⟨rfl, (keepA_frm (by assumption)).below (fun _ _ h => h)⟩
end Go.Proofs.Ytkmafgmlcocjiaa
