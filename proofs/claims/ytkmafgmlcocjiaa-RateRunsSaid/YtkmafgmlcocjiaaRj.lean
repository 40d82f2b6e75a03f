/- The walk of RateRuns. -/
import Derived.Test.YtkmafgmlcocjiaaRi
namespace Go.Proofs.Ytkmafgmlcocjiaa
open Go.RowKit Rt
set_option linter.unusedVariables false
set_option linter.unusedSimpArgs false

theorem rrleft_to {t now : Int} {rb mb cap : Nat} {each burst : Int} {ms : List Mk} {r : Int} {w : World} (hq : Rr.At w rb mb cap each burst ms) (h : Rt.left each burst ms t now = r) :
    Calls Try.prog 51 #[.pointer (some ⟨rb, 0, none⟩), .int .i64 t, .int .i64 now] w fun e w' => e = .returned (.int .i64 r) ∧ Frm0 w w' := by
  have := rrleft_any t now rb mb cap each burst ms w hq
  rw [h] at this
  exact this
theorem rrafter_to {t now n : Int} {rb mb cap : Nat} {each burst : Int} {ms : List Mk} {r : Int} {w : World} (hq : Rr.At w rb mb cap each burst ms) (h : Rt.after each burst ms t now n = r) :
    Calls Try.prog 47 #[.pointer (some ⟨rb, 0, none⟩), .int .i64 t, .int .i64 now, .int .i64 n] w fun e w' => e = .returned (.int .i64 r) ∧ Frm0 w w' := by
  have := rrafter_any t now n rb mb cap each burst ms w hq
  rw [h] at this
  exact this
theorem rrtake_to {t now n : Int} {rb mb cap : Nat} {each burst : Int} {ms ms' : List Mk} {r : Int} {w : World} (hq : Rr.At w rb mb cap each burst ms) (h : Rt.take each burst ms t now n = (ms', r)) :
    Calls Try.prog 49 #[.pointer (some ⟨rb, 0, none⟩), .int .i64 t, .int .i64 now, .int .i64 n] w fun e w' => e = .returned (.int .i64 r) ∧ Rr.At w' rb mb cap each burst ms' ∧ Frm (fun k => k = mb) w w' := by
  have := rrtake_any t now n rb mb cap each burst ms w hq
  rw [h] at this
  exact this
theorem keepR {a0 a1 a2 : Addr} {v0 v1 v2 : Value} {S T : Nat → Prop} {w wa wb : World} (h : wa.cell? a0 = some v0 ∧ wa.cell? a1 = some v1 ∧ wa.cell? a2 = some v2 ∧ Frm S w wa) (hf : Frm T wa wb) (h0 : ¬ T a0.block) (h1 : ¬ T a1.block) (h2 : ¬ T a2.block) (hs : ∀ i, i < w.heap.size → T i → S i) :
    wb.cell? a0 = some v0 ∧ wb.cell? a1 = some v1 ∧ wb.cell? a2 = some v2 ∧ Frm S w wb := ⟨hf.cell h.1 h0, hf.cell h.2.1 h1, hf.cell h.2.2.1 h2, h.2.2.2.then_ hf hs⟩
theorem keepR_frm {a0 a1 a2 : Addr} {v0 v1 v2 : Value} {S : Nat → Prop} {w wa : World} (h : wa.cell? a0 = some v0 ∧ wa.cell? a1 = some v1 ∧ wa.cell? a2 = some v2 ∧ Frm S w wa) : Frm S w wa := h.2.2.2

set_option maxHeartbeats 2000000 in
set_option maxRecDepth 100000 in
theorem rruns_long (p : Int × Int) (ask : Int × Int × Int) (v : Value) (l : List (Int × Int × Int)) (w : World) (hs : Sl w v l.length (l.flatMap rdeed)) (h60 : 60 < l.length) :
    Calls Try.prog 11 #[arr2 p, v, arr3 ask] w fun e w' => e = .returned (.bool true) ∧ Below w.heap.size w w' := by
  have hlen := hs.len
  obtain ⟨A, c, rfl⟩ := hs.form
  obtain ⟨p0, p1⟩ := p
  obtain ⟨q0, q1, q2⟩ := ask
  unfold arr2 arr3
  simp only
  go_enter Try.func11, Try.ntmps11
  go_wp2_with fail
  refine (rawake _).mono ?_
  rintro e w1 ⟨rfl, hf1⟩
  have hF1 : Frm0 w w1 := (((Frm.refl _ _).alloc _).alloc _).trans hf1
  go_wp2
  go_ret
  exact ⟨rfl, hF1.below (fun _ _ h => h)⟩

set_option maxHeartbeats 4000000 in
set_option maxRecDepth 100000 in
theorem rruns_walk (p : Int × Int) (ask : Int × Int × Int) (v : Value) (l : List (Int × Int × Int)) (w : World) (hs : Sl w v l.length (l.flatMap rdeed)) (hg : ∀ a ∈ l, RdGood a) (hw : (Lit.int .i64 ask.2.2).wf = true) :
    Calls Try.prog 11 #[arr2 p, v, arr3 ask] w fun e w' => e = .returned (.bool true) ∧ Below w.heap.size w w' := by
  by_cases h60 : 60 < l.length
  · exact rruns_long p ask v l w hs h60
  have hlen := hs.len
  obtain ⟨p0, p1⟩ := p
  obtain ⟨q0, q1, q2⟩ := ask
  simp only at hw
  obtain ⟨A, c, rfl⟩ := hs.form
  have hcell : ∀ k (hk : k < l.length), ∃ b o, A = some ⟨b, o, none⟩ ∧ w.cell? ⟨b, o + k * 3, none⟩ = some (.int .i64 (l[k]).1) ∧ w.cell? ⟨b, o + k * 3 + 1, none⟩ = some (.int .i64 (l[k]).2.1) ∧ w.cell? ⟨b, o + k * 3 + 2, none⟩ = some (.int .i64 (l[k]).2.2) ∧ (Lit.int .i64 (l[k]).2.2).wf = true := by
    intro k hk
    rcases hs with ⟨A', c', _, hn, _⟩ | ⟨b, o, c', he, h0, h1, h2, h3, h4⟩
    · omega
    · cases he
      obtain ⟨x0, x1, x2⟩ := rdeed_at h4 k hk
      exact ⟨b, o, rfl, x0, x1, x2, (hg _ (List.getElem_mem hk)).2.2⟩
  have HC := Lib.hid hcell
  clear hcell hs hg
  unfold arr2 arr3
  simp only
  go_enter Try.func11, Try.ntmps11
  go_wp2_with fail
  refine (rawake _).mono ?_
  rintro e w1 ⟨rfl, hf1⟩
  have hb2 := hf1.blk (Bk.alloc (Bk.new w _) _) (fun h => h)
  have hb3 := hf1.blk (Bk.new _ _) (fun h => h)
  have hF1 : Frm0 w w1 := (((Frm.refl _ _).alloc _).alloc _).trans hf1
  rw [show (w.alloc (Obj.cells #[Value.int IntKind.i64 p0, Value.int IntKind.i64 p1] 62)).heap.size = w.heap.size + 1 by simp] at hb3
  have hlt3 := Bk.lt hb3
  have hlt2 := Bk.lt hb2
  have d0 : w1.cell? ⟨w.heap.size, 0, none⟩ = some (.int .i64 p0) := Bk.cell hb2 0
  have d1 : w1.cell? ⟨w.heap.size, 1, none⟩ = some (.int .i64 p1) := Bk.cell hb2 1
  have e0 : w1.cell? ⟨w.heap.size + 1, 0, none⟩ = some (.int .i64 q0) := Bk.cell hb3 0
  have e1 : w1.cell? ⟨w.heap.size + 1, 1, none⟩ = some (.int .i64 q1) := Bk.cell hb3 1
  have e2 : w1.cell? ⟨w.heap.size + 1, 2, none⟩ = some (.int .i64 q2) := Bk.cell hb3 2
  clear hf1 hb2 hb3
  go_wp2_with fail
  have HN1 := Lib.hid (rnew_any p0 p1)
  have HN2 := Lib.hid (rrnew_any p0 p1)
  have hb1 := bring_bd p0 (show (0 : Int) ≤ 1000 by omega)
  have hb2 := bring_bd p1 (show (1 : Int) ≤ 1000 by omega)
  generalize bring p0 0 1000 = each at *
  generalize bring p1 1 1000 = burst at *
  have E : Hid (w1.cell? ⟨w.heap.size + 1, 0, none⟩ = some (.int .i64 q0) ∧ w1.cell? ⟨w.heap.size + 1, 1, none⟩ = some (.int .i64 q1) ∧ w1.cell? ⟨w.heap.size + 1, 2, none⟩ = some (.int .i64 q2)) := Lib.hid ⟨e0, e1, e2⟩
  clear e0 e1 e2
  go_cut [7, 8] from 11 to 25 (fun v7 v8 wc => ∃ (rb qb mb cap : Nat), v7 = .pointer (some ⟨rb, 0, none⟩) ∧ v8 = .pointer (some ⟨qb, 0, none⟩) ∧ Rt.At wc rb each burst [(0, burst), (0, burst), (0, burst), (0, burst)] ∧ Rr.At wc qb mb cap each burst [(0, burst), (0, burst), (0, burst), (0, burst)] ∧
    w1.heap.size ≤ rb ∧ w1.heap.size ≤ qb ∧ w1.heap.size ≤ mb ∧ rb ≠ qb ∧ rb ≠ mb ∧ rb < wc.heap.size ∧ mb < wc.heap.size ∧ Frm0 w1 wc)
  case first =>
    go_region_held3 (fun w' => w'.cell? ⟨w.heap.size, 0, none⟩ = some (.int .i64 p0) ∧ w'.cell? ⟨w.heap.size, 1, none⟩ = some (.int .i64 p1) ∧ w'.cell? ⟨w.heap.size, 1, none⟩ = some (.int .i64 p1) ∧ Frm (fun _ => False) w1 w')
      (first
        | exact ⟨d0, d1, d1, (Frm.refl _ _).drew⟩
        | exact keepR (by assumption) hf9 (fun h => h) (fun h => h) (fun h => h) (fun _ _ h => h))
      (first
        | (go_at_call 44; refine (HN1.out _).mono ?_; rintro e w81 ⟨rfl, hA, hf9⟩; have hf1 := hf9)
        | (go_at_call 45; refine (HN2.out _).mono ?_; rintro e w82 ⟨mb, cap, rfl, hR, hf9⟩; have hf2 := hf9))
    go_wp2_with fail
    go_meet
    case rel =>
      have l1 : w1.heap.size < w81.heap.size := Bk.lt hA.blk
      have l2 := hR.lt
      exact ⟨w1.heap.size, w81.heap.size, mb, cap, rfl, rfl, hA.frm hf2 (fun h => h), hR, Nat.le_refl _, by omega, by omega, by omega, by omega, by omega, by omega, ((Frm.refl _ w1).drew.trans hf1).trans hf2⟩
  case rest =>
    obtain ⟨rb, qb, mb, cap, rfl, rfl, hA, hR, g1, g2, g3, g4, g5, g6, g7, hf⟩ := hcut
    have hsw : w.heap.size ≤ w1.heap.size := hF1.size
    have hFc := hF1.trans hf
    have E2 : Hid (wc.cell? ⟨w.heap.size + 1, 0, none⟩ = some (.int .i64 q0) ∧ wc.cell? ⟨w.heap.size + 1, 1, none⟩ = some (.int .i64 q1) ∧ wc.cell? ⟨w.heap.size + 1, 2, none⟩ = some (.int .i64 q2)) := Lib.hid ⟨hf.cell E.out.1 (fun h => h), hf.cell E.out.2.1 (fun h => h), hf.cell E.out.2.2 (fun h => h)⟩
    clear E d0 d1 HN1 HN2 hF1 hf
    generalize w1.heap.size = B at *
    go_wp2_with fail
    go_loopw [28] (fun i wr => ∃ (k : Nat) (ms : List Mk), k ≤ l.length ∧ i = .int .i64 k ∧ Rt.At wr rb each burst ms ∧ Rr.At wr qb mb cap each burst ms ∧ Frm (fun j => j = rb ∨ j = mb) wc wr) (fun i _ => l.length - (intOf i).toNat)
    case atStart => exact ⟨0, _, by omega, rfl, hA, hR, Frm.refl _ _⟩
    case round =>
      clear hA hR
      obtain ⟨k, ms, hk, rfl, hA, hR, hFr⟩ := hrel
      have hsr := hFr.size
      by_cases hlt : k < l.length
      · obtain ⟨b, o, rfl, c0, c1, c2, hwf⟩ := HC.out k hlt
        have hbl := World.block_lt_of_cell? w _ c0
        simp only at hbl
        have c0 := hFr.cell (hFc.cell c0 (fun h => h)) (by simp; omega)
        have c1 := hFr.cell (hFc.cell c1 (fun h => h)) (by simp; omega)
        have c2 := hFr.cell (hFc.cell c2 (fun h => h)) (by simp; omega)
        generalize (l[k]).1 = t at *
        generalize (l[k]).2.1 = now at *
        generalize (l[k]).2.2 = n at *
        go_wp2_with fail
        have hbD := Bk.new wr (.cells #[.int .i64 t, .int .i64 now, .int .i64 n] 70)
        have hAa := hA.frm ((Frm.refl (fun _ => False) wr).alloc (.cells #[.int .i64 t, .int .i64 now, .int .i64 n] 70)) (fun h => h)
        have hRa := hR.frm ((Frm.refl (fun _ => False) wr).alloc (.cells #[.int .i64 t, .int .i64 now, .int .i64 n] 70)) (fun h => h) (fun h => h)
        have hFa := hFr.alloc (.cells #[.int .i64 t, .int .i64 now, .int .i64 n] 70)
        have hDr : rb < wr.heap.size := by omega
        have hDm : mb < wr.heap.size := by omega
        clear c0 c1 c2 hA hR hFr
        generalize wr.alloc (.cells #[.int .i64 t, .int .i64 now, .int .i64 n] 70) = wa at *
        generalize wr.heap.size = D at *
        have x0 : wa.cell? ⟨D, 0, none⟩ = some (.int .i64 t) := Bk.cell hbD 0
        have x1 : wa.cell? ⟨D, 1, none⟩ = some (.int .i64 now) := Bk.cell hbD 1
        have x2 : wa.cell? ⟨D, 2, none⟩ = some (.int .i64 n) := Bk.cell hbD 2
        obtain ⟨K, hK⟩ : ∃ K, Rt.after each burst ms t now n = K := ⟨_, rfl⟩
        obtain ⟨⟨ms1, r⟩, hT⟩ : ∃ x, Rt.take each burst ms t now n = x := ⟨_, rfl⟩
        obtain ⟨L, hL⟩ : ∃ L, Rt.left each burst ms1 t now = L := ⟨_, rfl⟩
        have HK := Lib.hid hK
        have HT := Lib.hid hT
        have HL := Lib.hid hL
        clear hK hT hL
        have hAd : Rt.At wa.drew rb each burst ms := ⟨hAa.ok, hAa.blk⟩
        have hRd : Rr.At wa.drew qb mb cap each burst ms := ⟨hRa.ok, hRa.blk, hRa.row⟩
        go_region_held3 (fun w' => w'.cell? ⟨D, 0, none⟩ = some (.int .i64 t) ∧ w'.cell? ⟨D, 1, none⟩ = some (.int .i64 now) ∧ w'.cell? ⟨D, 2, none⟩ = some (.int .i64 n) ∧ Frm (fun j => j = rb ∨ j = mb) wc w')
          (first
            | exact ⟨x0, x1, x2, hFa.drew⟩
            | exact keepR (by assumption) hf9 (fun h => h) (fun h => h) (fun h => h) (fun _ _ h => h.elim)
            | exact keepR (by assumption) hf9 (fun h => by simp at h; omega) (fun h => by simp at h; omega) (fun h => by simp at h; omega) (fun _ _ h => .inl h)
            | exact keepR (by assumption) hf9 (fun h => by simp at h; omega) (fun h => by simp at h; omega) (fun h => by simp at h; omega) (fun _ _ h => .inr h))
          (first
            | (go_at_call 50; refine (rleft_to (by assumption) HL.out).mono ?_; rintro e w81 ⟨rfl, hf9⟩; have hA9 := Rt.At.frm (by assumption) hf9 (fun h => h); have hR9 := Rr.At.frm (by assumption) hf9 (fun h => h) (fun h => h))
            | (go_at_call 46; refine (rafter_to (by assumption) hwf HK.out).mono ?_; rintro e w81 ⟨rfl, hf9⟩; have hA9 := Rt.At.frm (by assumption) hf9 (fun h => h); have hR9 := Rr.At.frm (by assumption) hf9 (fun h => h) (fun h => h))
            | (go_at_call 51; refine (rrleft_to (by assumption) HL.out).mono ?_; rintro e w81 ⟨rfl, hf9⟩; have hA9 := Rt.At.frm (by assumption) hf9 (fun h => h); have hR9 := Rr.At.frm (by assumption) hf9 (fun h => h) (fun h => h))
            | (go_at_call 47; refine (rrafter_to (by assumption) HK.out).mono ?_; rintro e w81 ⟨rfl, hf9⟩; have hA9 := Rt.At.frm (by assumption) hf9 (fun h => h); have hR9 := Rr.At.frm (by assumption) hf9 (fun h => h) (fun h => h))
            | (go_at_call 48; refine (rtake_to (by assumption) HT.out).mono ?_; rintro e w81 ⟨rfl, hA9, hf9⟩; have hR9 := Rr.At.frm (by assumption) hf9 (by omega) (by omega))
            | (go_at_call 49; refine (rrtake_to (by assumption) HT.out).mono ?_; rintro e w81 ⟨rfl, hR9, hf9⟩; have hA9 := Rt.At.frm (by assumption) hf9 (by omega)))
        go_wp2
        go_roundw
        case rel => exact ⟨k + 1, ms1, by omega, by go_num, by assumption, by assumption, keepR_frm (by assumption)⟩
        case measure => simp [intOf]; omega
      · obtain rfl : k = l.length := by omega
        have e0 := hFr.cell E2.out.1 (by simp; omega)
        have e1 := hFr.cell E2.out.2.1 (by simp; omega)
        have e2 := hFr.cell E2.out.2.2 (by simp; omega)
        have hF3 : Frm0 w wr := hFc.then_ hFr (fun i hi e => by omega)
        obtain ⟨K, hK⟩ : ∃ K, Rt.after each burst ms q0 q1 q2 = K := ⟨_, rfl⟩
        obtain ⟨L, hL⟩ : ∃ L, Rt.left each burst ms q0 q1 = L := ⟨_, rfl⟩
        have HK := Lib.hid hK
        have HL := Lib.hid hL
        clear hK hL
        have hAd : Rt.At wr.drew rb each burst ms := ⟨hA.ok, hA.blk⟩
        have hRd : Rr.At wr.drew qb mb cap each burst ms := ⟨hR.ok, hR.blk, hR.row⟩
        go_wp2_with fail
        go_region_held3 (fun w' => w'.cell? ⟨w.heap.size + 1, 0, none⟩ = some (.int .i64 q0) ∧ w'.cell? ⟨w.heap.size + 1, 1, none⟩ = some (.int .i64 q1) ∧ w'.cell? ⟨w.heap.size + 1, 2, none⟩ = some (.int .i64 q2) ∧ Frm (fun _ => False) w w')
          (first
            | exact ⟨e0, e1, e2, hF3.drew⟩
            | exact keepR (by assumption) hf9 (fun h => h) (fun h => h) (fun h => h) (fun _ _ h => h))
          (first
            | (go_at_call 50; refine (rleft_to (by assumption) HL.out).mono ?_; rintro e w81 ⟨rfl, hf9⟩; have hA9 := Rt.At.frm (by assumption) hf9 (fun h => h); have hR9 := Rr.At.frm (by assumption) hf9 (fun h => h) (fun h => h))
            | (go_at_call 46; refine (rafter_to (by assumption) hw HK.out).mono ?_; rintro e w81 ⟨rfl, hf9⟩; have hA9 := Rt.At.frm (by assumption) hf9 (fun h => h); have hR9 := Rr.At.frm (by assumption) hf9 (fun h => h) (fun h => h))
            | (go_at_call 51; refine (rrleft_to (by assumption) HL.out).mono ?_; rintro e w81 ⟨rfl, hf9⟩; have hA9 := Rt.At.frm (by assumption) hf9 (fun h => h); have hR9 := Rr.At.frm (by assumption) hf9 (fun h => h) (fun h => h))
            | (go_at_call 47; refine (rrafter_to (by assumption) HK.out).mono ?_; rintro e w81 ⟨rfl, hf9⟩; have hA9 := Rt.At.frm (by assumption) hf9 (fun h => h); have hR9 := Rr.At.frm (by assumption) hf9 (fun h => h) (fun h => h)))
        go_wp2
        go_ret
        exact ⟨rfl, (keepR_frm (by assumption)).below (fun _ _ h => h)⟩
end Go.Proofs.Ytkmafgmlcocjiaa
