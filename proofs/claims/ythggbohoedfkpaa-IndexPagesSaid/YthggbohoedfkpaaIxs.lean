/- The walk of IndexPages. -/
import Derived.Test.YthggbohoedfkpaaIxq
namespace Go.Proofs.Ythggbohoedfkpaa
open Go.RowKit
set_option linter.unusedVariables false
set_option linter.unusedSimpArgs false
set_option maxRecDepth 100000
namespace Ix
theorem own_one (w : World) (e : En) : (w.alloc (.cells e.cells.toArray 52)).ownsRow w.heap.size 52 14 (.slice (some ⟨w.heap.size, 0, none⟩) 1 1) 1 (ecs [e]) :=
  ⟨by simp [ecs, En.cells_len], .inr ⟨w.heap.size, 1, e.cells.toArray, rfl, Nat.le_refl _, Bk.new w _, Nat.le_refl _, by decide, rfl, by simp [ecs, En.cells]⟩⟩
theorem take_one {m : List En} (h : 0 < m.length) : m.take 1 = [m[0]] := by
  cases m with
  | nil => simp at h
  | cons a r => rfl
theorem page_next {m : List En} (hs : Sorted En.nm m) {p : Nat} (hp : p < m.length) (n : Nat) : m.take (p + 1) ++ aft En.nm m (En.nm m[p]) n = m.take (p + (aft En.nm m (En.nm m[p]) n).length + 1) := by
  rw [aft_self En.nm hs hp]
  have h1 : (m.drop (p + 1)).take n = (m.drop (p + 1)).take ((m.drop (p + 1)).take n).length := by
    rw [List.length_take, ← List.take_take, List.take_length]
  conv => lhs; rw [h1]
  rw [show p + ((m.drop (p + 1)).take n).length + 1 = p + 1 + ((m.drop (p + 1)).take n).length by omega, List.take_add (i := p + 1)]
theorem page_len {m : List En} (hs : Sorted En.nm m) {p : Nat} (hp : p < m.length) (n : Nat) : (aft En.nm m (En.nm m[p]) n).length = min n (m.length - (p + 1)) := by
  rw [aft_self En.nm hs hp, List.length_take, List.length_drop]

set_option maxHeartbeats 16000000 in
theorem pages_walk (v : Value) (l : List En) (n : Int) (w : World) (hs : Sl w v l.length (ecs l)) (hn : (Lit.int .i64 n).wf = true) :
    Calls Try.prog 7 #[v, .int .i64 n] w fun e w' => e = .returned (.bool true) ∧ Below w.heap.size w w' := by
  have hlen := hs.len
  obtain ⟨A, cp, rfl⟩ := hs.form
  have HS := Lib.hid (fun (w9 : World) (hf : Frm0 w w9) => hs.frm0 hf)
  clear hs
  go_enter Try.func7, Try.ntmps7
  go_wp2_with fail
  refine (xawake _).mono ?_
  rintro e w2 ⟨rfl, hF2⟩
  by_cases h60 : 60 < l.length
  · have d1 : decide ((60 : Int) < (l.length : Int)) = true := decide_eq_true (by omega)
    go_wp2
    go_ret
    exact ⟨rfl, hF2.below (fun _ _ h => h)⟩
  have d1 : decide ((60 : Int) < (l.length : Int)) = false := decide_eq_false (by omega)
  by_cases hn1 : n < 1
  · have d2 : decide (n < (1 : Int)) = true := decide_eq_true hn1
    go_wp2
    go_ret
    exact ⟨rfl, hF2.below (fun _ _ h => h)⟩
  have d2 : decide (n < (1 : Int)) = false := decide_eq_false hn1
  go_wp2_with fail
  refine (new_any _).mono ?_
  rintro e w3 ⟨rfl, hA3, hf3⟩
  have hX := Xw.start hF2 hA3 hf3 (Nat.le_refl _)
  generalize w2.heap.size = xb at *
  clear hF2 hA3 hf3 d1 d2
  go_wp2_with fail
  go_loopw [24] (fun i wr => ∃ (q : Nat) (m : List En) (vx : Value), q ≤ l.length ∧ i = .int .i64 q ∧ m.length ≤ q ∧ (m.length = 0 → q = 0) ∧ Xw w wr xb vx (.slice none 0 0) m []) (fun i _ => l.length - (intOf i).toNat)
  case atStart => exact ⟨0, [], _, by omega, rfl, Nat.le_refl _, fun _ => rfl, hX⟩
  case round =>
    clear hX
    obtain ⟨q, m, vx, hq, rfl, hm, hm0, hX⟩ := hrel
    by_cases hlt : q < l.length
    · obtain ⟨g, o, rfl⟩ := sl_base (HS.out w (Frm.refl _ _)) (by omega)
      have hrg := sl_range (HS.out wr hX.frm) rfl q hlt
      obtain ⟨e, hee⟩ : ∃ e, l[q] = e := ⟨_, rfl⟩
      rw [hee] at hrg
      have hlt2 : (q : Int) < (l.length : Int) := by omega
      have hge2 : (0 : Int) ≤ (q : Int) := by omega
      clear hee
      go_upto_region 9 with (first
        | (refine wpList_load_mid rfl 52 (.tmp 26) rfl g (o + q * 14) rfl e.cells _ hrg Try.underlying52 rfl (by rw [iE]; rfl) ?_)
        | (refine wpList_store_new rfl 52 (.tmp 7) (.tmp 27) rfl rfl rfl iE (us := e.cells.toArray) rfl rfl (List.all_eq_true.2 (en_one e)) ?_; intro w9 hb9 hf9))
      have hX9 := hX.frm0 hf9
      have hfar := hX.far (Nat.le_refl _)
      clear hX hrg hf9
      generalize wr.heap.size = eb at *
      go_wp2_with (refine wpList_load_blk rfl 52 (.tmp 7) rfl (l := e.cells) hb9 rfl Try.underlying52 rfl iE rfl ?_)
      refine (put_any xb _ m e _ hX9.at_ (by omega)).mono ?_
      rintro e_ w4 ⟨v4, rfl, hA4, hf4, ho4⟩
      have hX4 := hX9.to_idx hA4 hf4 ho4
      have hln := put_len En.nm m e
      have hln2 : (put En.nm m e).length ≤ q + 1 := by split at hln <;> omega
      have hln3 := puts_len En.nm e m
      clear hX9 hA4 hf4 ho4 hb9 hln
      go_wp2
      go_roundw
      case rel => exact ⟨q + 1, _, v4, by omega, by go_num, hln2, fun h => by omega, hX4⟩
      case measure => simp [intOf]; omega
    · obtain rfl : q = l.length := by omega
      go_wp2_with fail
      refine (all_any xb _ m _ hX.at_).mono ?_
      rintro e w4 ⟨v1, rfl, ho1, hf1⟩
      have hX4 := hX.frm0 hf1
      have hfar := fun b hb => hX4.far (b := b) hb
      clear hX hf1
      obtain ⟨A1, p1, rfl⟩ := (Sl.of_own ho1).form
      by_cases hz : m.length = 0
      · obtain rfl : m = [] := List.eq_nil_of_length_eq_zero hz
        have hl0 := hm0 hz
        have b0 : ((l.length : Int) == 0) = true := by simp [hl0]
        go_wp2
        go_ret
        exact ⟨rfl, hX4.frm.below (fun _ _ h => h)⟩
      have b0 : ((m.length : Int) == 0) = false := beq_eq_false_iff_ne.2 (by omega)
      have hm1 : (0 : Int) < (m.length : Int) := by omega
      obtain ⟨g1, o1, rfl⟩ := sl_base (Sl.of_own ho1) (by omega)
      have hrg := sl_range (Sl.of_own ho1) rfl 0 (by omega)
      obtain ⟨e, hee⟩ : ∃ e, m[0] = e := ⟨_, rfl⟩
      rw [hee] at hrg
      rw [show o1 + 0 * 14 = o1 by omega] at hrg
      have HEE := Lib.hid hee
      have ho1b := fun g hg => (World.ownsRow.lt ho1 g hg).2
      have hal := (Frm.refl (fun _ => False) w4).alloc (.cells e.cells.toArray 52)
      have hG := own_one w4 e
      have hX5 := hX4.frm0 hal
      have ho5 := owns_frm0 ho1 hal
      have HFAR := Lib.hid (fun b hb => And.intro (hfar b hb) (fun e => by have := ho1b b e; omega : (Value.slice (some ⟨g1, o1, none⟩) m.length p1).ownBlock ≠ some b))
      have HB := Lib.hid hX4.frm.size
      have HBB := Lib.hid (show w4.heap.size ≤ w4.heap.size from Nat.le_refl _)
      clear hee hX4 ho1 hal hfar ho1b
      generalize wr.heap.size = B0 at *
      go_upto_region 15 with (refine wpList_load_mid rfl 52 (.tmp 41) rfl g1 (o1) rfl [.int .i64 e.tenant, .string e.key, .int .i64 e.state, .int .i64 e.epoch, .int .i64 e.token, .int .i64 e.point, .string e.print, .int .i64 e.lease, .int .i64 e.expiry, .int .i64 e.status, .string e.text, .string e.method, .string e.path, .string e.body] _ hrg Try.underlying52 rfl (by rw [iE]; rfl) ?_)
      rw [show (w4.alloc (.cells #[.int .i64 e.tenant, .string e.key, .int .i64 e.state, .int .i64 e.epoch, .int .i64 e.token, .int .i64 e.point, .string e.print, .int .i64 e.lease, .int .i64 e.expiry, .int .i64 e.status, .string e.text, .string e.method, .string e.path, .string e.body] 52)) = w4.alloc (.cells e.cells.toArray 52) from rfl]
      generalize w4.alloc (.cells e.cells.toArray 52) = W at *
      generalize w4.heap.size = B1 at *
      have hG1 : W.ownsRow B1 52 14 (.slice (some ⟨B1, 0, none⟩) 1 1) 1 (ecs (m.take 1)) := by
        have : m.take 1 = [e] := by rw [← HEE.out]; exact take_one (by omega)
        rw [this]; exact hG
      clear hG hrg HEE
      go_wp2_with fail
      go_loopw [9, 46] (fun u i w9 => ∃ r p : Nat, r ≤ m.length ∧ i = .int .i64 r ∧ p < m.length ∧ (p + 1 = m.length ∨ r ≤ p) ∧ Xw w w9 xb vx (.slice none 0 0) m [] ∧ w9.ownsRow B0 52 14 (.slice (some ⟨g1, o1, none⟩) m.length p1) m.length (ecs m) ∧ w9.ownsRow B1 52 14 u (p + 1) (ecs (m.take (p + 1)))) (fun _ i _ => m.length - (intOf i).toNat)
      case atStart => exact ⟨0, 0, by omega, rfl, by omega, .inr (Nat.le_refl _), hX5, ho5, hG1⟩
      case round =>
        clear hX5 ho5 hG1
        obtain ⟨r, p, hr, rfl, hp, hrp, hX, ho, hu⟩ := hrel
        obtain ⟨u, rfl⟩ : ∃ u, u = u9 := ⟨_, rfl⟩
        by_cases hrl : r < m.length
        · obtain ⟨gu, pu, rfl⟩ := owns_form hu
          have hul := fun g hg => (World.ownsRow.lt hu g hg).1
          have hrg := sl_range (Sl.of_own hu) (by rw [List.length_take]; omega) p (by rw [List.length_take]; omega)
          rw [List.getElem_take, Nat.zero_add] at hrg
          obtain ⟨e, hee⟩ : ∃ e, m[p] = e := ⟨_, rfl⟩
          rw [hee] at hrg
          have HEE := Lib.hid hee
          have hw0 : IntKind.i64.wrap (p : Int) = (p : Int) := by rw [IntKind.wrap_i64]; omega
          have hp1 : (p : Int) < ((p + 1 : Nat) : Int) := by omega
          have hp2 : (p : Int) < (p : Int) + 1 := by omega
          have hp0 : (0 : Int) ≤ (p : Int) := by omega
          have hr2 : (r : Int) < (m.length : Int) := by omega
          clear hee
          go_upto_region 18 with (first
            | (refine wpList_load_mid rfl 52 (.tmp 52) rfl gu (p * 14) rfl e.cells _ hrg Try.underlying52 rfl (by rw [iE]; rfl) ?_)
            | (refine wpList_store_new rfl 52 (.tmp 10) (.tmp 53) rfl rfl rfl iE (us := e.cells.toArray) rfl rfl (List.all_eq_true.2 (en_one e)) ?_; intro w9 hb9 hf9))
          have hX9 := hX.frm0 hf9
          have ho9 := owns_frm0 ho hf9
          have hu9 := owns_frm0 hu hf9
          have x0 : w9.cell? ⟨wr.heap.size, 0, none⟩ = some (.int .i64 e.tenant) := by rw [Bk.cell hb9]; rfl
          have x1 : w9.cell? ⟨wr.heap.size, 1, none⟩ = some (.string e.key) := by rw [Bk.cell hb9]; rfl
          clear hX ho hu hf9 hb9 hrg
          generalize wr.heap.size = eb at *
          go_wp2_with fail
          refine (after_any xb _ m e.tenant e.key n hn _ hX9.at_).mono ?_
          rintro e_ w5 ⟨v5, rfl, ho5, hf5⟩
          have hX5 := hX9.frm0 hf5
          have hoA := owns_frm0 ho9 hf5
          have huA := owns_frm0 hu9 hf5
          clear hX9 ho9 hu9 hf5 x0 x1
          have hpn := page_next hX5.at_.sorted hp n.toNat
          have hpl := page_len hX5.at_.sorted hp n.toNat
          rw [HEE.out] at hpn hpl
          rw [show (e.tenant, e.key.toList) = En.nm e from rfl] at ho5
          obtain ⟨sm, hsm⟩ : ∃ sm, aft En.nm m (En.nm e) n.toNat = sm := ⟨_, rfl⟩
          rw [hsm] at hpn hpl ho5
          obtain ⟨k, hk⟩ : ∃ k, sm.length = k := ⟨_, rfl⟩
          rw [hk] at hpn hpl ho5
          obtain ⟨A5, p5, rfl⟩ := (Sl.of_own ho5).form
          have HPN := Lib.hid hpn
          have HSA := Lib.hid (show B1 ≤ w5.heap.size from by have := (World.ownsRow.lt huA gu rfl); omega)
          have HSB := Lib.hid (show p + 1 + k ≤ maxLen from by unfold maxLen; omega)
          have HSC := Lib.hid (show (p + 1 + k) * 160 ≤ 140737488355328 from by omega)
          have HK := Lib.hid hk
          have hkn : ¬ n < (k : Int) := by omega
          have hk1 : p + 1 + k ≤ m.length := by omega
          have hk0 : k = 0 → p + 1 = m.length := by omega
          have hk2 : p + 1 = m.length ∨ 1 ≤ k := by omega
          have e1 : decide (n < (k : Int)) = false := decide_eq_false hkn
          clear hsm hk hpn hpl
          by_cases hkz : k = 0
          · have e2 : ((k : Int) == 0) = true := by simp [hkz]
            have hpe := hk0 hkz
            have e3 : decide (((p + 1 : Nat) : Int) < (m.length : Int)) = false := decide_eq_false (by omega)
            have e4 : decide ((p : Int) + 1 < (m.length : Int)) = false := decide_eq_false (by omega)
            have e5 : ¬ (p : Int) + 1 < (m.length : Int) := by omega
            have HPE := Lib.hid hpe
            have HKZ := Lib.hid hkz
            clear hpe hkz hk0
            go_upto_region 22 with (refine wpList_append_sl rfl (.tmp 77) (.tmp 78) rfl EEn B1 _ _ (p + 1) k _ _ rfl rfl huA (Sl.of_own ho5) (by rw [ecs_len, HK.out]) (ecs_one sm) HSB.out HSC.out HSA.out ?_; intro v8 w8 ho8 hf8 hb8)
            have hX8 := hX5.frmS hf8 (fun b hb h => by
              have h2 : (Value.slice (some ⟨gu, 0, none⟩) (p + 1) pu).ownBlock = some b := h
              have h3 := hul b h2
              have h4 := HFAR.out b h3
              have h5 := HB.out
              have h6 := HBB.out
              exact ⟨by omega, h4.1.1, h4.1.2.1, h4.1.2.2⟩)
            have ho8' := owns_frm hoA hf8 (fun g hg h => by
              have h2 : (Value.slice (some ⟨gu, 0, none⟩) (p + 1) pu).ownBlock = some g := h
              exact (HFAR.out g (hul g h2)).2 hg)
            rw [← ecs_app, HPN.out, show p + 1 + k = p + k + 1 by omega] at ho8
            clear hX5 hoA huA ho5 hf8 hb8
            go_wp2
            go_roundw
            case rel => exact ⟨r + 1, p + k, by omega, by go_num, by omega, by have := HPE.out; have := HKZ.out; omega, hX8, ho8', ho8⟩
            case measure => simp [intOf]; omega
          · have e2 : ((k : Int) == 0) = false := beq_eq_false_iff_ne.2 (by omega)
            go_upto_region 22 with (refine wpList_append_sl rfl (.tmp 77) (.tmp 78) rfl EEn B1 _ _ (p + 1) k _ _ rfl rfl huA (Sl.of_own ho5) (by rw [ecs_len, HK.out]) (ecs_one sm) HSB.out HSC.out HSA.out ?_; intro v8 w8 ho8 hf8 hb8)
            have hX8 := hX5.frmS hf8 (fun b hb h => by
              have h2 : (Value.slice (some ⟨gu, 0, none⟩) (p + 1) pu).ownBlock = some b := h
              have h3 := hul b h2
              have h4 := HFAR.out b h3
              have h5 := HB.out
              have h6 := HBB.out
              exact ⟨by omega, h4.1.1, h4.1.2.1, h4.1.2.2⟩)
            have ho8' := owns_frm hoA hf8 (fun g hg h => by
              have h2 : (Value.slice (some ⟨gu, 0, none⟩) (p + 1) pu).ownBlock = some g := h
              exact (HFAR.out g (hul g h2)).2 hg)
            rw [← ecs_app, HPN.out, show p + 1 + k = p + k + 1 by omega] at ho8
            clear hX5 hoA huA ho5 hf8 hb8
            go_wp2
            go_roundw
            case rel => exact ⟨r + 1, p + k, by omega, by go_num, by omega, by omega, hX8, ho8', ho8⟩
            case measure => simp [intOf]; omega
        · obtain rfl : r = m.length := by omega
          have hpe : p + 1 = m.length := by omega
          have htk : m.take (p + 1) = m := by rw [hpe, List.take_length]
          rw [htk, hpe] at hu
          have hpe2 := hX.at_.sorted
          clear htk hrp hp
          go_wp2_with fail
          refine (same_any _ _ m _ (Sl.of_own hu) (Sl.of_own ho) (by omega)).mono ?_
          rintro e w13 ⟨rfl, hf13⟩
          have hX13 := hX.frm0 hf13
          go_wp2
          go_ret
          exact ⟨rfl, hX13.frm.below (fun _ _ h => h)⟩
end Ix
end Go.Proofs.Ythggbohoedfkpaa
