/- The walk of IndexOwn. -/
import Derived.Test.YthggbohoedfkpaaIxq
namespace Go.Proofs.Ythggbohoedfkpaa
open Go.RowKit
set_option linter.unusedVariables false
set_option linter.unusedSimpArgs false
set_option maxRecDepth 100000
namespace Ix
/-- Three rows of the caller's own, that a slice has. -/
structure Tri (w : World) (B0 B : Nat) (V : Nat → Value) (N : Nat → Nat) : Prop where
  cell : ∀ i, i < 3 → w.cell? ⟨B, i, none⟩ = some (V i)
  row : ∀ i, i < 3 → ∃ l : List En, l.length = N i ∧ w.ownsRow B0 52 14 (V i) (N i) (ecs l)
  off : ∀ i, i < 3 → ∀ g, (V i).ownBlock = some g → g ≠ B
  apart : ∀ i k, i < 3 → k < 3 → i ≠ k → ∀ g, (V i).ownBlock = some g → (V k).ownBlock ≠ some g
theorem Tri.set {w w1 : World} {B0 B : Nat} {V : Nat → Value} {N : Nat → Nat} (h : Tri w B0 B V N) (j : Nat) (hj : j < 3) (g : Nat) (hg : (V j).ownBlock = some g) (l : List En) (hl : l.length = N j) (ho : w1.ownsRow B0 52 14 (V j) (N j) (ecs l)) (hf : Frm (fun k => k = g) w w1) : Tri w1 B0 B V N :=
  ⟨fun i hi => hf.cell (h.cell i hi) (fun e => h.off j hj g hg e.symm), fun i hi => by
    by_cases e : i = j
    · subst e; exact ⟨l, hl, ho⟩
    · obtain ⟨l', h1, h2⟩ := h.row i hi
      exact ⟨l', h1, owns_frm h2 hf (fun g' hg' e' => by have e2 : g' = g := e'; subst e2; exact h.apart j i hj hi (fun e2 => e e2.symm) g' hg hg')⟩, h.off, h.apart⟩
theorem Tri.frm0 {w w1 : World} {B0 B : Nat} {V : Nat → Value} {N : Nat → Nat} (h : Tri w B0 B V N) (hf : Frm0 w w1) : Tri w1 B0 B V N :=
  ⟨fun i hi => hf.cell (h.cell i hi) (fun e => e), fun i hi => by
    obtain ⟨l', h1, h2⟩ := h.row i hi
    exact ⟨l', h1, owns_frm0 h2 hf⟩, h.off, h.apart⟩
def V3 (a b c : Value) (i : Nat) : Value := if i = 0 then a else if i = 1 then b else c
def N3 (a b c : Nat) (i : Nat) : Nat := if i = 0 then a else if i = 1 then b else c
theorem Tri.mk3 {w : World} {B0 B : Nat} {a b c : Value} {x y z : List En} {t : TypeId} (hB : w.heap[B]? = some (.cells #[a, b, c] t (0, 0)))
    (ha : w.ownsRow B0 52 14 a x.length (ecs x)) (hb : w.ownsRow B0 52 14 b y.length (ecs y)) (hc : w.ownsRow B0 52 14 c z.length (ecs z))
    (la : ∀ g, a.ownBlock = some g → g ≠ B ∧ b.ownBlock ≠ some g ∧ c.ownBlock ≠ some g) (lb : ∀ g, b.ownBlock = some g → g ≠ B ∧ a.ownBlock ≠ some g ∧ c.ownBlock ≠ some g) (lc : ∀ g, c.ownBlock = some g → g ≠ B ∧ a.ownBlock ≠ some g ∧ b.ownBlock ≠ some g) :
    Tri w B0 B (V3 a b c) (N3 x.length y.length z.length) := by
  obtain ⟨c0, c1, c2⟩ := Bk.c3 hB
  refine ⟨fun i hi => ?_, fun i hi => ?_, fun i hi => ?_, fun i k hi hk hik => ?_⟩
  · obtain rfl | rfl | rfl : i = 0 ∨ i = 1 ∨ i = 2 := by omega
    · exact c0
    · exact c1
    · exact c2
  · obtain rfl | rfl | rfl : i = 0 ∨ i = 1 ∨ i = 2 := by omega
    · exact ⟨x, rfl, ha⟩
    · exact ⟨y, rfl, hb⟩
    · exact ⟨z, rfl, hc⟩
  · obtain rfl | rfl | rfl : i = 0 ∨ i = 1 ∨ i = 2 := by omega
    · exact fun g hg => (la g hg).1
    · exact fun g hg => (lb g hg).1
    · exact fun g hg => (lc g hg).1
  · obtain rfl | rfl | rfl : i = 0 ∨ i = 1 ∨ i = 2 := by omega
    · obtain rfl | rfl : k = 1 ∨ k = 2 := by omega
      · exact fun g hg => (la g hg).2.1
      · exact fun g hg => (la g hg).2.2
    · obtain rfl | rfl : k = 0 ∨ k = 2 := by omega
      · exact fun g hg => (lb g hg).2.1
      · exact fun g hg => (lb g hg).2.2
    · obtain rfl | rfl : k = 0 ∨ k = 1 := by omega
      · exact fun g hg => (lc g hg).2.1
      · exact fun g hg => (lc g hg).2.2
def enT : En := ⟨0, ⟨#[116, 117, 114, 110, 101, 100]⟩, 0, 0, 0, 0, ⟨#[]⟩, 0, 0, 0, ⟨#[]⟩, ⟨#[]⟩, ⟨#[]⟩, ⟨#[]⟩⟩

set_option maxHeartbeats 16000000 in
theorem own_walk (v : Value) (l : List En) (w : World) (hs : Sl w v l.length (ecs l)) :
    Calls Try.prog 10 #[v] w fun e w' => e = .returned (.bool true) ∧ Below w.heap.size w w' := by
  have hlen := hs.len
  obtain ⟨A, cp, rfl⟩ := hs.form
  have HS := Lib.hid (fun (w9 : World) (hf : Frm0 w w9) => hs.frm0 hf)
  clear hs
  go_enter Try.func10, Try.ntmps10
  go_wp2_with fail
  refine (xawake _).mono ?_
  rintro e w2 ⟨rfl, hF2⟩
  by_cases h60 : 20 < l.length
  · have d1 : decide ((20 : Int) < (l.length : Int)) = true := decide_eq_true (by omega)
    go_wp2
    go_ret
    exact ⟨rfl, hF2.below (fun _ _ h => h)⟩
  have d1 : decide ((20 : Int) < (l.length : Int)) = false := decide_eq_false (by omega)
  go_wp2_with fail
  refine (new_any _).mono ?_
  rintro e w3 ⟨rfl, hA3, hf3⟩
  have hX := Xw.start hF2 hA3 hf3 (Nat.le_refl _)
  generalize w2.heap.size = xb at *
  clear hF2 hA3 hf3 d1
  go_wp2_with fail
  go_loopw [4, 23] (fun u i wr => ∃ (q : Nat) (m : List En) (vx : Value), q ≤ l.length ∧ i = .int .i64 q ∧ m.length ≤ q ∧ Xw w wr xb vx u m m) (fun _ i _ => l.length - (intOf i).toNat)
  case atStart => exact ⟨0, [], _, by omega, rfl, Nat.le_refl _, hX⟩
  case round =>
    clear hX
    obtain ⟨q, m, vx, hq, rfl, hm, hX⟩ := hrel
    obtain ⟨u, rfl⟩ : ∃ u, u = u4 := ⟨_, rfl⟩
    by_cases hlt : q < l.length
    · obtain ⟨g, o, rfl⟩ := sl_base (HS.out w (Frm.refl _ _)) (by omega)
      have hrg := sl_range (HS.out wr hX.frm) rfl q hlt
      obtain ⟨e, hee⟩ : ∃ e, l[q] = e := ⟨_, rfl⟩
      rw [hee] at hrg
      have hlt2 : (q : Int) < (l.length : Int) := by omega
      have hge2 : (0 : Int) ≤ (q : Int) := by omega
      clear hee
      go_upto_region 10 with (first
        | (refine wpList_load_mid rfl 52 (.tmp 25) rfl g (o + q * 14) rfl e.cells _ hrg Try.underlying52 rfl (by rw [iE]; rfl) ?_)
        | (refine wpList_store_new rfl 52 (.tmp 6) (.tmp 26) rfl rfl rfl iE (us := e.cells.toArray) rfl rfl (List.all_eq_true.2 (en_one e)) ?_; intro w9 hb9 hf9))
      have hX9 := hX.frm0 hf9
      have hfar := hX.far (Nat.le_refl _)
      clear hX hrg hf9
      generalize wr.heap.size = eb at *
      go_wp2_with (refine wpList_load_blk rfl 52 (.tmp 6) rfl (l := e.cells) hb9 rfl Try.underlying52 rfl iE rfl ?_)
      refine (put_any xb _ m e _ hX9.at_ (by omega)).mono ?_
      rintro e_ w4 ⟨v4, rfl, hA4, hf4, ho4⟩
      have hX4 := hX9.to_idx hA4 hf4 ho4
      have hb4 := hf4.blk hb9 (fun h => h.elim hfar.1 hfar.2.1)
      clear hX9 hA4 hf4 ho4 hb9
      go_wp2_with (refine wpList_load_blk rfl 52 (.tmp 6) rfl (l := e.cells) hb4 rfl Try.underlying52 rfl iE rfl ?_)
      refine (rput_any _ u m e _ hX4.ref (by omega)).mono ?_
      rintro e_ w5 ⟨u5, rfl, ho5, hf5⟩
      have hX5 := hX4.to_ref ho5 hf5
      have hln := put_len En.nm m e
      have hln2 : (put En.nm m e).length ≤ q + 1 := by split at hln <;> omega
      clear hX4 ho5 hf5 hb4 hln
      go_wp2
      go_roundw
      case rel => exact ⟨q + 1, _, v4, by omega, by go_num, hln2, hX5⟩
      case measure => simp [intOf]; omega
    · obtain rfl : q = l.length := by omega
      have hm20 : m.length ≤ 20 := by omega
      go_wp2_with fail
      refine (all_any xb _ m _ hX.at_).mono ?_
      rintro e w4 ⟨v1, rfl, ho1, hf1⟩
      have hX4 := hX.frm0 hf1
      go_wp2_with fail
      refine (ofm_any xb _ m 0 _ hX4.at_).mono ?_
      rintro e w5 ⟨v2, rfl, ho2, hf2⟩
      have hX5 := hX4.frm0 hf2
      have ho15 := owns_frm0 ho1 hf2
      go_wp2_with fail
      refine (after_any xb _ m (-1) ⟨#[]⟩ 99 rfl _ hX5.at_).mono ?_
      rintro e w6 ⟨v3, rfl, ho3, hf3⟩
      have hX6 := hX5.frm0 hf3
      have hsz1 := hf1.size
      have hsz2 := hf2.size
      have hsz3 := hf3.size
      have hfar := fun b hb => hX.far (b := b) hb
      have o1 := owns_frm0 ho15 hf3
      have o2 := owns_base (owns_frm0 ho2 hf3) hsz1
      have o3 := owns_base ho3 (Nat.le_trans hsz1 hsz2)
      obtain ⟨A1, p1, rfl⟩ := (Sl.of_own o1).form
      obtain ⟨A2, p2, rfl⟩ := (Sl.of_own o2).form
      obtain ⟨A3, p3, rfl⟩ := (Sl.of_own o3).form
      obtain ⟨n1, hn1⟩ : ∃ n1, m.length = n1 := ⟨_, rfl⟩
      obtain ⟨n2, hn2⟩ : ∃ n2, (m.filter (fun a => decide ((En.nm a).1 = 0))).length = n2 := ⟨_, rfl⟩
      obtain ⟨n3, hn3⟩ : ∃ n3, (aft En.nm m (-1, (⟨#[]⟩ : ByteArray).toList) (99 : Int).toNat).length = n3 := ⟨_, rfl⟩
      have HM20 := Lib.hid hm20
      have HN1 := Lib.hid hn1
      rw [hn1] at ho1 o1 ⊢
      rw [hn2] at ho2 o2 ⊢
      rw [hn3] at ho3 o3 ⊢
      have hal := (Frm.refl (fun _ => False) w6).alloc (.cells #[.slice A1 n1 p1, .slice A2 n2 p2, .slice A3 n3 p3] 48)
      have HT := Tri.mk3 (x := m) (y := m.filter (fun a => decide ((En.nm a).1 = 0))) (z := aft En.nm m (-1, (⟨#[]⟩ : ByteArray).toList) (99 : Int).toNat) (Bk.new w6 (.cells #[.slice A1 n1 p1, .slice A2 n2 p2, .slice A3 n3 p3] 48)) (by rw [hn1]; exact owns_frm0 o1 hal) (by rw [hn2]; exact owns_frm0 o2 hal) (by rw [hn3]; exact owns_frm0 o3 hal)
        (fun g hg => by
          have h1 := (World.ownsRow.lt ho1 g hg).2
          exact ⟨by omega, fun e => by have := (World.ownsRow.lt ho2 g e).1; omega, fun e => by have := (World.ownsRow.lt ho3 g e).1; omega⟩)
        (fun g hg => by
          have h1 := (World.ownsRow.lt ho2 g hg)
          exact ⟨by omega, fun e => by have := (World.ownsRow.lt ho1 g e).2; omega, fun e => by have := (World.ownsRow.lt ho3 g e).1; omega⟩)
        (fun g hg => by
          have h1 := (World.ownsRow.lt ho3 g hg)
          exact ⟨by omega, fun e => by have := (World.ownsRow.lt ho1 g e).2; omega, fun e => by have := (World.ownsRow.lt ho2 g e).2; omega⟩)
      have hX7 := hX6.frm0 hal
      have HBB := Lib.hid (show w.heap.size ≤ wr.heap.size from hX.frm.size)
      have HFAR := Lib.hid hfar
      clear hX hX4 hX5 hX6 ho1 ho2 ho3 ho15 hf1 hf2 hf3 hsz1 hsz2 hsz3 o1 o2 o3 hal hfar
      rw [hn1, hn2, hn3] at HT
      clear hn1 hn2 hn3 hm20
      generalize hV : V3 _ _ _ = V at *
      generalize hN : N3 _ _ _ = N at *
      generalize wr.heap.size = B0 at *
      go_wp2_with fail
      generalize w6.alloc (.cells #[.slice A1 n1 p1, .slice A2 n2 p2, .slice A3 n3 p3] 48) = W at *
      generalize w6.heap.size = B at *
      clear hV hN
      go_loopw [42] (fun i w9 => ∃ j : Nat, j ≤ 3 ∧ i = .int .i64 j ∧ Xw w w9 xb vx u m m ∧ Tri w9 B0 B V N) (fun i _ => 3 - (intOf i).toNat)
      case atStart => exact ⟨0, by omega, rfl, hX7, HT⟩
      case round =>
        clear hX7 HT
        obtain ⟨j, hj, rfl, hX, hT⟩ := hrel
        by_cases hj3 : j < 3
        · have cj := hT.cell j hj3
          obtain ⟨lj, hlj, hoj⟩ := hT.row j hj3
          have hj2 : (j : Int) < (3 : Int) := by omega
          have hj0 : (0 : Int) ≤ (j : Int) := by omega
          obtain ⟨vj, hvj⟩ : ∃ vj, V j = vj := ⟨_, rfl⟩
          obtain ⟨nj, hnj⟩ : ∃ nj, N j = nj := ⟨_, rfl⟩
          rw [hvj] at cj hoj
          rw [hnj] at hoj hlj
          obtain ⟨Aj, pj, rfl⟩ := Sl.form (Sl.of_own hoj)
          have HVJ := Lib.hid hvj
          have HNJ := Lib.hid hnj
          clear hoj hlj hvj hnj
          go_wp2_with fail
          go_loopw [48] (fun i w9 => ∃ q : Nat, q ≤ nj ∧ i = .int .i64 q ∧ Xw w w9 xb vx u m m ∧ Tri w9 B0 B V N) (fun i _ => nj - (intOf i).toNat)
          case atStart => exact ⟨0, by omega, rfl, hX, hT⟩
          case round =>
            clear hX hT cj
            obtain ⟨q, hq, rfl, hX, hT⟩ := hrel
            by_cases hqn : q < nj
            · obtain ⟨lj, hlj, hoj⟩ := hT.row j hj3
              have hq2 : (q : Int) < (nj : Int) := by omega
              have hq0 : (0 : Int) ≤ (q : Int) := by omega
              rw [HVJ.out, HNJ.out] at hoj
              rw [HNJ.out] at hlj
              have hnl := (Sl.of_own hoj).len
              have HLJ := Lib.hid hlj
              have hqj : q < lj.length := by omega
              clear hlj
              rcases hoj.2 with ⟨e1, e2⟩ | ⟨g, cap, cur, e1, hg0, hrest⟩
              · omega
              cases e1
              clear hrest
              go_upto_region 20 with (refine wpList_store_row rfl 52 (.tmp 54) (.tmp 53) rfl (f := En.cells) (l := lj) (k := q) (us := enT.cells.toArray) enT hoj En.cells_len HLJ.out hqj rfl rfl iE rfl (List.all_eq_true.2 (en_one enT)) ?_; intro w8 ho8 hf8)
              have hT8 := hT.set j hj3 g (by rw [HVJ.out]; rfl) (lj.set q enT) (by rw [List.length_set, HNJ.out, HLJ.out]) (by rw [HVJ.out, HNJ.out]; exact ho8) hf8
              have hX8 := hX.frmS hf8 (fun k hk h => by
                have h2 : k = g := h
                subst h2
                have h3 := HFAR.out k hg0
                have h4 := HBB.out
                exact ⟨by omega, h3⟩)
              clear hX hT hoj ho8 hf8
              go_wp2
              go_roundw
              case rel => exact ⟨q + 1, by omega, by go_num, hX8, hT8⟩
              case measure => simp [intOf]; omega
            · obtain rfl : q = nj := by omega
              go_wp2
              go_roundw
              case rel => exact ⟨j + 1, by omega, by go_num, hX, hT⟩
              case measure => simp [intOf]; omega
        · obtain rfl : j = 3 := by omega
          have hm20 := HM20.out
          clear hT HFAR HBB HM20 HN1
          go_wp2_with fail
          refine (get_nil 0 _ _).mono ?_
          rintro e w8 ⟨rfl, hf8⟩
          have hX8 := hX.frm0 hf8
          clear hX hf8
          go_upto_region 24 with (refine wpList_store_new rfl 52 (.tmp 11) (.tmp 60) rfl rfl rfl iE (us := en0.cells.toArray) rfl rfl (List.all_eq_true.2 (en_one en0)) ?_; intro w9 hb9 hf9)
          have hX9 := hX8.frm0 hf9
          clear hX8 hf9 hb9
          go_wp2_with fail
          refine (at_nil _).mono ?_
          rintro e w10 ⟨rfl, hf10⟩
          have hX10 := hX9.frm0 hf10
          clear hX9 hf10
          go_upto_region 25 with (refine wpList_store_new rfl 52 (.tmp 13) (.tmp 65) rfl rfl rfl iE (us := en0.cells.toArray) rfl rfl (List.all_eq_true.2 (en_one en0)) ?_; intro w11 hb11 hf11)
          have hX11 := hX10.frm0 hf11
          clear hX10 hf11 hb11
          go_wp2_with fail
          refine (all_any xb _ m _ hX11.at_).mono ?_
          rintro e w12 ⟨v12, rfl, ho12, hf12⟩
          have hX12 := hX11.frm0 hf12
          clear hX11 hf12
          go_wp2_with fail
          refine (same_any _ _ m _ (Sl.of_own ho12) (Sl.of_own hX12.ref) (by omega)).mono ?_
          rintro e w13 ⟨rfl, hf13⟩
          have hX13 := hX12.frm0 hf13
          clear hX12 hf13 ho12
          go_wp2_with fail
          refine (put_nil en0 _).mono ?_
          rintro e w14 ⟨rfl, hf14⟩
          have hX14 := hX13.frm0 hf14
          clear hX13 hf14
          go_wp2_with fail
          refine (drop_nil 0 _ _).mono ?_
          rintro e w15 ⟨rfl, hf15⟩
          have hX15 := hX14.frm0 hf15
          clear hX14 hf15
          go_wp2_with fail
          refine (len_nil _).mono ?_
          rintro e w16 ⟨rfl, rfl⟩
          go_wp2_with fail
          refine (all_nil _).mono ?_
          rintro e w16 ⟨rfl, rfl⟩
          go_wp2_with fail
          refine (after_nil _ _).mono ?_
          rintro e w17 ⟨rfl, hf17⟩
          have hX17 := hX15.frm0 hf17
          clear hX15 hf17
          go_wp2_with fail
          refine (ofm_nil _).mono ?_
          rintro e w18 ⟨rfl, hf18⟩
          have hX18 := hX17.frm0 hf18
          clear hX17 hf18
          go_wp2
          go_ret
          exact ⟨rfl, hX18.frm.below (fun _ _ h => h)⟩
end Ix
end Go.Proofs.Ythggbohoedfkpaa
