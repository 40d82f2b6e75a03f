/- The walk of IndexRuns. -/
import Derived.Test.YthggbohoedfkpaaIxq
namespace Go.Proofs.Ythggbohoedfkpaa
open Go.RowKit
set_option linter.unusedVariables false
set_option linter.unusedSimpArgs false
set_option maxRecDepth 100000
namespace Ix
theorem iD : (Try.prog.info? 71).map (·.size) = some 15 := by kernel_rfl
theorem deed_one (d : XDeed) : ∀ u ∈ d.cells, u.oneCell' = true := by
  intro u hu
  simp only [XDeed.cells, List.mem_cons, List.not_mem_nil, or_false] at hu
  rcases hu with rfl | rfl | rfl | rfl | rfl | rfl | rfl | rfl | rfl | rfl | rfl | rfl | rfl | rfl | rfl <;> rfl
theorem u8mod3 {x : Int} (h : 0 ≤ x ∧ x ≤ 255) : IntKind.u8.wrap (x % 3) = x % 3 := by rw [IntKind.wrap_u8']; omega
theorem sl_range15 {w : World} {g o n c : Nat} {l : List XDeed} (hs : Sl w (.slice (some ⟨g, o, none⟩) n c) n (l.flatMap XDeed.cells)) (hn : l.length = n) (h : Nat) (hh : h < l.length) : w.rangeAt g (o + h * 15) (l[h]).cells := by
  rcases hs with ⟨A', c', h1, h2, _⟩ | ⟨g', o', c', h1, h0, h2, h3, h4, h5⟩
  · omega
  · cases h1
    intro j v hv
    have hj : j < 15 := by
      have := (List.getElem?_eq_some_iff.1 hv).1
      rwa [XDeed.cells_len] at this
    rw [Nat.add_assoc]
    exact h5 _ v (by rw [flat_at' XDeed.cells 15 XDeed.cells_len l h j l[h] (List.getElem?_eq_getElem hh) hj]; exact hv)
theorem dent {w : World} {b : Nat} {d : XDeed} (h : w.heap[b]? = some (.cells d.cells.toArray 71 (0, 0))) : w.rangeAt b 1 d.entry.cells := fun j v hv => by
  rw [Bk.cell h]
  have h1 : d.cells = .int .u8 d.kind :: d.entry.cells := rfl
  rw [h1, List.getElem?_toArray, Nat.add_comm 1 j, List.getElem?_cons_succ]
  exact hv

set_option maxHeartbeats 16000000 in
theorem xruns_walk (v : Value) (l : List XDeed) (w : World) (hs : Sl w v l.length (l.flatMap XDeed.cells)) (hg : ∀ a ∈ l, XDeed.Good a) :
    Calls Try.prog 9 #[v] w fun e w' => e = .returned (.bool true) ∧ Below w.heap.size w w' := by
  have hlen := hs.len
  obtain ⟨A, cp, rfl⟩ := hs.form
  have HS := Lib.hid (fun (w9 : World) (hf : Frm0 w w9) => hs.frm0 hf)
  have HG := Lib.hid hg
  clear hs hg
  go_enter Try.func9, Try.ntmps9
  go_wp2_with fail
  refine (xawake _).mono ?_
  rintro e w2 ⟨rfl, hF2⟩
  by_cases h60 : 60 < l.length
  · have d1 : decide ((60 : Int) < (l.length : Int)) = true := decide_eq_true (by omega)
    go_wp2
    go_ret
    exact ⟨rfl, hF2.below (fun _ _ h => h)⟩
  have d1 : decide ((60 : Int) < (l.length : Int)) = false := decide_eq_false (by omega)
  go_wp2_with fail
  refine (new_any _).mono ?_
  rintro e w3 ⟨rfl, hA3, hf3⟩
  have hX := Xw.start hF2 hA3 hf3 (Nat.le_refl _)
  generalize w2.heap.size = xb at *
  clear hF2 hA3 hf3 d1
  go_wp2_with fail
  go_loopw [4, 17] (fun u i wr => ∃ (q : Nat) (m : List En) (vx : Value), q ≤ l.length ∧ i = .int .i64 q ∧ m.length ≤ q ∧ Xw w wr xb vx u m m) (fun _ i _ => l.length - (intOf i).toNat)
  case atStart => exact ⟨0, [], _, by omega, rfl, Nat.le_refl _, hX⟩
  case round =>
    clear hX
    obtain ⟨q, m, vx, hq, rfl, hm, hX⟩ := hrel
    obtain ⟨u, rfl⟩ : ∃ u, u = u4 := ⟨_, rfl⟩
    by_cases hlt : q < l.length
    · obtain ⟨g, o, rfl⟩ := sl_base (HS.out w (Frm.refl _ _)) (by omega)
      have hrg := sl_range15 (HS.out wr hX.frm) rfl q hlt
      obtain ⟨d, hee⟩ : ∃ d, l[q] = d := ⟨_, rfl⟩
      have hkd := bounds_u8 (HG.out _ (List.getElem_mem hlt)).kind
      rw [hee] at hrg hkd
      have hmod := u8mod3 hkd
      have hlt2 : (q : Int) < (l.length : Int) := by omega
      have hge2 : (0 : Int) ≤ (q : Int) := by omega
      clear hee
      go_upto_region 10 with (first
        | (refine wpList_load_mid rfl 71 (.tmp 19) rfl g (o + q * 15) rfl d.cells _ hrg Try.underlying71 rfl (by rw [iD]; rfl) ?_)
        | (refine wpList_store_new rfl 71 (.tmp 6) (.tmp 20) rfl rfl rfl iD (us := d.cells.toArray) rfl rfl (List.all_eq_true.2 (deed_one d)) ?_; intro w9 hb9 hf9))
      have hX9 := hX.frm0 hf9
      have hfar := hX.far (Nat.le_refl _)
      clear hX hrg hf9
      generalize wr.heap.size = eb at *
      have x0 : w9.cell? ⟨eb, 0, none⟩ = some (.int .u8 d.kind) := by rw [Bk.cell hb9]; rfl
      have x1 : w9.cell? ⟨eb, 1, none⟩ = some (.int .i64 d.entry.tenant) := by rw [Bk.cell hb9]; rfl
      have x2 : w9.cell? ⟨eb, 2, none⟩ = some (.string d.entry.key) := by rw [Bk.cell hb9]; rfl
      go_wp2_with fail
      refine (rget_any u m d.entry.tenant d.entry.key _ (Sl.of_own hX9.ref) (by omega)).mono ?_
      rintro e_ w3 ⟨rfl, hf3⟩
      have hX3 := hX9.frm0 hf3
      have hb3 := hf3.blk hb9 (fun h => h)
      obtain ⟨e1, he1⟩ : ∃ e1, gt m (d.entry.tenant, d.entry.key.toList) = e1 := ⟨_, rfl⟩
      rw [he1]
      obtain ⟨b1, hb1⟩ : ∃ b1, found En.nm m (d.entry.tenant, d.entry.key.toList) = b1 := ⟨_, rfl⟩
      rw [hb1]
      have HB1 := Lib.hid hb1
      have c1 : (b1 != b1) = false := by cases b1 <;> rfl
      have c2 : ((!b1) == b1) = false := by cases b1 <;> rfl
      clear hX9 hf3 hb9 x0 x1 x2 he1 hb1
      go_upto_region 11 with (refine wpList_store_new rfl 52 (.tmp 7) (.tmp 30) rfl rfl rfl iE (us := e1.cells.toArray) rfl rfl (List.all_eq_true.2 (en_one e1)) ?_; intro w4 hb4 hf4)
      have hX4 := hX3.frm0 hf4
      have hb34 := hf4.blk hb3 (fun h => h)
      have x0 : w4.cell? ⟨eb, 0, none⟩ = some (.int .u8 d.kind) := by rw [Bk.cell hb34]; rfl
      have x1 : w4.cell? ⟨eb, 1, none⟩ = some (.int .i64 d.entry.tenant) := by rw [Bk.cell hb34]; rfl
      have x2 : w4.cell? ⟨eb, 2, none⟩ = some (.string d.entry.key) := by rw [Bk.cell hb34]; rfl
      clear hX3 hf4 hb4 hb3
      by_cases K2 : d.kind % 3 = 2
      · have e2 : (d.kind % 3 == 2) = true := beq_iff_eq.2 K2
        go_wp2_with fail
        refine (rdrop_any _ u m d.entry.tenant d.entry.key _ hX4.ref (by omega)).mono ?_
        rintro e_ w5 ⟨u5, rfl, ho5, hf5⟩
        have hX5 := hX4.to_ref ho5 hf5
        have x1 := hf5.cell x1 (fun h => h)
        have x2 := hf5.cell x2 (fun h => h)
        have hln := drp_len En.nm m (d.entry.tenant, d.entry.key.toList)
        have hm6 : (drp En.nm m (d.entry.tenant, d.entry.key.toList)).length ≤ q + 1 := by omega
        clear hX4 ho5 hf5 hln x0 hb34
        go_wp2_with fail
        refine (drop_any xb _ m d.entry.tenant d.entry.key _ hX5.at_).mono ?_
        rintro e_ w6 ⟨v6, rfl, hA6, hf6, ho6⟩
        have hX6 := hX5.to_idx hA6 hf6 (fun k hk => .inl (ho6 ▸ hk))
        rw [HB1.out]
        clear hX5 hA6 hf6 ho6 x1 x2
        generalize drp En.nm m (d.entry.tenant, d.entry.key.toList) = m6 at *
        obtain ⟨UA, uc, rfl⟩ := (Sl.of_own hX6.ref).form
        have b0 : ((m6.length : Int) != (m6.length : Int)) = false := by simp
        have b1 : (m6.length != m6.length) = false := by simp
        go_wp2_with fail
        refine (len_any xb _ _ _ hX6.at_).mono ?_
        rintro e_ w7 ⟨rfl, rfl⟩
        go_wp2_with fail
        refine (all_any xb _ m6 _ hX6.at_).mono ?_
        rintro e_ w7 ⟨v7, rfl, ho7, hf7⟩
        have hX7 := hX6.frm0 hf7
        clear hX6 hf7
        go_wp2_with fail
        refine (same_any _ _ m6 _ (Sl.of_own ho7) (Sl.of_own hX7.ref) (by omega)).mono ?_
        rintro e_ w8 ⟨rfl, hf8⟩
        have hX8 := hX7.frm0 hf8
        clear hX7 hf8 ho7
        go_wp2
        go_roundw
        case rel => exact ⟨q + 1, m6, _, by omega, by go_num, hm6, hX8⟩
        case measure => simp [intOf]; omega
      · have e2 : (d.kind % 3 == 2) = false := beq_eq_false_iff_ne.2 K2
        have hre : w4.rangeAt eb 1 d.entry.cells := dent hb34
        go_wp2_with (refine wpList_load_mid rfl 52 (.tmp 55) rfl eb 1 rfl d.entry.cells _ hre Try.underlying52 rfl (by rw [iE]; rfl) ?_)
        refine (rput_any _ u m d.entry _ hX4.ref (by omega)).mono ?_
        rintro e_ w5 ⟨u5, rfl, ho5, hf5⟩
        have hX5 := hX4.to_ref ho5 hf5
        have hre5 := dent (hf5.blk hb34 (fun h => h))
        have hln := put_len En.nm m d.entry
        have hm6 : (put En.nm m d.entry).length ≤ q + 1 := by split at hln <;> omega
        clear hX4 ho5 hf5 hln x0 x1 x2 hb34 hre
        go_wp2_with (refine wpList_load_mid rfl 52 (.tmp 59) rfl eb 1 rfl d.entry.cells _ hre5 Try.underlying52 rfl (by rw [iE]; rfl) ?_)
        refine (put_any xb _ m d.entry _ hX5.at_ (by omega)).mono ?_
        rintro e_ w6 ⟨v6, rfl, hA6, hf6, ho6⟩
        have hX6 := hX5.to_idx hA6 hf6 ho6
        rw [show found En.nm m d.entry.nm = b1 from HB1.out]
        clear hX5 hA6 hf6 ho6 hre5
        generalize put En.nm m d.entry = m6 at *
        obtain ⟨UA, uc, rfl⟩ := (Sl.of_own hX6.ref).form
        have b0 : ((m6.length : Int) != (m6.length : Int)) = false := by simp
        have b1 : (m6.length != m6.length) = false := by simp
        go_wp2_with fail
        refine (len_any xb _ _ _ hX6.at_).mono ?_
        rintro e_ w7 ⟨rfl, rfl⟩
        go_wp2_with fail
        refine (all_any xb _ m6 _ hX6.at_).mono ?_
        rintro e_ w7 ⟨v7, rfl, ho7, hf7⟩
        have hX7 := hX6.frm0 hf7
        clear hX6 hf7
        go_wp2_with fail
        refine (same_any _ _ m6 _ (Sl.of_own ho7) (Sl.of_own hX7.ref) (by omega)).mono ?_
        rintro e_ w8 ⟨rfl, hf8⟩
        have hX8 := hX7.frm0 hf8
        clear hX7 hf8 ho7
        go_wp2
        go_roundw
        case rel => exact ⟨q + 1, m6, _, by omega, by go_num, hm6, hX8⟩
        case measure => simp [intOf]; omega
    · obtain rfl : q = l.length := by omega
      go_wp2
      go_ret
      exact ⟨rfl, hX.frm.below (fun _ _ h => h)⟩
end Ix
end Go.Proofs.Ythggbohoedfkpaa
