/- The index's reference: Put, Drop. -/
import Derived.Test.YthggbohoedfkpaaIxk
namespace Go.Proofs.Ythggbohoedfkpaa
open Go.RowKit
set_option linter.unusedVariables false
set_option linter.unusedSimpArgs false
set_option maxRecDepth 100000
namespace Ix
theorem sl_cap {w : World} {g o c : Nat} {l : List En} (hs : Sl w (.slice (some ⟨g, o, none⟩) l.length c) l.length (ecs l)) : l.length ≤ c := by
  rcases hs with ⟨A', c2, h1, h2, _⟩ | ⟨g', o', c2, h1, h0, h2, h3, h4, h5⟩
  · omega
  · cases h1; exact h2
theorem sl_take {w : World} {g o c : Nat} {l : List En} (hs : Sl w (.slice (some ⟨g, o, none⟩) l.length c) l.length (ecs l)) (k : Nat) (hk : k ≤ l.length) : Sl w (.slice (some ⟨g, o, none⟩) k c) k (ecs (l.take k)) := by
  by_cases hk0 : k = 0
  · subst hk0; exact .inl ⟨_, _, rfl, rfl, by simp [ecs]⟩
  rcases hs with ⟨A', c2, h1, h2, _⟩ | ⟨g', o', c2, h1, h0, h2, h3, h4, h5⟩
  · omega
  · cases h1
    refine .inr ⟨g, o, c, rfl, by omega, by omega, h3, h4, fun j u hj => h5 j u ?_⟩
    rw [ecs_take _ _ hk, List.getElem?_take] at hj
    split at hj
    · exact hj
    · cases hj
theorem sl_drop {w : World} {g o c : Nat} {l : List En} (hs : Sl w (.slice (some ⟨g, o, none⟩) l.length c) l.length (ecs l)) (k : Nat) (hk : k ≤ l.length) (hc : ¬ c = k) : Sl w (.slice (some ⟨g, o + k * 14, none⟩) (l.length - k) (c - k)) (l.length - k) (ecs (l.drop k)) := by
  by_cases hk0 : k = l.length
  · subst hk0
    rw [Nat.sub_self]
    exact .inl ⟨_, _, rfl, rfl, by simp [ecs]⟩
  rcases hs with ⟨A', c2, h1, h2, _⟩ | ⟨g', o', c2, h1, h0, h2, h3, h4, h5⟩
  · omega
  · cases h1
    refine .inr ⟨g, o + k * 14, c - k, rfl, by omega, by omega, by omega, h4, fun j u hj => ?_⟩
    rw [Nat.add_assoc]
    refine h5 _ u ?_
    rw [ecs_drop _ _ hk, List.getElem?_drop] at hj
    exact hj
theorem sl_drope {w : World} {g o c : Nat} {l : List En} (hs : Sl w (.slice (some ⟨g, o, none⟩) l.length c) l.length (ecs l)) (k : Nat) (hk : k ≤ l.length) (hc : c = k) : Sl w (.slice (some ⟨g, o, none⟩) (l.length - k) (c - k)) (l.length - k) (ecs (l.drop k)) := by
  have := sl_cap hs
  obtain rfl : k = l.length := by omega
  rw [Nat.sub_self]
  exact .inl ⟨_, _, rfl, rfl, by simp [ecs]⟩
section
variable {w w1 : World}
set_option maxHeartbeats 4000000 in
theorem rdrop_some (g o n0 c : Nat) (l : List En) (t : Int) (k : ByteArray) (w : World) (hn : l.length = n0) (hs1 : Sl w (.slice (some ⟨g, o, none⟩) n0 c) n0 (ecs l)) (hl : l.length ≤ 90) :
    Calls Try.prog 36 #[.slice (some ⟨g, o, none⟩) n0 c, .int .i64 t, .string k] w fun e_ w' => ∃ v', e_ = .returned v' ∧ w'.ownsRow w.heap.size 52 14 v' (drp En.nm l (t, k.toList)).length (ecs (drp En.nm l (t, k.toList))) ∧ Frm0 w w' := by
  subst hn
  go_enter Try.func36, Try.ntmps36
  go_wp2_with fail
  refine (rplace_any _ l t k _ hs1 (by omega)).mono ?_
  rintro e1 w1 ⟨rfl, hF1⟩
  have hs1 := hs1.frm0 hF1
  have hple := place_le En.nm l (t, k.toList)
  obtain ⟨pl, hplE⟩ : ∃ pl, place En.nm l (t, k.toList) = pl := ⟨_, rfl⟩
  rw [hplE] at hple ⊢
  have HPL := Lib.hid hplE
  clear hplE
  have hnc : l.length ≤ c := sl_cap hs1
  have hp0 : (0 : Int) ≤ (pl : Int) := by omega
  have hp1 : (pl : Int) ≤ (c : Int) := by omega
  have hp2 : pl ≤ c := by omega
  have hFB := (Frm.refl (fun _ => False) w1).alloc (.cells #[] 52)
  have HO1 := Lib.hid (own_empty w1)
  have HS1 := Lib.hid ((sl_take (hs1) pl (by omega)).frm0 hFB)
  have HZ2 := Lib.hid (show w1.heap.size ≤ (w1.alloc (.cells #[] 52)).heap.size by first | (simp; done) | (simp; omega))
  go_upto_region 3 with ((refine wpList_append_sl rfl (.tmp 17) (.tmp 20) rfl EEn w1.heap.size (.slice (some ⟨w1.heap.size, 0, none⟩) 0 0) _ (0) (pl) ([]) (ecs (l.take pl)) rfl rfl HO1.out HS1.out (by first | rfl | (simp only [ecs_len, List.length_take, List.length_drop]; done) | (simp only [ecs_len, List.length_take, List.length_drop]; omega)) (ecs_one _) (by unfold maxLen; omega) (by omega) HZ2.out ?_; intro v2 w2 ho2 hf2 hb2))
  rw [List.nil_append, Nat.zero_add] at ho2
  obtain ⟨A2, c2, hv2⟩ := owns_nil_form' ho2
  subst hv2
  have hF2 : Frm0 w1 w2 := hFB.then_ hf2 (fun k hk h => by have h2 : w1.heap.size = k := Option.some.inj h; omega)
  have hsE := hs1.frm0 hF2
  have hszE := hF2.size
  have HZ4 := Lib.hid (show w1.heap.size ≤ w2.heap.size by omega)
  have HOE := Lib.hid ho2
  have hw1 : IntKind.i64.wrap ((pl : Int) + 1) = ((pl + 1 : Nat) : Int) := by rw [IntKind.wrap_i64]; omega
  cases hfd : found En.nm l ((t, k.toList))
  · have HFD := Lib.hid hfd
    skip
    clear hfd
    go_upto_region 5 with (fail)
    have hq0 : (0 : Int) ≤ ((pl : Nat) : Int) := by omega
    have hq1 : ((pl : Nat) : Int) ≤ (l.length : Int) := by omega
    have hq2 : pl ≤ l.length := by omega
    skip
    skip
    skip
    skip
    skip
    by_cases hcq : c = pl
    · have HS4 := Lib.hid (show Sl _ (.slice (some ⟨g, o, none⟩) (l.length - pl) 0) _ _ by have h9 := sl_drope hsE pl (by omega) hcq; rwa [show c - pl = 0 by omega] at h9)
      skip
      go_wp2_with (refine wpList_append_sl rfl (.tmp 25) (.tmp 28) rfl EEn w1.heap.size (.slice A2 pl c2) _ (pl) (l.length - pl) (ecs (l.take pl)) (ecs (l.drop pl)) rfl rfl HOE.out HS4.out (by first | rfl | (simp only [ecs_len, List.length_take, List.length_drop]; done) | (simp only [ecs_len, List.length_take, List.length_drop]; omega)) (ecs_one _) (by unfold maxLen; omega) (by omega) HZ4.out ?_; intro v4 w4 ho4 hf4 hb4)
      go_ret
      have hres : drp En.nm l (t, k.toList) = l.take pl ++ l.drop pl := by
        unfold drp
        rw [HPL.out, HFD.out]
        rw [if_neg (by decide), Nat.add_zero]
      refine ⟨v4, rfl, ?_, hF1.trans (hF2.then_ hf4 (fun k hk h => by have := HOE.out.lt k h; omega))⟩
      rw [hres]
      have hcs : ecs (l.take pl ++ l.drop pl) = ecs (l.take pl) ++ ecs (l.drop pl) := by
        rw [ecs_app]
      have hln : (l.take pl ++ l.drop pl).length = pl + (l.length - pl) := by
        simp only [List.length_append, List.length_cons, List.length_take, List.length_drop]; omega
      rw [hcs, hln]
      exact owns_base ho4 hF1.size
    · have HS4 := Lib.hid (sl_drop hsE pl (by omega) hcq)
      skip
      go_wp2_with (refine wpList_append_sl rfl (.tmp 25) (.tmp 28) rfl EEn w1.heap.size (.slice A2 pl c2) _ (pl) (l.length - pl) (ecs (l.take pl)) (ecs (l.drop pl)) rfl rfl HOE.out HS4.out (by first | rfl | (simp only [ecs_len, List.length_take, List.length_drop]; done) | (simp only [ecs_len, List.length_take, List.length_drop]; omega)) (ecs_one _) (by unfold maxLen; omega) (by omega) HZ4.out ?_; intro v4 w4 ho4 hf4 hb4)
      go_ret
      have hres : drp En.nm l (t, k.toList) = l.take pl ++ l.drop pl := by
        unfold drp
        rw [HPL.out, HFD.out]
        rw [if_neg (by decide), Nat.add_zero]
      refine ⟨v4, rfl, ?_, hF1.trans (hF2.then_ hf4 (fun k hk h => by have := HOE.out.lt k h; omega))⟩
      rw [hres]
      have hcs : ecs (l.take pl ++ l.drop pl) = ecs (l.take pl) ++ ecs (l.drop pl) := by
        rw [ecs_app]
      have hln : (l.take pl ++ l.drop pl).length = pl + (l.length - pl) := by
        simp only [List.length_append, List.length_cons, List.length_take, List.length_drop]; omega
      rw [hcs, hln]
      exact owns_base ho4 hF1.size
  · have HFD := Lib.hid hfd
    have hplt : pl + 1 ≤ l.length := by have := found_lt En.nm hfd; rw [HPL.out] at this; omega
    clear hfd
    go_upto_region 5 with (fail)
    have hq0 : (0 : Int) ≤ ((pl + 1 : Nat) : Int) := by omega
    have hq1 : ((pl + 1 : Nat) : Int) ≤ (l.length : Int) := by omega
    have hq2 : pl + 1 ≤ l.length := by omega
    rw [show (pl : Int) + 1 = ((pl + 1 : Nat) : Int) by omega]
    obtain ⟨q, hq⟩ : ∃ q, pl + 1 = q := ⟨_, rfl⟩
    rw [hq] at hq0 hq1 hq2 ⊢
    skip
    skip
    by_cases hcq : c = q
    · have HS4 := Lib.hid (show Sl _ (.slice (some ⟨g, o, none⟩) (l.length - q) 0) _ _ by have h9 := sl_drope hsE q (by omega) hcq; rwa [show c - q = 0 by omega] at h9)
      skip
      go_wp2_with (refine wpList_append_sl rfl (.tmp 25) (.tmp 28) rfl EEn w1.heap.size (.slice A2 pl c2) _ (pl) (l.length - q) (ecs (l.take pl)) (ecs (l.drop q)) rfl rfl HOE.out HS4.out (by first | rfl | (simp only [ecs_len, List.length_take, List.length_drop]; done) | (simp only [ecs_len, List.length_take, List.length_drop]; omega)) (ecs_one _) (by unfold maxLen; omega) (by omega) HZ4.out ?_; intro v4 w4 ho4 hf4 hb4)
      go_ret
      have hres : drp En.nm l (t, k.toList) = l.take pl ++ l.drop q := by
        unfold drp
        rw [HPL.out, HFD.out, ← hq]
        rw [if_pos rfl]
      refine ⟨v4, rfl, ?_, hF1.trans (hF2.then_ hf4 (fun k hk h => by have := HOE.out.lt k h; omega))⟩
      rw [hres]
      have hcs : ecs (l.take pl ++ l.drop q) = ecs (l.take pl) ++ ecs (l.drop q) := by
        rw [ecs_app]
      have hln : (l.take pl ++ l.drop q).length = pl + (l.length - q) := by
        simp only [List.length_append, List.length_cons, List.length_take, List.length_drop]; omega
      rw [hcs, hln]
      exact owns_base ho4 hF1.size
    · have HS4 := Lib.hid (sl_drop hsE q (by omega) hcq)
      skip
      go_wp2_with (refine wpList_append_sl rfl (.tmp 25) (.tmp 28) rfl EEn w1.heap.size (.slice A2 pl c2) _ (pl) (l.length - q) (ecs (l.take pl)) (ecs (l.drop q)) rfl rfl HOE.out HS4.out (by first | rfl | (simp only [ecs_len, List.length_take, List.length_drop]; done) | (simp only [ecs_len, List.length_take, List.length_drop]; omega)) (ecs_one _) (by unfold maxLen; omega) (by omega) HZ4.out ?_; intro v4 w4 ho4 hf4 hb4)
      go_ret
      have hres : drp En.nm l (t, k.toList) = l.take pl ++ l.drop q := by
        unfold drp
        rw [HPL.out, HFD.out, ← hq]
        rw [if_pos rfl]
      refine ⟨v4, rfl, ?_, hF1.trans (hF2.then_ hf4 (fun k hk h => by have := HOE.out.lt k h; omega))⟩
      rw [hres]
      have hcs : ecs (l.take pl ++ l.drop q) = ecs (l.take pl) ++ ecs (l.drop q) := by
        rw [ecs_app]
      have hln : (l.take pl ++ l.drop q).length = pl + (l.length - q) := by
        simp only [List.length_append, List.length_cons, List.length_take, List.length_drop]; omega
      rw [hcs, hln]
      exact owns_base ho4 hF1.size
  

set_option maxHeartbeats 4000000 in
theorem rput_some (g o n0 c : Nat) (l : List En) (e : En) (w : World) (hn : l.length = n0) (hs : Sl w (.slice (some ⟨g, o, none⟩) n0 c) n0 (ecs l)) (hl : l.length ≤ 90) :
    Calls Try.prog 29 #[.slice (some ⟨g, o, none⟩) n0 c, .agg e.cells.toArray] w fun e_ w' => ∃ v', e_ = .returned v' ∧ w'.ownsRow w.heap.size 52 14 v' (put En.nm l e).length (ecs (put En.nm l e)) ∧ Frm0 w w' := by
  subst hn
  have hb := Bk.new w (.cells e.cells.toArray 52)
  have hF := (Frm.refl (fun _ => False) w).alloc (.cells e.cells.toArray 52)
  have hs0 := hs.frm0 hF
  clear hs
  go_enter Try.func29, Try.ntmps29
  go_upto_region 1 with (fail)
  generalize w.alloc (.cells e.cells.toArray 52) = W at *
  have x0 : W.cell? ⟨w.heap.size, 0, none⟩ = some (.int .i64 e.tenant) := by rw [Bk.cell hb]; rfl
  have x1 : W.cell? ⟨w.heap.size, 1, none⟩ = some (.string e.key) := by rw [Bk.cell hb]; rfl
  go_wp2_with fail
  refine (rplace_any _ l e.tenant e.key _ hs0 (by omega)).mono ?_
  rintro e1 w1 ⟨rfl, hf1⟩
  have hs1 := hs0.frm0 hf1
  have hb1 := hf1.blk hb (fun h => h)
  have hF1 := hF.trans hf1
  clear hs0 hb hF hf1 x0 x1
  rw [show (e.tenant, e.key.toList) = e.nm from rfl]
  have hple := place_le En.nm l e.nm
  obtain ⟨pl, hplE⟩ : ∃ pl, place En.nm l e.nm = pl := ⟨_, rfl⟩
  rw [hplE] at hple ⊢
  have HPL := Lib.hid hplE
  clear hplE
  have hnc : l.length ≤ c := sl_cap hs1
  have hp0 : (0 : Int) ≤ (pl : Int) := by omega
  have hp1 : (pl : Int) ≤ (c : Int) := by omega
  have hp2 : pl ≤ c := by omega
  have hFB := (Frm.refl (fun _ => False) w1).alloc (.cells #[] 52)
  have HO1 := Lib.hid (own_empty w1)
  have HS1 := Lib.hid ((sl_take (hs1) pl (by omega)).frm0 hFB)
  have HZ2 := Lib.hid (show w1.heap.size ≤ (w1.alloc (.cells #[] 52)).heap.size by first | (simp; done) | (simp; omega))
  have hebB := hFB.blk hb1 (fun h => h)
  go_upto_region 3 with ((refine wpList_append_sl rfl (.tmp 17) (.tmp 20) rfl EEn w1.heap.size (.slice (some ⟨w1.heap.size, 0, none⟩) 0 0) _ (0) (pl) ([]) (ecs (l.take pl)) rfl rfl HO1.out HS1.out (by first | rfl | (simp only [ecs_len, List.length_take, List.length_drop]; done) | (simp only [ecs_len, List.length_take, List.length_drop]; omega)) (ecs_one _) (by unfold maxLen; omega) (by omega) HZ2.out ?_; intro v2 w2 ho2 hf2 hb2))
  rw [List.nil_append, Nat.zero_add] at ho2
  obtain ⟨A2, c2, hv2⟩ := owns_nil_form' ho2
  subst hv2
  have hF2 : Frm0 w1 w2 := hFB.then_ hf2 (fun k hk h => by have h2 : w1.heap.size = k := Option.some.inj h; omega)
  have hb2' := hF2.blk hb1 (fun h => h)
  have hFW := (Frm.refl (fun _ => False) w2).alloc (.cells #[.int .i64 e.tenant, .string e.key, .int .i64 e.state, .int .i64 e.epoch, .int .i64 e.token, .int .i64 e.point, .string e.print, .int .i64 e.lease, .int .i64 e.expiry, .int .i64 e.status, .string e.text, .string e.method, .string e.path, .string e.body] 52)
  have HO3 := Lib.hid (owns_frm0 ho2 hFW)
  have HS3 := Lib.hid (Sl.new w2 #[.int .i64 e.tenant, .string e.key, .int .i64 e.state, .int .i64 e.epoch, .int .i64 e.token, .int .i64 e.point, .string e.print, .int .i64 e.lease, .int .i64 e.expiry, .int .i64 e.status, .string e.text, .string e.method, .string e.path, .string e.body] 52 1 (by unfold maxLen; omega) (by omega))
  have hsz2 := hF2.size
  have HZ3 := Lib.hid (show w1.heap.size ≤ (w2.alloc (.cells #[.int .i64 e.tenant, .string e.key, .int .i64 e.state, .int .i64 e.epoch, .int .i64 e.token, .int .i64 e.point, .string e.print, .int .i64 e.lease, .int .i64 e.expiry, .int .i64 e.status, .string e.text, .string e.method, .string e.path, .string e.body] 52)).heap.size by first | (simp; done) | (simp; omega))
  go_upto_region 4 with (first
    | (refine wpList_load_blk rfl 52 (.tmp 3) rfl (l := [.int .i64 e.tenant, .string e.key, .int .i64 e.state, .int .i64 e.epoch, .int .i64 e.token, .int .i64 e.point, .string e.print, .int .i64 e.lease, .int .i64 e.expiry, .int .i64 e.status, .string e.text, .string e.method, .string e.path, .string e.body]) hb2' rfl Try.underlying52 rfl iE rfl ?_)
    | (refine wpList_append_sl rfl (.tmp 22) (.tmp 24) rfl EEn w1.heap.size (.slice A2 pl c2) _ (pl) (1) (ecs (l.take pl)) ([.int .i64 e.tenant, .string e.key, .int .i64 e.state, .int .i64 e.epoch, .int .i64 e.token, .int .i64 e.point, .string e.print, .int .i64 e.lease, .int .i64 e.expiry, .int .i64 e.status, .string e.text, .string e.method, .string e.path, .string e.body]) rfl rfl HO3.out HS3.out (by first | rfl | (simp only [ecs_len, List.length_take, List.length_drop]; done) | (simp only [ecs_len, List.length_take, List.length_drop]; omega)) (en_one e) (by unfold maxLen; omega) (by omega) HZ3.out ?_; intro v3 w3 ho3 hf3 hb3))
  obtain ⟨A3, c3, hv3⟩ := owns_nil_form' ho3
  subst hv3
  have hF3 : Frm0 w1 w3 := (hF2.trans hFW).then_ hf3 (fun k hk h => by have := HO3.out.lt k h; omega)
  have hsE := hs1.frm0 hF3
  have hszE := hF3.size
  have HZ4 := Lib.hid (show w1.heap.size ≤ w3.heap.size by omega)
  have HOE := Lib.hid ho3
  have hw1 : IntKind.i64.wrap ((pl : Int) + 1) = ((pl + 1 : Nat) : Int) := by rw [IntKind.wrap_i64]; omega
  cases hfd : found En.nm l (e.nm)
  · have HFD := Lib.hid hfd
    skip
    clear hfd
    go_upto_region 6 with (fail)
    have hq0 : (0 : Int) ≤ ((pl : Nat) : Int) := by omega
    have hq1 : ((pl : Nat) : Int) ≤ (l.length : Int) := by omega
    have hq2 : pl ≤ l.length := by omega
    skip
    skip
    skip
    skip
    skip
    by_cases hcq : c = pl
    · have HS4 := Lib.hid (show Sl _ (.slice (some ⟨g, o, none⟩) (l.length - pl) 0) _ _ by have h9 := sl_drope hsE pl (by omega) hcq; rwa [show c - pl = 0 by omega] at h9)
      skip
      go_wp2_with (refine wpList_append_sl rfl (.tmp 29) (.tmp 32) rfl EEn w1.heap.size (.slice A3 (pl + 1) c3) _ (pl + 1) (l.length - pl) (ecs (l.take pl) ++ [.int .i64 e.tenant, .string e.key, .int .i64 e.state, .int .i64 e.epoch, .int .i64 e.token, .int .i64 e.point, .string e.print, .int .i64 e.lease, .int .i64 e.expiry, .int .i64 e.status, .string e.text, .string e.method, .string e.path, .string e.body]) (ecs (l.drop pl)) rfl rfl HOE.out HS4.out (by first | rfl | (simp only [ecs_len, List.length_take, List.length_drop]; done) | (simp only [ecs_len, List.length_take, List.length_drop]; omega)) (ecs_one _) (by unfold maxLen; omega) (by omega) HZ4.out ?_; intro v4 w4 ho4 hf4 hb4)
      go_ret
      have hres : put En.nm l e = l.take pl ++ e :: l.drop pl := by
        unfold put
        rw [HPL.out, HFD.out]
        rw [if_neg (by decide), Nat.add_zero]
      refine ⟨v4, rfl, ?_, hF1.trans (hF3.then_ hf4 (fun k hk h => by have := HOE.out.lt k h; omega))⟩
      rw [hres]
      have hcs : ecs (l.take pl ++ e :: l.drop pl) = ecs (l.take pl) ++ [.int .i64 e.tenant, .string e.key, .int .i64 e.state, .int .i64 e.epoch, .int .i64 e.token, .int .i64 e.point, .string e.print, .int .i64 e.lease, .int .i64 e.expiry, .int .i64 e.status, .string e.text, .string e.method, .string e.path, .string e.body] ++ ecs (l.drop pl) := by
        rw [ecs_app]; simp [ecs, En.cells]
      have hln : (l.take pl ++ e :: l.drop pl).length = pl + 1 + (l.length - pl) := by
        simp only [List.length_append, List.length_cons, List.length_take, List.length_drop]; omega
      rw [hcs, hln]
      exact owns_base ho4 hF1.size
    · have HS4 := Lib.hid (sl_drop hsE pl (by omega) hcq)
      skip
      go_wp2_with (refine wpList_append_sl rfl (.tmp 29) (.tmp 32) rfl EEn w1.heap.size (.slice A3 (pl + 1) c3) _ (pl + 1) (l.length - pl) (ecs (l.take pl) ++ [.int .i64 e.tenant, .string e.key, .int .i64 e.state, .int .i64 e.epoch, .int .i64 e.token, .int .i64 e.point, .string e.print, .int .i64 e.lease, .int .i64 e.expiry, .int .i64 e.status, .string e.text, .string e.method, .string e.path, .string e.body]) (ecs (l.drop pl)) rfl rfl HOE.out HS4.out (by first | rfl | (simp only [ecs_len, List.length_take, List.length_drop]; done) | (simp only [ecs_len, List.length_take, List.length_drop]; omega)) (ecs_one _) (by unfold maxLen; omega) (by omega) HZ4.out ?_; intro v4 w4 ho4 hf4 hb4)
      go_ret
      have hres : put En.nm l e = l.take pl ++ e :: l.drop pl := by
        unfold put
        rw [HPL.out, HFD.out]
        rw [if_neg (by decide), Nat.add_zero]
      refine ⟨v4, rfl, ?_, hF1.trans (hF3.then_ hf4 (fun k hk h => by have := HOE.out.lt k h; omega))⟩
      rw [hres]
      have hcs : ecs (l.take pl ++ e :: l.drop pl) = ecs (l.take pl) ++ [.int .i64 e.tenant, .string e.key, .int .i64 e.state, .int .i64 e.epoch, .int .i64 e.token, .int .i64 e.point, .string e.print, .int .i64 e.lease, .int .i64 e.expiry, .int .i64 e.status, .string e.text, .string e.method, .string e.path, .string e.body] ++ ecs (l.drop pl) := by
        rw [ecs_app]; simp [ecs, En.cells]
      have hln : (l.take pl ++ e :: l.drop pl).length = pl + 1 + (l.length - pl) := by
        simp only [List.length_append, List.length_cons, List.length_take, List.length_drop]; omega
      rw [hcs, hln]
      exact owns_base ho4 hF1.size
  · have HFD := Lib.hid hfd
    have hplt : pl + 1 ≤ l.length := by have := found_lt En.nm hfd; rw [HPL.out] at this; omega
    clear hfd
    go_upto_region 6 with (fail)
    have hq0 : (0 : Int) ≤ ((pl + 1 : Nat) : Int) := by omega
    have hq1 : ((pl + 1 : Nat) : Int) ≤ (l.length : Int) := by omega
    have hq2 : pl + 1 ≤ l.length := by omega
    skip
    skip
    have hq5 : ((pl : Int) + 1).toNat = pl + 1 := by omega
    have hq6 : (0 : Int) ≤ (pl : Int) + 1 ∧ (pl : Int) + 1 ≤ (l.length : Int) := by omega
    obtain ⟨hq7, hq8⟩ := hq6
    by_cases hcq : c = (pl + 1)
    · have HS4 := Lib.hid (show Sl _ (.slice (some ⟨g, o, none⟩) (l.length - (pl + 1)) 0) _ _ by have h9 := sl_drope hsE (pl + 1) (by omega) hcq; rwa [show c - (pl + 1) = 0 by omega] at h9)
      skip
      go_wp2_with (refine wpList_append_sl rfl (.tmp 29) (.tmp 32) rfl EEn w1.heap.size (.slice A3 (pl + 1) c3) _ (pl + 1) (l.length - (pl + 1)) (ecs (l.take pl) ++ [.int .i64 e.tenant, .string e.key, .int .i64 e.state, .int .i64 e.epoch, .int .i64 e.token, .int .i64 e.point, .string e.print, .int .i64 e.lease, .int .i64 e.expiry, .int .i64 e.status, .string e.text, .string e.method, .string e.path, .string e.body]) (ecs (l.drop (pl + 1))) rfl rfl HOE.out HS4.out (by first | rfl | (simp only [ecs_len, List.length_take, List.length_drop]; done) | (simp only [ecs_len, List.length_take, List.length_drop]; omega)) (ecs_one _) (by unfold maxLen; omega) (by omega) HZ4.out ?_; intro v4 w4 ho4 hf4 hb4)
      go_ret
      have hres : put En.nm l e = l.take pl ++ e :: l.drop (pl + 1) := by
        unfold put
        rw [HPL.out, HFD.out]
        rw [if_pos rfl]
      refine ⟨v4, rfl, ?_, hF1.trans (hF3.then_ hf4 (fun k hk h => by have := HOE.out.lt k h; omega))⟩
      rw [hres]
      have hcs : ecs (l.take pl ++ e :: l.drop (pl + 1)) = ecs (l.take pl) ++ [.int .i64 e.tenant, .string e.key, .int .i64 e.state, .int .i64 e.epoch, .int .i64 e.token, .int .i64 e.point, .string e.print, .int .i64 e.lease, .int .i64 e.expiry, .int .i64 e.status, .string e.text, .string e.method, .string e.path, .string e.body] ++ ecs (l.drop (pl + 1)) := by
        rw [ecs_app]; simp [ecs, En.cells]
      have hln : (l.take pl ++ e :: l.drop (pl + 1)).length = pl + 1 + (l.length - (pl + 1)) := by
        simp only [List.length_append, List.length_cons, List.length_take, List.length_drop]; omega
      rw [hcs, hln]
      exact owns_base ho4 hF1.size
    · have HS4 := Lib.hid (sl_drop hsE (pl + 1) (by omega) hcq)
      skip
      go_wp2_with (refine wpList_append_sl rfl (.tmp 29) (.tmp 32) rfl EEn w1.heap.size (.slice A3 (pl + 1) c3) _ (pl + 1) (l.length - (pl + 1)) (ecs (l.take pl) ++ [.int .i64 e.tenant, .string e.key, .int .i64 e.state, .int .i64 e.epoch, .int .i64 e.token, .int .i64 e.point, .string e.print, .int .i64 e.lease, .int .i64 e.expiry, .int .i64 e.status, .string e.text, .string e.method, .string e.path, .string e.body]) (ecs (l.drop (pl + 1))) rfl rfl HOE.out HS4.out (by first | rfl | (simp only [ecs_len, List.length_take, List.length_drop]; done) | (simp only [ecs_len, List.length_take, List.length_drop]; omega)) (ecs_one _) (by unfold maxLen; omega) (by omega) HZ4.out ?_; intro v4 w4 ho4 hf4 hb4)
      go_ret
      have hres : put En.nm l e = l.take pl ++ e :: l.drop (pl + 1) := by
        unfold put
        rw [HPL.out, HFD.out]
        rw [if_pos rfl]
      refine ⟨v4, rfl, ?_, hF1.trans (hF3.then_ hf4 (fun k hk h => by have := HOE.out.lt k h; omega))⟩
      rw [hres]
      have hcs : ecs (l.take pl ++ e :: l.drop (pl + 1)) = ecs (l.take pl) ++ [.int .i64 e.tenant, .string e.key, .int .i64 e.state, .int .i64 e.epoch, .int .i64 e.token, .int .i64 e.point, .string e.print, .int .i64 e.lease, .int .i64 e.expiry, .int .i64 e.status, .string e.text, .string e.method, .string e.path, .string e.body] ++ ecs (l.drop (pl + 1)) := by
        rw [ecs_app]; simp [ecs, En.cells]
      have hln : (l.take pl ++ e :: l.drop (pl + 1)).length = pl + 1 + (l.length - (pl + 1)) := by
        simp only [List.length_append, List.length_cons, List.length_take, List.length_drop]; omega
      rw [hcs, hln]
      exact owns_base ho4 hF1.size
  

end
end Ix
end Go.Proofs.Ythggbohoedfkpaa
