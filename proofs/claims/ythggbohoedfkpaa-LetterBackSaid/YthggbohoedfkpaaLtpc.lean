/- Letters: what the reference opens, of one kind. -/
import Derived.Test.YthggbohoedfkpaaLtp
namespace Go.Proofs.Ythggbohoedfkpaa
open Go.RowKit Pk
set_option linter.unusedVariables false
set_option linter.unusedSimpArgs false
set_option maxRecDepth 100000
namespace Lt
section
variable {w w1 : World}
set_option maxHeartbeats 8000000 in
theorem ropen_k3 (s : ByteArray) (hs : s.size ≤ 10000) (hk : (rN (rN (s, false)).2).1 = 3) (w : World) : Calls Try.prog 18 #[.string s] w fun e w' => ∃ r : Option Ltr, e = ropened r ∧ Frm0 w w' ∧ OSpec s r := by
  have HK := Lib.hid hk
  clear hk
  have hz0 := Bk.new w (.cells #[.int .i64 0, .int .i64 0, .int .i64 0, .int .i64 0, .string ⟨#[]⟩, .string ⟨#[]⟩, .string ⟨#[]⟩, .string ⟨#[]⟩, .int .i64 0, .int .i64 0, .int .i64 0, .string ⟨#[]⟩, .int .i64 0, .int .i64 0, .int .i64 0, .string ⟨#[]⟩, .int .i64 0, .int .i64 0, .int .i64 0, .string ⟨#[]⟩, .string ⟨#[]⟩, .int .i64 0, .string ⟨#[]⟩, .int .i64 0, .int .i64 0, .int .i64 0, .int .i64 0] 31)
  have hF0 := (Frm.refl (fun _ => False) w).alloc (.cells #[.int .i64 0, .int .i64 0, .int .i64 0, .int .i64 0, .string ⟨#[]⟩, .string ⟨#[]⟩, .string ⟨#[]⟩, .string ⟨#[]⟩, .int .i64 0, .int .i64 0, .int .i64 0, .string ⟨#[]⟩, .int .i64 0, .int .i64 0, .int .i64 0, .string ⟨#[]⟩, .int .i64 0, .int .i64 0, .int .i64 0, .string ⟨#[]⟩, .string ⟨#[]⟩, .int .i64 0, .string ⟨#[]⟩, .int .i64 0, .int .i64 0, .int .i64 0, .int .i64 0] 31)
  have hr1 := ((Frm.refl (fun _ => False) (w.alloc (.cells #[.int .i64 0, .int .i64 0, .int .i64 0, .int .i64 0, .string ⟨#[]⟩, .string ⟨#[]⟩, .string ⟨#[]⟩, .string ⟨#[]⟩, .int .i64 0, .int .i64 0, .int .i64 0, .string ⟨#[]⟩, .int .i64 0, .int .i64 0, .int .i64 0, .string ⟨#[]⟩, .int .i64 0, .int .i64 0, .int .i64 0, .string ⟨#[]⟩, .string ⟨#[]⟩, .int .i64 0, .string ⟨#[]⟩, .int .i64 0, .int .i64 0, .int .i64 0, .int .i64 0] 31))).alloc (.cells #[.string s, .bool false] 99)).blk hz0 (fun h => h)
  have hdk1 := Bk.new (w.alloc (.cells #[.int .i64 0, .int .i64 0, .int .i64 0, .int .i64 0, .string ⟨#[]⟩, .string ⟨#[]⟩, .string ⟨#[]⟩, .string ⟨#[]⟩, .int .i64 0, .int .i64 0, .int .i64 0, .string ⟨#[]⟩, .int .i64 0, .int .i64 0, .int .i64 0, .string ⟨#[]⟩, .int .i64 0, .int .i64 0, .int .i64 0, .string ⟨#[]⟩, .string ⟨#[]⟩, .int .i64 0, .string ⟨#[]⟩, .int .i64 0, .int .i64 0, .int .i64 0, .int .i64 0] 31)) (.cells #[.string s, .bool false] 99)
  rw [show (w.alloc (.cells #[.int .i64 0, .int .i64 0, .int .i64 0, .int .i64 0, .string ⟨#[]⟩, .string ⟨#[]⟩, .string ⟨#[]⟩, .string ⟨#[]⟩, .int .i64 0, .int .i64 0, .int .i64 0, .string ⟨#[]⟩, .int .i64 0, .int .i64 0, .int .i64 0, .string ⟨#[]⟩, .int .i64 0, .int .i64 0, .int .i64 0, .string ⟨#[]⟩, .string ⟨#[]⟩, .int .i64 0, .string ⟨#[]⟩, .int .i64 0, .int .i64 0, .int .i64 0, .int .i64 0] 31)).heap.size = w.heap.size + 1 by simp] at hdk1
  have hF1 := hF0.alloc (.cells #[.string s, .bool false] 99)
  go_enter Try.func18, Try.ntmps18
  go_wp2_with fail
  clear hz0 hF0
  generalize (w.alloc (.cells #[.int .i64 0, .int .i64 0, .int .i64 0, .int .i64 0, .string ⟨#[]⟩, .string ⟨#[]⟩, .string ⟨#[]⟩, .string ⟨#[]⟩, .int .i64 0, .int .i64 0, .int .i64 0, .string ⟨#[]⟩, .int .i64 0, .int .i64 0, .int .i64 0, .string ⟨#[]⟩, .int .i64 0, .int .i64 0, .int .i64 0, .string ⟨#[]⟩, .string ⟨#[]⟩, .int .i64 0, .string ⟨#[]⟩, .int .i64 0, .int .i64 0, .int .i64 0, .int .i64 0] 31)).alloc (.cells #[.string s, .bool false] 99) = w2 at *
  obtain ⟨tb, htb⟩ : ∃ tb, w.heap.size = tb := ⟨_, rfl⟩
  generalize hrb : w.heap.size + 1 = rb at *
  rw [htb] at hrb hr1
  have hR : RS w2 rb (s, false) := ⟨hdk1, hs⟩
  clear hdk1
  obtain ⟨one, stA, eA⟩ : ∃ x st', rN (s, false) = (x, st') := ⟨_, _, rfl⟩
  refine (rrnum_any hR eA).mono ?_
  rintro e w3 ⟨rfl, hR3, hf3⟩
  have hr3 := hf3.blk hr1 (show ¬ tb = rb by omega)
  have hF3 := hF1.then_ hf3 (fun i hi e => by omega)
  clear hR hr1 hF1 hf3 w2
  go_wp2_with fail
  obtain ⟨kd, stB, eB⟩ : ∃ x st', rN stA = (x, st') := ⟨_, _, rfl⟩
  have hk := HK.out
  rw [eA, eB] at hk
  have HK2 := Lib.hid hk
  clear hk
  have hd2 : rdecs [.n 1, .n 4] (s, false) = ([.i (one : Nat), .i (kd : Nat)], stB) := by simp only [rdecs, Fl.rdec, eA, eB]
  refine (rrnum_any hR3 eB).mono ?_
  rintro e w4 ⟨rfl, hR4, hf4⟩
  have hr4 := hf4.blk hr3 (show ¬ tb = rb by omega)
  have hF4 := hF3.then_ hf4 (fun i hi e => by omega)
  have hrlt := Bk.lt hR4.dk
  clear eA eB hR3 hr3 hF3 hf4 w3
  have hz5 := Bk.new w4 (.cells #[.int .i64 0, .int .i64 0, .int .i64 0, .int .i64 0, .string ⟨#[]⟩, .string ⟨#[]⟩, .string ⟨#[]⟩, .string ⟨#[]⟩, .int .i64 0, .int .i64 0, .int .i64 0, .string ⟨#[]⟩, .int .i64 0, .int .i64 0, .int .i64 0, .string ⟨#[]⟩, .int .i64 0, .int .i64 0, .int .i64 0, .string ⟨#[]⟩, .string ⟨#[]⟩, .int .i64 0, .string ⟨#[]⟩, .int .i64 0, .int .i64 0, .int .i64 0, .int .i64 0] 31)
  have hf5 := (Frm.refl (fun _ => False) w4).alloc (.cells #[.int .i64 0, .int .i64 0, .int .i64 0, .int .i64 0, .string ⟨#[]⟩, .string ⟨#[]⟩, .string ⟨#[]⟩, .string ⟨#[]⟩, .int .i64 0, .int .i64 0, .int .i64 0, .string ⟨#[]⟩, .int .i64 0, .int .i64 0, .int .i64 0, .string ⟨#[]⟩, .int .i64 0, .int .i64 0, .int .i64 0, .string ⟨#[]⟩, .string ⟨#[]⟩, .int .i64 0, .string ⟨#[]⟩, .int .i64 0, .int .i64 0, .int .i64 0, .int .i64 0] 31)
  have hr5 := hf5.blk hr4 (fun h => h)
  have hR5 := hR4.frm hf5 (fun h => h)
  have hF5 := hF4.trans hf5
  clear hf5 hr4 hR4 hF4
  go_upto_region 4 with (refine wpList_store_blk rfl 31 (.tmp 6) (.tmp 14) rfl hz5 rfl rfl iL (us := #[.int .i64 (kd : Nat), .int .i64 0, .int .i64 0, .int .i64 0, .string ⟨#[]⟩, .string ⟨#[]⟩, .string ⟨#[]⟩, .string ⟨#[]⟩, .int .i64 0, .int .i64 0, .int .i64 0, .string ⟨#[]⟩, .int .i64 0, .int .i64 0, .int .i64 0, .string ⟨#[]⟩, .int .i64 0, .int .i64 0, .int .i64 0, .string ⟨#[]⟩, .string ⟨#[]⟩, .int .i64 0, .string ⟨#[]⟩, .int .i64 0, .int .i64 0, .int .i64 0, .int .i64 0]) rfl rfl rfl ?_; intro w5 hb hf6)
  generalize w4.alloc (.cells #[.int .i64 0, .int .i64 0, .int .i64 0, .int .i64 0, .string ⟨#[]⟩, .string ⟨#[]⟩, .string ⟨#[]⟩, .string ⟨#[]⟩, .int .i64 0, .int .i64 0, .int .i64 0, .string ⟨#[]⟩, .int .i64 0, .int .i64 0, .int .i64 0, .string ⟨#[]⟩, .int .i64 0, .int .i64 0, .int .i64 0, .string ⟨#[]⟩, .string ⟨#[]⟩, .int .i64 0, .string ⟨#[]⟩, .int .i64 0, .int .i64 0, .int .i64 0, .int .i64 0] 31) = w4' at *
  generalize w4.heap.size = lb at *
  have hr := hf6.blk hr5 (show ¬ tb = lb by omega)
  have hR := hR5.frm hf6 (show ¬ rb = lb by omega)
  have hF := hF5.then_ hf6 (fun i hi e => by omega)
  clear hz5 hr5 hR5 hF5 hf6
  have cK : w5.cell? ⟨lb, 0, none⟩ = some (.int .i64 (kd : Nat)) := by rw [Bk.cell hb]; rfl
  have k3 : kd = 3 := HK2.out
  subst k3
  have hb : w5.heap[lb]? = some (.cells #[.int .i64 3, .int .i64 0, .int .i64 0, .int .i64 0, .string ⟨#[]⟩, .string ⟨#[]⟩, .string ⟨#[]⟩, .string ⟨#[]⟩, .int .i64 0, .int .i64 0, .int .i64 0, .string ⟨#[]⟩, .int .i64 0, .int .i64 0, .int .i64 0, .string ⟨#[]⟩, .int .i64 0, .int .i64 0, .int .i64 0, .string ⟨#[]⟩, .string ⟨#[]⟩, .int .i64 0, .string ⟨#[]⟩, .int .i64 0, .int .i64 0, .int .i64 0, .int .i64 0] 31 (0, 0)) := hb
  have hd2 : rdecs [.n 1, .n 4] (s, false) = ([.i (one : Nat), .i 3], stB) := hd2
  have cK : w5.cell? ⟨lb, 0, none⟩ = some (.int .i64 3) := cK
  go_wp2_with fail
  obtain ⟨x0, st0, e0⟩ : ∃ x st', rN stB = (x, st') := ⟨_, _, rfl⟩
  refine (rrnum_any hR e0).mono ?_
  rintro e w6 ⟨rfl, hR, hf6⟩
  have hb := hf6.blk hb (show ¬ lb = rb by omega)
  have hr := hf6.blk hr (show ¬ tb = rb by omega)
  have hF := hF.then_ hf6 (fun i hi e => by omega)
  have c0 : w6.cell? ⟨lb, 14, none⟩ = some (.int .i64 0) := by rw [Bk.cell hb]; rfl
  have c1 := Bk.frozen hb 14
  have cK : w6.cell? ⟨lb, 0, none⟩ = some (.int .i64 3) := by rw [Bk.cell hb]; rfl
  clear hf6
  go_wp2_with fail
  have hs6 : Frm (fun k => k = lb) w6 (w6.setCell ⟨lb, 14, none⟩ (.int .i64 (x0 : Nat))) := (Frm.refl _ w6).set1 14 _
  have hR := hR.frm hs6 (fun e => by omega)
  have hr := hs6.blk hr (fun e => by omega)
  have hF := hF.then_ hs6 (fun i hi e => by omega)
  have hb' := Bk.set hb 14 (.int .i64 (x0 : Nat))
  have hb : (w6.setCell ⟨lb, 14, none⟩ (.int .i64 (x0 : Nat))).heap[lb]? = some (.cells #[.int .i64 3, .int .i64 0, .int .i64 0, .int .i64 0, .string ⟨#[]⟩, .string ⟨#[]⟩, .string ⟨#[]⟩, .string ⟨#[]⟩, .int .i64 0, .int .i64 0, .int .i64 0, .string ⟨#[]⟩, .int .i64 0, .int .i64 0, .int .i64 (x0 : Nat), .string ⟨#[]⟩, .int .i64 0, .int .i64 0, .int .i64 0, .string ⟨#[]⟩, .string ⟨#[]⟩, .int .i64 0, .string ⟨#[]⟩, .int .i64 0, .int .i64 0, .int .i64 0, .int .i64 0] 31 (0, 0)) := by
    rw [hb']
    simp only [List.setIfInBounds_toArray, List.set_cons_zero, List.set_cons_succ]
  clear hb' hs6 c0 c1 cK
  generalize w6.setCell ⟨lb, 14, none⟩ (.int .i64 (x0 : Nat)) = w7 at *
  obtain ⟨x1, st1, e1⟩ : ∃ x st', rT st0 = (x, st') := ⟨_, _, rfl⟩
  refine (rrtext_any hR e1).mono ?_
  rintro e w6 ⟨rfl, hR, hf6⟩
  have hb := hf6.blk hb (show ¬ lb = rb by omega)
  have hr := hf6.blk hr (show ¬ tb = rb by omega)
  have hF := hF.then_ hf6 (fun i hi e => by omega)
  have c0 : w6.cell? ⟨lb, 15, none⟩ = some (.string ⟨#[]⟩) := by rw [Bk.cell hb]; rfl
  have c1 := Bk.frozen hb 15
  have cK : w6.cell? ⟨lb, 0, none⟩ = some (.int .i64 3) := by rw [Bk.cell hb]; rfl
  clear hf6
  go_wp2_with fail
  have hs6 : Frm (fun k => k = lb) w6 (w6.setCell ⟨lb, 15, none⟩ (.string x1)) := (Frm.refl _ w6).set1 15 _
  have hR := hR.frm hs6 (fun e => by omega)
  have hr := hs6.blk hr (fun e => by omega)
  have hF := hF.then_ hs6 (fun i hi e => by omega)
  have hb' := Bk.set hb 15 (.string x1)
  have hb : (w6.setCell ⟨lb, 15, none⟩ (.string x1)).heap[lb]? = some (.cells #[.int .i64 3, .int .i64 0, .int .i64 0, .int .i64 0, .string ⟨#[]⟩, .string ⟨#[]⟩, .string ⟨#[]⟩, .string ⟨#[]⟩, .int .i64 0, .int .i64 0, .int .i64 0, .string ⟨#[]⟩, .int .i64 0, .int .i64 0, .int .i64 (x0 : Nat), .string x1, .int .i64 0, .int .i64 0, .int .i64 0, .string ⟨#[]⟩, .string ⟨#[]⟩, .int .i64 0, .string ⟨#[]⟩, .int .i64 0, .int .i64 0, .int .i64 0, .int .i64 0] 31 (0, 0)) := by
    rw [hb']
    simp only [List.setIfInBounds_toArray, List.set_cons_zero, List.set_cons_succ]
  clear hb' hs6 c0 c1 cK
  generalize w6.setCell ⟨lb, 15, none⟩ (.string x1) = w7 at *
  obtain ⟨x2, st2, e2⟩ : ∃ x st', rN st1 = (x, st') := ⟨_, _, rfl⟩
  refine (rrnum_any hR e2).mono ?_
  rintro e w6 ⟨rfl, hR, hf6⟩
  have hb := hf6.blk hb (show ¬ lb = rb by omega)
  have hr := hf6.blk hr (show ¬ tb = rb by omega)
  have hF := hF.then_ hf6 (fun i hi e => by omega)
  have c0 : w6.cell? ⟨lb, 16, none⟩ = some (.int .i64 0) := by rw [Bk.cell hb]; rfl
  have c1 := Bk.frozen hb 16
  have cK : w6.cell? ⟨lb, 0, none⟩ = some (.int .i64 3) := by rw [Bk.cell hb]; rfl
  clear hf6
  go_wp2_with fail
  have hs6 : Frm (fun k => k = lb) w6 (w6.setCell ⟨lb, 16, none⟩ (.int .i64 (x2 : Nat))) := (Frm.refl _ w6).set1 16 _
  have hR := hR.frm hs6 (fun e => by omega)
  have hr := hs6.blk hr (fun e => by omega)
  have hF := hF.then_ hs6 (fun i hi e => by omega)
  have hb' := Bk.set hb 16 (.int .i64 (x2 : Nat))
  have hb : (w6.setCell ⟨lb, 16, none⟩ (.int .i64 (x2 : Nat))).heap[lb]? = some (.cells #[.int .i64 3, .int .i64 0, .int .i64 0, .int .i64 0, .string ⟨#[]⟩, .string ⟨#[]⟩, .string ⟨#[]⟩, .string ⟨#[]⟩, .int .i64 0, .int .i64 0, .int .i64 0, .string ⟨#[]⟩, .int .i64 0, .int .i64 0, .int .i64 (x0 : Nat), .string x1, .int .i64 (x2 : Nat), .int .i64 0, .int .i64 0, .string ⟨#[]⟩, .string ⟨#[]⟩, .int .i64 0, .string ⟨#[]⟩, .int .i64 0, .int .i64 0, .int .i64 0, .int .i64 0] 31 (0, 0)) := by
    rw [hb']
    simp only [List.setIfInBounds_toArray, List.set_cons_zero, List.set_cons_succ]
  clear hb' hs6 c0 c1 cK
  generalize w6.setCell ⟨lb, 16, none⟩ (.int .i64 (x2 : Nat)) = w7 at *
  obtain ⟨x3, st3, e3⟩ : ∃ x st', rN st2 = (x, st') := ⟨_, _, rfl⟩
  refine (rrnum_any hR e3).mono ?_
  rintro e w6 ⟨rfl, hR, hf6⟩
  have hb := hf6.blk hb (show ¬ lb = rb by omega)
  have hr := hf6.blk hr (show ¬ tb = rb by omega)
  have hF := hF.then_ hf6 (fun i hi e => by omega)
  have c0 : w6.cell? ⟨lb, 17, none⟩ = some (.int .i64 0) := by rw [Bk.cell hb]; rfl
  have c1 := Bk.frozen hb 17
  have cK : w6.cell? ⟨lb, 0, none⟩ = some (.int .i64 3) := by rw [Bk.cell hb]; rfl
  clear hf6
  go_wp2_with fail
  have hs6 : Frm (fun k => k = lb) w6 (w6.setCell ⟨lb, 17, none⟩ (.int .i64 (x3 : Nat))) := (Frm.refl _ w6).set1 17 _
  have hR := hR.frm hs6 (fun e => by omega)
  have hr := hs6.blk hr (fun e => by omega)
  have hF := hF.then_ hs6 (fun i hi e => by omega)
  have hb' := Bk.set hb 17 (.int .i64 (x3 : Nat))
  have hb : (w6.setCell ⟨lb, 17, none⟩ (.int .i64 (x3 : Nat))).heap[lb]? = some (.cells #[.int .i64 3, .int .i64 0, .int .i64 0, .int .i64 0, .string ⟨#[]⟩, .string ⟨#[]⟩, .string ⟨#[]⟩, .string ⟨#[]⟩, .int .i64 0, .int .i64 0, .int .i64 0, .string ⟨#[]⟩, .int .i64 0, .int .i64 0, .int .i64 (x0 : Nat), .string x1, .int .i64 (x2 : Nat), .int .i64 (x3 : Nat), .int .i64 0, .string ⟨#[]⟩, .string ⟨#[]⟩, .int .i64 0, .string ⟨#[]⟩, .int .i64 0, .int .i64 0, .int .i64 0, .int .i64 0] 31 (0, 0)) := by
    rw [hb']
    simp only [List.setIfInBounds_toArray, List.set_cons_zero, List.set_cons_succ]
  clear hb' hs6 c0 c1 cK
  generalize w6.setCell ⟨lb, 17, none⟩ (.int .i64 (x3 : Nat)) = w7 at *
  obtain ⟨x4, st4, e4⟩ : ∃ x st', rN st3 = (x, st') := ⟨_, _, rfl⟩
  refine (rrnum_any hR e4).mono ?_
  rintro e w6 ⟨rfl, hR, hf6⟩
  have hb := hf6.blk hb (show ¬ lb = rb by omega)
  have hr := hf6.blk hr (show ¬ tb = rb by omega)
  have hF := hF.then_ hf6 (fun i hi e => by omega)
  have c0 : w6.cell? ⟨lb, 18, none⟩ = some (.int .i64 0) := by rw [Bk.cell hb]; rfl
  have c1 := Bk.frozen hb 18
  have cK : w6.cell? ⟨lb, 0, none⟩ = some (.int .i64 3) := by rw [Bk.cell hb]; rfl
  clear hf6
  go_wp2_with fail
  have hs6 : Frm (fun k => k = lb) w6 (w6.setCell ⟨lb, 18, none⟩ (.int .i64 (x4 : Nat))) := (Frm.refl _ w6).set1 18 _
  have hR := hR.frm hs6 (fun e => by omega)
  have hr := hs6.blk hr (fun e => by omega)
  have hF := hF.then_ hs6 (fun i hi e => by omega)
  have hb' := Bk.set hb 18 (.int .i64 (x4 : Nat))
  have hb : (w6.setCell ⟨lb, 18, none⟩ (.int .i64 (x4 : Nat))).heap[lb]? = some (.cells #[.int .i64 3, .int .i64 0, .int .i64 0, .int .i64 0, .string ⟨#[]⟩, .string ⟨#[]⟩, .string ⟨#[]⟩, .string ⟨#[]⟩, .int .i64 0, .int .i64 0, .int .i64 0, .string ⟨#[]⟩, .int .i64 0, .int .i64 0, .int .i64 (x0 : Nat), .string x1, .int .i64 (x2 : Nat), .int .i64 (x3 : Nat), .int .i64 (x4 : Nat), .string ⟨#[]⟩, .string ⟨#[]⟩, .int .i64 0, .string ⟨#[]⟩, .int .i64 0, .int .i64 0, .int .i64 0, .int .i64 0] 31 (0, 0)) := by
    rw [hb']
    simp only [List.setIfInBounds_toArray, List.set_cons_zero, List.set_cons_succ]
  clear hb' hs6 c0 c1 cK
  generalize w6.setCell ⟨lb, 18, none⟩ (.int .i64 (x4 : Nat)) = w7 at *
  obtain ⟨x5, st5, e5⟩ : ∃ x st', rT st4 = (x, st') := ⟨_, _, rfl⟩
  refine (rrtext_any hR e5).mono ?_
  rintro e w6 ⟨rfl, hR, hf6⟩
  have hb := hf6.blk hb (show ¬ lb = rb by omega)
  have hr := hf6.blk hr (show ¬ tb = rb by omega)
  have hF := hF.then_ hf6 (fun i hi e => by omega)
  have c0 : w6.cell? ⟨lb, 19, none⟩ = some (.string ⟨#[]⟩) := by rw [Bk.cell hb]; rfl
  have c1 := Bk.frozen hb 19
  have cK : w6.cell? ⟨lb, 0, none⟩ = some (.int .i64 3) := by rw [Bk.cell hb]; rfl
  clear hf6
  go_wp2_with fail
  have hs6 : Frm (fun k => k = lb) w6 (w6.setCell ⟨lb, 19, none⟩ (.string x5)) := (Frm.refl _ w6).set1 19 _
  have hR := hR.frm hs6 (fun e => by omega)
  have hr := hs6.blk hr (fun e => by omega)
  have hF := hF.then_ hs6 (fun i hi e => by omega)
  have hb' := Bk.set hb 19 (.string x5)
  have hb : (w6.setCell ⟨lb, 19, none⟩ (.string x5)).heap[lb]? = some (.cells #[.int .i64 3, .int .i64 0, .int .i64 0, .int .i64 0, .string ⟨#[]⟩, .string ⟨#[]⟩, .string ⟨#[]⟩, .string ⟨#[]⟩, .int .i64 0, .int .i64 0, .int .i64 0, .string ⟨#[]⟩, .int .i64 0, .int .i64 0, .int .i64 (x0 : Nat), .string x1, .int .i64 (x2 : Nat), .int .i64 (x3 : Nat), .int .i64 (x4 : Nat), .string x5, .string ⟨#[]⟩, .int .i64 0, .string ⟨#[]⟩, .int .i64 0, .int .i64 0, .int .i64 0, .int .i64 0] 31 (0, 0)) := by
    rw [hb']
    simp only [List.setIfInBounds_toArray, List.set_cons_zero, List.set_cons_succ]
  clear hb' hs6 c0 c1 cK
  generalize w6.setCell ⟨lb, 19, none⟩ (.string x5) = w7 at *
  obtain ⟨x6, st6, e6⟩ : ∃ x st', rT st5 = (x, st') := ⟨_, _, rfl⟩
  refine (rrtext_any hR e6).mono ?_
  rintro e w6 ⟨rfl, hR, hf6⟩
  have hb := hf6.blk hb (show ¬ lb = rb by omega)
  have hr := hf6.blk hr (show ¬ tb = rb by omega)
  have hF := hF.then_ hf6 (fun i hi e => by omega)
  have c0 : w6.cell? ⟨lb, 20, none⟩ = some (.string ⟨#[]⟩) := by rw [Bk.cell hb]; rfl
  have c1 := Bk.frozen hb 20
  have cK : w6.cell? ⟨lb, 0, none⟩ = some (.int .i64 3) := by rw [Bk.cell hb]; rfl
  clear hf6
  go_upto_region 33 with (fail)
  have hs6 : Frm (fun k => k = lb) w6 (w6.setCell ⟨lb, 20, none⟩ (.string x6)) := (Frm.refl _ w6).set1 20 _
  have hR := hR.frm hs6 (fun e => by omega)
  have hr := hs6.blk hr (fun e => by omega)
  have hF := hF.then_ hs6 (fun i hi e => by omega)
  have hb' := Bk.set hb 20 (.string x6)
  have hb : (w6.setCell ⟨lb, 20, none⟩ (.string x6)).heap[lb]? = some (.cells #[.int .i64 3, .int .i64 0, .int .i64 0, .int .i64 0, .string ⟨#[]⟩, .string ⟨#[]⟩, .string ⟨#[]⟩, .string ⟨#[]⟩, .int .i64 0, .int .i64 0, .int .i64 0, .string ⟨#[]⟩, .int .i64 0, .int .i64 0, .int .i64 (x0 : Nat), .string x1, .int .i64 (x2 : Nat), .int .i64 (x3 : Nat), .int .i64 (x4 : Nat), .string x5, .string x6, .int .i64 0, .string ⟨#[]⟩, .int .i64 0, .int .i64 0, .int .i64 0, .int .i64 0] 31 (0, 0)) := by
    rw [hb']
    simp only [List.setIfInBounds_toArray, List.set_cons_zero, List.set_cons_succ]
  clear hb' hs6 c0 c1 cK
  generalize w6.setCell ⟨lb, 20, none⟩ (.string x6) = w7 at *
  have hdk : rdecs (sch 3) stB = ([.i (x0 : Nat), .s x1, .i (x2 : Nat), .i (x3 : Nat), .i (x4 : Nat), .s x5, .s x6], st6) := by rw [sch3]; simp only [rdecs, Fl.rdec, e0, e1, e2, e3, e4, e5, e6]
  obtain ⟨s', bad, hst⟩ : ∃ s' bad, st6 = (s', bad) := ⟨_, _, rfl⟩
  rw [hst] at hR hdk
  have hd3 : rdecs (.n 1 :: .n 4 :: sch 3) (s, false) = (.i (one : Nat) :: .i 3 :: [.i (x0 : Nat), .s x1, .i (x2 : Nat), .i (x3 : Nat), .i (x4 : Nat), .s x5, .s x6], (s', bad)) := by
    have h3 := hd2
    simp only [rdecs, Prod.mk.injEq, List.cons.injEq, and_true] at h3
    obtain ⟨⟨g1, g2⟩, g3⟩ := h3
    rw [rdecs, rdecs, g3, hdk, g1, g2]; try rfl
  obtain ⟨d0, d1⟩ := Bk.c2 hR.dk
  simp only at d0 d1
  clear hd2 hdk e0 e1 e2 e3 e4 e5 e6
  cases bad
  · by_cases h1 : one = 1
    · have q1 : ((one : Int) == 1) = true := by rw [h1]; rfl
      have q2 : ((one : Int) != 1) = false := by rw [h1]; rfl
      have q3 : (one == 1) = true := by rw [h1]; rfl
      have q4 : (one != 1) = false := by rw [h1]; rfl
      go_wp2_with (first | (refine wpList_load_blk_g (by rfl) 31 (.tmp 6) rfl (l := [.int .i64 3, .int .i64 0, .int .i64 0, .int .i64 0, .string ⟨#[]⟩, .string ⟨#[]⟩, .string ⟨#[]⟩, .string ⟨#[]⟩, .int .i64 0, .int .i64 0, .int .i64 0, .string ⟨#[]⟩, .int .i64 0, .int .i64 0, .int .i64 (x0 : Nat), .string x1, .int .i64 (x2 : Nat), .int .i64 (x3 : Nat), .int .i64 (x4 : Nat), .string x5, .string x6, .int .i64 0, .string ⟨#[]⟩, .int .i64 0, .int .i64 0, .int .i64 0, .int .i64 0]) hb rfl Try.underlying31 rfl iL rfl ?_))
      obtain ⟨ok, hok⟩ : ∃ ok : Bool, ok = true ↔ (⟨3, rq0, an0, ⟨x0, x1, x2, x3, x4, x5, x6⟩, rp0⟩ : Ltr) = alone (⟨3, rq0, an0, ⟨x0, x1, x2, x3, x4, x5, x6⟩, rp0⟩ : Ltr) := ex_ok _
      refine (rmay_any (⟨3, rq0, an0, ⟨x0, x1, x2, x3, x4, x5, x6⟩, rp0⟩ : Ltr) ok hok _).mono ?_
      rintro e w8 ⟨rfl, hf8⟩
      have hb := hf8.blk hb (fun h => h)
      have hr := hf8.blk hr (fun h => h)
      have hF := hF.then0 hf8
      cases hch : chk ok (⟨3, rq0, an0, ⟨x0, x1, x2, x3, x4, x5, x6⟩, rp0⟩ : Ltr)
      · go_wp2_with (first
          | (refine wpList_store_blk rfl 31 (.tmp 2) (.tmp 147) rfl hr rfl rfl iL (us := #[.int .i64 0, .int .i64 0, .int .i64 0, .int .i64 0, .string ⟨#[]⟩, .string ⟨#[]⟩, .string ⟨#[]⟩, .string ⟨#[]⟩, .int .i64 0, .int .i64 0, .int .i64 0, .string ⟨#[]⟩, .int .i64 0, .int .i64 0, .int .i64 0, .string ⟨#[]⟩, .int .i64 0, .int .i64 0, .int .i64 0, .string ⟨#[]⟩, .string ⟨#[]⟩, .int .i64 0, .string ⟨#[]⟩, .int .i64 0, .int .i64 0, .int .i64 0, .int .i64 0]) rfl rfl rfl ?_; intro w9 hb9 hf9))
        (try simp only [Exit.inBlock, Exit.then])
        refine ret_cell1 (l := [.int .i64 0, .int .i64 0, .int .i64 0, .int .i64 0, .string ⟨#[]⟩, .string ⟨#[]⟩, .string ⟨#[]⟩, .string ⟨#[]⟩, .int .i64 0, .int .i64 0, .int .i64 0, .string ⟨#[]⟩, .int .i64 0, .int .i64 0, .int .i64 0, .string ⟨#[]⟩, .int .i64 0, .int .i64 0, .int .i64 0, .string ⟨#[]⟩, .string ⟨#[]⟩, .int .i64 0, .string ⟨#[]⟩, .int .i64 0, .int .i64 0, .int .i64 0, .int .i64 0]) rfl Try.underlying31 rfl iL hb9 rfl rfl rfl rfl ?_
        exact ⟨none, rfl, hF.then_ hf9 (fun i hi e => by omega), rspec_none (k := 3) (kk := 3) (l := (⟨3, rq0, an0, ⟨x0, x1, x2, x3, x4, x5, x6⟩, rp0⟩ : Ltr)) hd3 (fun _ => rfl) (fun h => absurd (by omega) h) rfl rfl (fun _ => rfl) (.inr (.inr (.inl (fun hf => by have := chk_and ok (⟨3, rq0, an0, ⟨x0, x1, x2, x3, x4, x5, x6⟩, rp0⟩ : Ltr); rw [hch, hok.2 hf.1, hf.2] at this; cases this))))⟩
      · have hfit : Fit (⟨3, rq0, an0, ⟨x0, x1, x2, x3, x4, x5, x6⟩, rp0⟩ : Ltr) := by
          have h9 := chk_and ok (⟨3, rq0, an0, ⟨x0, x1, x2, x3, x4, x5, x6⟩, rp0⟩ : Ltr)
          rw [hch] at h9
          have h10 : ok = true ∧ chk true (⟨3, rq0, an0, ⟨x0, x1, x2, x3, x4, x5, x6⟩, rp0⟩ : Ltr) = true := by
            cases ok
            · cases h9
            · exact ⟨rfl, h9.symm⟩
          exact ⟨hok.1 h10.1, h10.2⟩
        go_wp2_with (first | (refine wpList_load_blk_g (by rfl) 31 (.tmp 6) rfl (l := [.int .i64 3, .int .i64 0, .int .i64 0, .int .i64 0, .string ⟨#[]⟩, .string ⟨#[]⟩, .string ⟨#[]⟩, .string ⟨#[]⟩, .int .i64 0, .int .i64 0, .int .i64 0, .string ⟨#[]⟩, .int .i64 0, .int .i64 0, .int .i64 (x0 : Nat), .string x1, .int .i64 (x2 : Nat), .int .i64 (x3 : Nat), .int .i64 (x4 : Nat), .string x5, .string x6, .int .i64 0, .string ⟨#[]⟩, .int .i64 0, .int .i64 0, .int .i64 0, .int .i64 0]) hb rfl Try.underlying31 rfl iL rfl ?_))
        refine (rpack_any (⟨3, rq0, an0, ⟨x0, x1, x2, x3, x4, x5, x6⟩, rp0⟩ : Ltr) hfit.2 _).mono ?_
        rintro e w10 ⟨rfl, hf10⟩
        have hb := hf10.blk hb (fun h => h)
        have hr := hf10.blk hr (fun h => h)
        have hF := hF.then0 hf10
        obtain ⟨P, hP⟩ : ∃ P, pck (⟨3, rq0, an0, ⟨x0, x1, x2, x3, x4, x5, x6⟩, rp0⟩ : Ltr) = P := ⟨_, rfl⟩
        rw [hP]
        by_cases hPs : P = s
        · have b1 : (P.toList == s.toList) = true := by rw [hPs]; exact beq_iff_eq.2 rfl
          have b2 : (P.toList != s.toList) = false := by rw [hPs]; simp
          go_wp2_with (first | (refine wpList_load_blk rfl 31 (.tmp 6) rfl (l := [.int .i64 3, .int .i64 0, .int .i64 0, .int .i64 0, .string ⟨#[]⟩, .string ⟨#[]⟩, .string ⟨#[]⟩, .string ⟨#[]⟩, .int .i64 0, .int .i64 0, .int .i64 0, .string ⟨#[]⟩, .int .i64 0, .int .i64 0, .int .i64 (x0 : Nat), .string x1, .int .i64 (x2 : Nat), .int .i64 (x3 : Nat), .int .i64 (x4 : Nat), .string x5, .string x6, .int .i64 0, .string ⟨#[]⟩, .int .i64 0, .int .i64 0, .int .i64 0, .int .i64 0]) hb rfl Try.underlying31 rfl iL rfl ?_) | (refine wpList_store_blk rfl 31 (.tmp 2) (.tmp 148) rfl hr rfl rfl iL (us := #[.int .i64 3, .int .i64 0, .int .i64 0, .int .i64 0, .string ⟨#[]⟩, .string ⟨#[]⟩, .string ⟨#[]⟩, .string ⟨#[]⟩, .int .i64 0, .int .i64 0, .int .i64 0, .string ⟨#[]⟩, .int .i64 0, .int .i64 0, .int .i64 (x0 : Nat), .string x1, .int .i64 (x2 : Nat), .int .i64 (x3 : Nat), .int .i64 (x4 : Nat), .string x5, .string x6, .int .i64 0, .string ⟨#[]⟩, .int .i64 0, .int .i64 0, .int .i64 0, .int .i64 0]) rfl rfl rfl ?_; intro w9 hb9 hf9))
          (try simp only [Exit.inBlock, Exit.then])
          refine ret_cell1 (l := [.int .i64 3, .int .i64 0, .int .i64 0, .int .i64 0, .string ⟨#[]⟩, .string ⟨#[]⟩, .string ⟨#[]⟩, .string ⟨#[]⟩, .int .i64 0, .int .i64 0, .int .i64 0, .string ⟨#[]⟩, .int .i64 0, .int .i64 0, .int .i64 (x0 : Nat), .string x1, .int .i64 (x2 : Nat), .int .i64 (x3 : Nat), .int .i64 (x4 : Nat), .string x5, .string x6, .int .i64 0, .string ⟨#[]⟩, .int .i64 0, .int .i64 0, .int .i64 0, .int .i64 0]) rfl Try.underlying31 rfl iL hb9 rfl rfl rfl rfl ?_
          exact ⟨some (⟨3, rq0, an0, ⟨x0, x1, x2, x3, x4, x5, x6⟩, rp0⟩ : Ltr), rfl, hF.then_ hf9 (fun i hi e => by omega), rspec_some hfit (hP.trans hPs)⟩
        · have b1 : (P.toList == s.toList) = false := beq_eq_false_iff_ne.2 (fun e => hPs (str_inj e))
          have b2 : (P.toList != s.toList) = true := by simp [bne, b1]
          go_wp2_with (first
            | (refine wpList_store_blk rfl 31 (.tmp 2) (.tmp 147) rfl hr rfl rfl iL (us := #[.int .i64 0, .int .i64 0, .int .i64 0, .int .i64 0, .string ⟨#[]⟩, .string ⟨#[]⟩, .string ⟨#[]⟩, .string ⟨#[]⟩, .int .i64 0, .int .i64 0, .int .i64 0, .string ⟨#[]⟩, .int .i64 0, .int .i64 0, .int .i64 0, .string ⟨#[]⟩, .int .i64 0, .int .i64 0, .int .i64 0, .string ⟨#[]⟩, .string ⟨#[]⟩, .int .i64 0, .string ⟨#[]⟩, .int .i64 0, .int .i64 0, .int .i64 0, .int .i64 0]) rfl rfl rfl ?_; intro w9 hb9 hf9))
          (try simp only [Exit.inBlock, Exit.then])
          refine ret_cell1 (l := [.int .i64 0, .int .i64 0, .int .i64 0, .int .i64 0, .string ⟨#[]⟩, .string ⟨#[]⟩, .string ⟨#[]⟩, .string ⟨#[]⟩, .int .i64 0, .int .i64 0, .int .i64 0, .string ⟨#[]⟩, .int .i64 0, .int .i64 0, .int .i64 0, .string ⟨#[]⟩, .int .i64 0, .int .i64 0, .int .i64 0, .string ⟨#[]⟩, .string ⟨#[]⟩, .int .i64 0, .string ⟨#[]⟩, .int .i64 0, .int .i64 0, .int .i64 0, .int .i64 0]) rfl Try.underlying31 rfl iL hb9 rfl rfl rfl rfl ?_
          exact ⟨none, rfl, hF.then_ hf9 (fun i hi e => by omega), rspec_none (k := 3) (kk := 3) (l := (⟨3, rq0, an0, ⟨x0, x1, x2, x3, x4, x5, x6⟩, rp0⟩ : Ltr)) hd3 (fun _ => rfl) (fun h => absurd (by omega) h) rfl rfl (fun _ => rfl) (.inr (.inr (.inr (fun e => hPs (hP.symm.trans e)))))⟩
    · have q1 : ((one : Int) == 1) = false := beq_eq_false_iff_ne.2 (by omega)
      have q2 : ((one : Int) != 1) = true := by simp [bne, q1]
      have q3 : (one == 1) = false := beq_eq_false_iff_ne.2 h1
      have q4 : (one != 1) = true := by simp [bne, q3]
      go_wp2_with (first
        | (refine wpList_store_blk rfl 31 (.tmp 2) (.tmp 147) rfl hr rfl rfl iL (us := #[.int .i64 0, .int .i64 0, .int .i64 0, .int .i64 0, .string ⟨#[]⟩, .string ⟨#[]⟩, .string ⟨#[]⟩, .string ⟨#[]⟩, .int .i64 0, .int .i64 0, .int .i64 0, .string ⟨#[]⟩, .int .i64 0, .int .i64 0, .int .i64 0, .string ⟨#[]⟩, .int .i64 0, .int .i64 0, .int .i64 0, .string ⟨#[]⟩, .string ⟨#[]⟩, .int .i64 0, .string ⟨#[]⟩, .int .i64 0, .int .i64 0, .int .i64 0, .int .i64 0]) rfl rfl rfl ?_; intro w9 hb9 hf9))
      (try simp only [Exit.inBlock, Exit.then])
      refine ret_cell1 (l := [.int .i64 0, .int .i64 0, .int .i64 0, .int .i64 0, .string ⟨#[]⟩, .string ⟨#[]⟩, .string ⟨#[]⟩, .string ⟨#[]⟩, .int .i64 0, .int .i64 0, .int .i64 0, .string ⟨#[]⟩, .int .i64 0, .int .i64 0, .int .i64 0, .string ⟨#[]⟩, .int .i64 0, .int .i64 0, .int .i64 0, .string ⟨#[]⟩, .string ⟨#[]⟩, .int .i64 0, .string ⟨#[]⟩, .int .i64 0, .int .i64 0, .int .i64 0, .int .i64 0]) rfl Try.underlying31 rfl iL hb9 rfl rfl rfl rfl ?_
      exact ⟨none, rfl, hF.then_ hf9 (fun i hi e => by omega), rspec_none (k := 3) (kk := 3) (l := (⟨3, rq0, an0, ⟨x0, x1, x2, x3, x4, x5, x6⟩, rp0⟩ : Ltr)) hd3 (fun _ => rfl) (fun h => absurd (by omega) h) rfl rfl (fun _ => rfl) (.inr (.inl (by omega)))⟩
  · go_wp2_with (first
      | (refine wpList_store_blk rfl 31 (.tmp 2) (.tmp 147) rfl hr rfl rfl iL (us := #[.int .i64 0, .int .i64 0, .int .i64 0, .int .i64 0, .string ⟨#[]⟩, .string ⟨#[]⟩, .string ⟨#[]⟩, .string ⟨#[]⟩, .int .i64 0, .int .i64 0, .int .i64 0, .string ⟨#[]⟩, .int .i64 0, .int .i64 0, .int .i64 0, .string ⟨#[]⟩, .int .i64 0, .int .i64 0, .int .i64 0, .string ⟨#[]⟩, .string ⟨#[]⟩, .int .i64 0, .string ⟨#[]⟩, .int .i64 0, .int .i64 0, .int .i64 0, .int .i64 0]) rfl rfl rfl ?_; intro w9 hb9 hf9))
    (try simp only [Exit.inBlock, Exit.then])
    refine ret_cell1 (l := [.int .i64 0, .int .i64 0, .int .i64 0, .int .i64 0, .string ⟨#[]⟩, .string ⟨#[]⟩, .string ⟨#[]⟩, .string ⟨#[]⟩, .int .i64 0, .int .i64 0, .int .i64 0, .string ⟨#[]⟩, .int .i64 0, .int .i64 0, .int .i64 0, .string ⟨#[]⟩, .int .i64 0, .int .i64 0, .int .i64 0, .string ⟨#[]⟩, .string ⟨#[]⟩, .int .i64 0, .string ⟨#[]⟩, .int .i64 0, .int .i64 0, .int .i64 0, .int .i64 0]) rfl Try.underlying31 rfl iL hb9 rfl rfl rfl rfl ?_
    exact ⟨none, rfl, hF.then_ hf9 (fun i hi e => by omega), rspec_none (k := 3) (kk := 3) (l := (⟨3, rq0, an0, ⟨x0, x1, x2, x3, x4, x5, x6⟩, rp0⟩ : Ltr)) hd3 (fun _ => rfl) (fun h => absurd (by omega) h) rfl rfl (fun _ => rfl) (.inl rfl)⟩
end
end Lt
end Go.Proofs.Ythggbohoedfkpaa
