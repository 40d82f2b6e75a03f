/- Letters: the desk that opens. -/
import Derived.Test.YthggbohoedfkpaaLti
namespace Go.Proofs.Ythggbohoedfkpaa
open Go.RowKit Pk
set_option linter.unusedVariables false
set_option linter.unusedSimpArgs false
set_option maxRecDepth 100000
namespace Lt
/-- A desk at d that opens by ob. -/
structure OD (w : World) (d ob : Nat) (ok : Bool) (o : Option ByteArray) : Prop where
  dk : w.heap[d]? = some (.cells #[.pointer none, .pointer (some ⟨ob, 0, none⟩), .bool ok] 87 (0, 0))
  op : OO w ob o
section
variable {w w1 : World} {d ob lb : Nat} {ok : Bool} {o : Option ByteArray} {cs : Array Value} {S : Nat → Prop}
theorem OD.frm (h : OD w d ob ok o) (hf : Frm S w w1) (hd : ¬ S d) (hs : ¬ S ob) : OD w1 d ob ok o := ⟨hf.blk h.dk hd, h.op.frm hf hs⟩
theorem OD.drew (h : OD w d ob ok o) : OD w.drew d ob ok o := h.frm ((Frm.refl (fun _ => False) w).drew) (fun h => h) (fun h => h)
theorem OD.drewN (h : OD w d ob ok o) (n : Nat) : OD (w.drewN n) d ob ok o := h.frm ((Frm.refl (fun _ => False) w).drewN n) (fun h => h) (fun h => h)
set_option maxHeartbeats 1000000 in
theorem dnum_o (most : Int) (off : Nat) (h : OD w d ob ok o) (hb : w.heap[lb]? = some (.cells cs 31 (0, 0))) (hz : cs.size = 27) (hoff : off < 27) (h1 : lb ≠ ob) (h2 : lb ≠ d) (h3 : d ≠ ob) (hm : most ≤ 4611686018427387904) {x : Int} {o' : Option ByteArray} (he : oN most o = (x, o')) :
    Calls Try.prog 59 #[.pointer (some ⟨d, 0, none⟩), .pointer (some ⟨lb, off, none⟩), .int .i64 most] w fun e w' =>
      e = .returned (.tuple #[]) ∧ OD w' d ob ok o' ∧ w'.heap[lb]? = some (.cells (cs.setIfInBounds off (.int .i64 x)) 31 (0, 0)) ∧ Frm (fun k => k = ob ∨ k = lb) w w' := by
  obtain ⟨d0, d1, d2⟩ := Bk.c3 h.dk
  have HC := Lib.hid (onum_any most h.op hm he)
  have HB := Lib.hid hb
  have HH := Lib.hid h
  have HZ := Lib.hid hz
  clear h hb hz he
  go_enter Try.func59, Try.ntmps59
  go_wp2_with fail
  refine HC.out.mono ?_
  rintro e w1 ⟨rfl, hO, hf⟩
  have hb1 := hf.blk HB.out h1
  have hdk1 := hf.blk HH.out.dk h3
  have x0 : w1.cell? ⟨lb, off, none⟩ = some cs[off]! := by
    rw [Bk.cell hb1]
    have := HZ.out
    rw [Array.getElem?_eq_getElem (by omega), getElem!_pos _ _ (by omega)]
  have x1 := Bk.frozen hb1 off
  go_wp2
  go_returns
  have hf2 : Frm (fun k => k = lb) w1 (w1.setCell ⟨lb, off, none⟩ (.int .i64 x)) := (Frm.refl _ w1).set1 off _
  exact ⟨rfl, ⟨hf2.blk hdk1 (fun e => h2 e.symm), hO.frm hf2 (fun e => h1 e.symm)⟩, Bk.set hb1 off _, (hf.mono (fun i _ e => .inl e)).then_ hf2 (fun i _ e => .inr e)⟩

set_option maxHeartbeats 1000000 in
theorem dtext_o (most : Int) (off : Nat) (h : OD w d ob ok o) (hb : w.heap[lb]? = some (.cells cs 31 (0, 0))) (hz : cs.size = 27) (hoff : off < 27) (h1 : lb ≠ ob) (h2 : lb ≠ d) (h3 : d ≠ ob) (hm : most ≤ 4611686018427387904) {x : ByteArray} {o' : Option ByteArray} (he : oT most o = (x, o')) :
    Calls Try.prog 60 #[.pointer (some ⟨d, 0, none⟩), .pointer (some ⟨lb, off, none⟩), .int .i64 most] w fun e w' =>
      e = .returned (.tuple #[]) ∧ OD w' d ob ok o' ∧ w'.heap[lb]? = some (.cells (cs.setIfInBounds off (.string x)) 31 (0, 0)) ∧ Frm (fun k => k = ob ∨ k = lb) w w' := by
  obtain ⟨d0, d1, d2⟩ := Bk.c3 h.dk
  have HC := Lib.hid (otext_any most h.op hm he)
  have HB := Lib.hid hb
  have HH := Lib.hid h
  have HZ := Lib.hid hz
  clear h hb hz he
  go_enter Try.func60, Try.ntmps60
  go_wp2_with fail
  refine HC.out.mono ?_
  rintro e w1 ⟨rfl, hO, hf⟩
  have hb1 := hf.blk HB.out h1
  have hdk1 := hf.blk HH.out.dk h3
  have x0 : w1.cell? ⟨lb, off, none⟩ = some cs[off]! := by
    rw [Bk.cell hb1]
    have := HZ.out
    rw [Array.getElem?_eq_getElem (by omega), getElem!_pos _ _ (by omega)]
  have x1 := Bk.frozen hb1 off
  go_wp2
  go_returns
  have hf2 : Frm (fun k => k = lb) w1 (w1.setCell ⟨lb, off, none⟩ (.string x)) := (Frm.refl _ w1).set1 off _
  exact ⟨rfl, ⟨hf2.blk hdk1 (fun e => h2 e.symm), hO.frm hf2 (fun e => h1 e.symm)⟩, Bk.set hb1 off _, (hf.mono (fun i _ e => .inl e)).then_ hf2 (fun i _ e => .inr e)⟩

set_option maxHeartbeats 2000000 in
theorem life_o (off : Nat) (hoff : off + 4 < 27) (h : OD w d ob ok o) (hb : w.heap[lb]? = some (.cells cs 31 (0, 0))) (hz : cs.size = 27) (h1 : lb ≠ ob) (h2 : lb ≠ d) (h3 : d ≠ ob) {x0 x2 x3 x4 : Int} {x1 : ByteArray} {o0 o1 o2 o3 o4 : Option ByteArray} (e0 : oN 1073741824 o = (x0, o0)) (e1 : oT 24 o0 = (x1, o1)) (e2 : oN 1073741824 o1 = (x2, o2)) (e3 : oN 5 o2 = (x3, o3)) (e4 : oN 1073741824 o3 = (x4, o4)) :
    Calls Try.prog 61 #[.pointer (some ⟨d, 0, none⟩), .pointer (some ⟨lb, off, none⟩), .pointer (some ⟨lb, off + 1, none⟩), .pointer (some ⟨lb, off + 2, none⟩), .pointer (some ⟨lb, off + 3, none⟩), .pointer (some ⟨lb, off + 4, none⟩)] w fun e_ w' =>
      e_ = .returned (.tuple #[]) ∧ OD w' d ob ok o4 ∧ w'.heap[lb]? = some (.cells (sets cs off [.int .i64 x0, .string x1, .int .i64 x2, .int .i64 x3, .int .i64 x4]) 31 (0, 0)) ∧ Frm (fun k => k = ob ∨ k = lb) w w' := by
  have hF := Frm.refl (fun k => k = ob ∨ k = lb) w
  go_enter Try.func61, Try.ntmps61
  go_wp2_with fail
  refine (dnum_o (lb := lb) (o := o) _ (off) h hb (by simp only [Array.size_setIfInBounds, hz]) (by omega) h1 h2 h3 (by decide) e0).mono ?_
  rintro e w1 ⟨rfl, h, hb, hf1⟩
  have hF := hF.trans hf1
  clear hf1
  go_wp2_with fail
  refine (dtext_o (lb := lb) (o := o0) _ (off + 1) h hb (by simp only [Array.size_setIfInBounds, hz]) (by omega) h1 h2 h3 (by decide) e1).mono ?_
  rintro e w1 ⟨rfl, h, hb, hf1⟩
  have hF := hF.trans hf1
  clear hf1
  go_wp2_with fail
  refine (dnum_o (lb := lb) (o := o1) _ (off + 2) h hb (by simp only [Array.size_setIfInBounds, hz]) (by omega) h1 h2 h3 (by decide) e2).mono ?_
  rintro e w1 ⟨rfl, h, hb, hf1⟩
  have hF := hF.trans hf1
  clear hf1
  go_wp2_with fail
  refine (dnum_o (lb := lb) (o := o2) _ (off + 3) h hb (by simp only [Array.size_setIfInBounds, hz]) (by omega) h1 h2 h3 (by decide) e3).mono ?_
  rintro e w1 ⟨rfl, h, hb, hf1⟩
  have hF := hF.trans hf1
  clear hf1
  go_wp2_with fail
  refine (dnum_o (lb := lb) (o := o3) _ (off + 4) h hb (by simp only [Array.size_setIfInBounds, hz]) (by omega) h1 h2 h3 (by decide) e4).mono ?_
  rintro e w1 ⟨rfl, h, hb, hf1⟩
  have hF := hF.trans hf1
  clear hf1
  go_wp2_with fail
  
  go_returns
  exact ⟨rfl, h, hb, hF⟩

set_option maxHeartbeats 4000000 in
theorem letter_o1 (h : OD w d ob ok o) (hb : w.heap[lb]? = some (.cells cs 31 (0, 0))) (hz : cs.size = 27) (h1 : lb ≠ ob) (h2 : lb ≠ d) (h3 : d ≠ ob) (hk : cs[0]? = some (.int .i64 1)) {x0 x1 x2 : Int} {x3 x4 x5 x6 : ByteArray} {o0 o1 o2 o3 o4 o5 o6 : Option ByteArray} (e0 : oN 1073741824 o = (x0, o0)) (e1 : oN 1073741824 o0 = (x1, o1)) (e2 : oN 1073741824 o1 = (x2, o2)) (e3 : oT 60 o2 = (x3, o3)) (e4 : oT 60 o3 = (x4, o4)) (e5 : oT 100 o4 = (x5, o5)) (e6 : oT 200 o5 = (x6, o6)) :
    Calls Try.prog 41 #[.pointer (some ⟨d, 0, none⟩), .pointer (some ⟨lb, 0, none⟩)] w fun e w' =>
      e = .returned (.tuple #[]) ∧ OD w' d ob ok o6 ∧ w'.heap[lb]? = some (.cells (sets cs 1 [.int .i64 x0, .int .i64 x1, .int .i64 x2, .string x3, .string x4, .string x5, .string x6]) 31 (0, 0)) ∧ Frm (fun k => k = ob ∨ k = lb) w w' := by
  have hxk : w.cell? ⟨lb, 0, none⟩ = some (.int .i64 1) := by rw [Bk.cell hb]; exact hk
  have hF := Frm.refl (fun k => k = ob ∨ k = lb) w
  clear hk
  go_enter Try.func41, Try.ntmps41
  go_upto_region 0 with (fail)
  go_quiet (fail)
  have h := h.drewN nq
  have hb := Bk.drewN hb nq
  have hF := hF.drewN nq
  go_wp2_with fail
  refine (dnum_o (lb := lb) (o := o) _ (1) h hb (by simp only [Array.size_setIfInBounds, hz]) (by omega) h1 h2 h3 (by decide) e0).mono ?_
  rintro e w1 ⟨rfl, h, hb, hf1⟩
  have hF := hF.trans hf1
  clear hf1
  go_wp2_with fail
  refine (dnum_o (lb := lb) (o := o0) _ (2) h hb (by simp only [Array.size_setIfInBounds, hz]) (by omega) h1 h2 h3 (by decide) e1).mono ?_
  rintro e w1 ⟨rfl, h, hb, hf1⟩
  have hF := hF.trans hf1
  clear hf1
  go_wp2_with fail
  refine (dnum_o (lb := lb) (o := o1) _ (3) h hb (by simp only [Array.size_setIfInBounds, hz]) (by omega) h1 h2 h3 (by decide) e2).mono ?_
  rintro e w1 ⟨rfl, h, hb, hf1⟩
  have hF := hF.trans hf1
  clear hf1
  go_wp2_with fail
  refine (dtext_o (lb := lb) (o := o2) _ (4) h hb (by simp only [Array.size_setIfInBounds, hz]) (by omega) h1 h2 h3 (by decide) e3).mono ?_
  rintro e w1 ⟨rfl, h, hb, hf1⟩
  have hF := hF.trans hf1
  clear hf1
  go_wp2_with fail
  refine (dtext_o (lb := lb) (o := o3) _ (5) h hb (by simp only [Array.size_setIfInBounds, hz]) (by omega) h1 h2 h3 (by decide) e4).mono ?_
  rintro e w1 ⟨rfl, h, hb, hf1⟩
  have hF := hF.trans hf1
  clear hf1
  go_wp2_with fail
  refine (dtext_o (lb := lb) (o := o4) _ (6) h hb (by simp only [Array.size_setIfInBounds, hz]) (by omega) h1 h2 h3 (by decide) e5).mono ?_
  rintro e w1 ⟨rfl, h, hb, hf1⟩
  have hF := hF.trans hf1
  clear hf1
  go_wp2_with fail
  refine (dtext_o (lb := lb) (o := o5) _ (7) h hb (by simp only [Array.size_setIfInBounds, hz]) (by omega) h1 h2 h3 (by decide) e6).mono ?_
  rintro e w1 ⟨rfl, h, hb, hf1⟩
  have hF := hF.trans hf1
  clear hf1
  go_wp2_with fail
  go_returns
  exact ⟨rfl, h, hb, hF⟩
set_option maxHeartbeats 4000000 in
theorem letter_o2 (h : OD w d ob ok o) (hb : w.heap[lb]? = some (.cells cs 31 (0, 0))) (hz : cs.size = 27) (h1 : lb ≠ ob) (h2 : lb ≠ d) (h3 : d ≠ ob) (hk : cs[0]? = some (.int .i64 2)) {x0 x1 x2 x4 x5 : Int} {x3 : ByteArray} {o0 o1 o2 o3 o4 o5 : Option ByteArray} (e0 : oN 1073741824 o = (x0, o0)) (e1 : oN 1073741824 o0 = (x1, o1)) (e2 : oN 999 o1 = (x2, o2)) (e3 : oT 40 o2 = (x3, o3)) (e4 : oN 1099511627776 o3 = (x4, o4)) (e5 : oN 1073741824 o4 = (x5, o5)) :
    Calls Try.prog 41 #[.pointer (some ⟨d, 0, none⟩), .pointer (some ⟨lb, 0, none⟩)] w fun e w' =>
      e = .returned (.tuple #[]) ∧ OD w' d ob ok o5 ∧ w'.heap[lb]? = some (.cells (sets cs 8 [.int .i64 x0, .int .i64 x1, .int .i64 x2, .string x3, .int .i64 x4, .int .i64 x5]) 31 (0, 0)) ∧ Frm (fun k => k = ob ∨ k = lb) w w' := by
  have hxk : w.cell? ⟨lb, 0, none⟩ = some (.int .i64 2) := by rw [Bk.cell hb]; exact hk
  have hF := Frm.refl (fun k => k = ob ∨ k = lb) w
  clear hk
  go_enter Try.func41, Try.ntmps41
  go_upto_region 0 with (fail)
  go_quiet (fail)
  have h := h.drewN nq
  have hb := Bk.drewN hb nq
  have hF := hF.drewN nq
  go_wp2_with fail
  refine (dnum_o (lb := lb) (o := o) _ (8) h hb (by simp only [Array.size_setIfInBounds, hz]) (by omega) h1 h2 h3 (by decide) e0).mono ?_
  rintro e w1 ⟨rfl, h, hb, hf1⟩
  have hF := hF.trans hf1
  clear hf1
  go_wp2_with fail
  refine (dnum_o (lb := lb) (o := o0) _ (9) h hb (by simp only [Array.size_setIfInBounds, hz]) (by omega) h1 h2 h3 (by decide) e1).mono ?_
  rintro e w1 ⟨rfl, h, hb, hf1⟩
  have hF := hF.trans hf1
  clear hf1
  go_wp2_with fail
  refine (dnum_o (lb := lb) (o := o1) _ (10) h hb (by simp only [Array.size_setIfInBounds, hz]) (by omega) h1 h2 h3 (by decide) e2).mono ?_
  rintro e w1 ⟨rfl, h, hb, hf1⟩
  have hF := hF.trans hf1
  clear hf1
  go_wp2_with fail
  refine (dtext_o (lb := lb) (o := o2) _ (11) h hb (by simp only [Array.size_setIfInBounds, hz]) (by omega) h1 h2 h3 (by decide) e3).mono ?_
  rintro e w1 ⟨rfl, h, hb, hf1⟩
  have hF := hF.trans hf1
  clear hf1
  go_wp2_with fail
  refine (dnum_o (lb := lb) (o := o3) _ (12) h hb (by simp only [Array.size_setIfInBounds, hz]) (by omega) h1 h2 h3 (by decide) e4).mono ?_
  rintro e w1 ⟨rfl, h, hb, hf1⟩
  have hF := hF.trans hf1
  clear hf1
  go_wp2_with fail
  refine (dnum_o (lb := lb) (o := o4) _ (13) h hb (by simp only [Array.size_setIfInBounds, hz]) (by omega) h1 h2 h3 (by decide) e5).mono ?_
  rintro e w1 ⟨rfl, h, hb, hf1⟩
  have hF := hF.trans hf1
  clear hf1
  go_wp2_with fail
  go_returns
  exact ⟨rfl, h, hb, hF⟩
set_option maxHeartbeats 4000000 in
theorem letter_o3 (h : OD w d ob ok o) (hb : w.heap[lb]? = some (.cells cs 31 (0, 0))) (hz : cs.size = 27) (h1 : lb ≠ ob) (h2 : lb ≠ d) (h3 : d ≠ ob) (hk : cs[0]? = some (.int .i64 3)) {x0 x2 x3 x4 : Int} {x1 x5 x6 : ByteArray} {o0 o1 o2 o3 o4 o5 o6 : Option ByteArray} (e0 : oN 1073741824 o = (x0, o0)) (e1 : oT 24 o0 = (x1, o1)) (e2 : oN 1073741824 o1 = (x2, o2)) (e3 : oN 5 o2 = (x3, o3)) (e4 : oN 1073741824 o3 = (x4, o4)) (e5 : oT 12 o4 = (x5, o5)) (e6 : oT 40 o5 = (x6, o6)) :
    Calls Try.prog 41 #[.pointer (some ⟨d, 0, none⟩), .pointer (some ⟨lb, 0, none⟩)] w fun e w' =>
      e = .returned (.tuple #[]) ∧ OD w' d ob ok o6 ∧ w'.heap[lb]? = some (.cells (sets (sets cs 14 [.int .i64 x0, .string x1, .int .i64 x2, .int .i64 x3, .int .i64 x4]) 19 [.string x5, .string x6]) 31 (0, 0)) ∧ Frm (fun k => k = ob ∨ k = lb) w w' := by
  have hxk : w.cell? ⟨lb, 0, none⟩ = some (.int .i64 3) := by rw [Bk.cell hb]; exact hk
  have hF := Frm.refl (fun k => k = ob ∨ k = lb) w
  clear hk
  go_enter Try.func41, Try.ntmps41
  go_upto_region 0 with (fail)
  go_quiet (fail)
  have h := h.drewN nq
  have hb := Bk.drewN hb nq
  have hF := hF.drewN nq
  go_upto_region 19 with (fail)
  refine st_tail 16 (by kernel_rfl) (by kernel_rfl) ?_
  simp only [List.take_succ_cons, List.take_zero, List.drop_succ_cons, List.drop_zero]
  repeat still_step
  refine wpStill_nil ?_
  go_wp2_with fail
  have h := h.drew
  have hb := Bk.drew hb
  have hF := hF.drew
  refine (life_o 14 (by omega) h hb hz h1 h2 h3 e0 e1 e2 e3 e4).mono ?_
  rintro e w1 ⟨rfl, h, hb, hf1⟩
  have hF := hF.trans hf1
  have hz : (sets cs 14 [.int .i64 x0, .string x1, .int .i64 x2, .int .i64 x3, .int .i64 x4]).size = 27 := by rw [sets_size]; exact hz
  clear hf1
  go_wp2_with fail
  refine (dtext_o (lb := lb) (o := o4) _ (19) h hb (by simp only [Array.size_setIfInBounds, hz]) (by omega) h1 h2 h3 (by decide) e5).mono ?_
  rintro e w1 ⟨rfl, h, hb, hf1⟩
  have hF := hF.trans hf1
  clear hf1
  go_wp2_with fail
  refine (dtext_o (lb := lb) (o := o5) _ (20) h hb (by simp only [Array.size_setIfInBounds, hz]) (by omega) h1 h2 h3 (by decide) e6).mono ?_
  rintro e w1 ⟨rfl, h, hb, hf1⟩
  have hF := hF.trans hf1
  clear hf1
  go_wp2_with fail
  go_returns
  exact ⟨rfl, h, hb, hF⟩
set_option maxHeartbeats 4000000 in
theorem letter_o4 (h : OD w d ob ok o) (hb : w.heap[lb]? = some (.cells cs 31 (0, 0))) (hz : cs.size = 27) (h1 : lb ≠ ob) (h2 : lb ≠ d) (h3 : d ≠ ob) (hk : cs[0]? = some (.int .i64 4)) {x0 x2 x3 x4 x5 : Int} {x1 : ByteArray} {o0 o1 o2 o3 o4 o5 : Option ByteArray} (e0 : oN 1073741824 o = (x0, o0)) (e1 : oT 24 o0 = (x1, o1)) (e2 : oN 1073741824 o1 = (x2, o2)) (e3 : oN 5 o2 = (x3, o3)) (e4 : oN 1073741824 o3 = (x4, o4)) (e5 : oN 3 o4 = (x5, o5)) :
    Calls Try.prog 41 #[.pointer (some ⟨d, 0, none⟩), .pointer (some ⟨lb, 0, none⟩)] w fun e w' =>
      e = .returned (.tuple #[]) ∧ OD w' d ob ok o5 ∧ w'.heap[lb]? = some (.cells (sets (sets cs 21 [.int .i64 x0, .string x1, .int .i64 x2, .int .i64 x3, .int .i64 x4]) 26 [.int .i64 x5]) 31 (0, 0)) ∧ Frm (fun k => k = ob ∨ k = lb) w w' := by
  have hxk : w.cell? ⟨lb, 0, none⟩ = some (.int .i64 4) := by rw [Bk.cell hb]; exact hk
  have hF := Frm.refl (fun k => k = ob ∨ k = lb) w
  clear hk
  go_enter Try.func41, Try.ntmps41
  go_upto_region 0 with (fail)
  go_quiet (fail)
  have h := h.drewN nq
  have hb := Bk.drewN hb nq
  have hF := hF.drewN nq
  go_upto_region 23 with (fail)
  refine st_tail 16 (by kernel_rfl) (by kernel_rfl) ?_
  simp only [List.take_succ_cons, List.take_zero, List.drop_succ_cons, List.drop_zero]
  repeat still_step
  refine wpStill_nil ?_
  go_wp2_with fail
  have h := h.drew
  have hb := Bk.drew hb
  have hF := hF.drew
  refine (life_o 21 (by omega) h hb hz h1 h2 h3 e0 e1 e2 e3 e4).mono ?_
  rintro e w1 ⟨rfl, h, hb, hf1⟩
  have hF := hF.trans hf1
  have hz : (sets cs 21 [.int .i64 x0, .string x1, .int .i64 x2, .int .i64 x3, .int .i64 x4]).size = 27 := by rw [sets_size]; exact hz
  clear hf1
  go_wp2_with fail
  refine (dnum_o (lb := lb) (o := o4) _ (26) h hb (by simp only [Array.size_setIfInBounds, hz]) (by omega) h1 h2 h3 (by decide) e5).mono ?_
  rintro e w1 ⟨rfl, h, hb, hf1⟩
  have hF := hF.trans hf1
  clear hf1
  go_wp2_with fail
  go_returns
  exact ⟨rfl, h, hb, hF⟩

set_option maxHeartbeats 2000000 in
theorem letter_o0 (h : OD w d ob ok o) (hb : w.heap[lb]? = some (.cells cs 31 (0, 0))) (hz : cs.size = 27) (h1 : lb ≠ ob) (h2 : lb ≠ d) (h3 : d ≠ ob) (hk : cs[0]? = some (.int .i64 0)) :
    Calls Try.prog 41 #[.pointer (some ⟨d, 0, none⟩), .pointer (some ⟨lb, 0, none⟩)] w fun e w' =>
      e = .returned (.tuple #[]) ∧ OD w' d ob false o ∧ Frm (fun k => k = d) w w' := by
  have x0 : w.cell? ⟨lb, 0, none⟩ = some (.int .i64 0) := by rw [Bk.cell hb]; exact hk
  have fd2 := Bk.frozen h.dk 2
  obtain ⟨d0, d1, d2⟩ := Bk.c3 h.dk
  have HH := Lib.hid h
  clear h hb hk
  go_enter Try.func41, Try.ntmps41
  go_upto_region 0 with (fail)
  go_quiet (fail)
  go_wp2
  go_returns
  have h := HH.out.drewN nq
  have hF : Frm (fun k => k = d) (w.drewN nq) ((w.drewN nq).setCell ⟨d, 2, none⟩ (.bool false)) := (Frm.refl _ _).set1 2 _
  refine ⟨rfl, ⟨?_, h.op.frm hF (fun e => h3 e.symm)⟩, ((Frm.refl _ w).drewN nq).trans hF⟩
  have := Bk.set h.dk 2 (.bool false)
  simpa using this
end
end Lt
end Go.Proofs.Ythggbohoedfkpaa
