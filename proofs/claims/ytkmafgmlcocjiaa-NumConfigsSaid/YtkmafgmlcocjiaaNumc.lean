/- A configuration is brought as the document says: num.Config and the reference's. -/
import Derived.Test.YtkmafgmlcocjiaaNum
import Derived.StillTailTactics
import Derived.Deep.RegionHeld3
namespace Go.Proofs.Ytkmafgmlcocjiaa
open Go.RowKit
set_option linter.unusedVariables false

theorem within_q (a lo hi : Int) (w : World) (h : lo ≤ hi) : Calls Try.prog 53 #[.int .i64 a, .int .i64 lo, .int .i64 hi] w fun e w' => e = .returned (.int .i64 (bring a lo hi)) ∧ w' = w :=
  (within_any a lo hi w h).mono fun _ _ h => ⟨h.1, h.2.symm⟩

structure Cfg where
  a : Int
  b : Int
  c : Int
  d : Int
  e : Int
  f : Int
def Cfg.vals (x : Cfg) : Array Value := #[.int .i64 x.a, .int .i64 x.b, .int .i64 x.c, .int .i64 x.d, .int .i64 x.e, .int .i64 x.f]
def Cfg.brought (x : Cfg) : Cfg := ⟨bring x.a 1 4, bring x.b 1 1073741824, bring x.c 1 1073741824, bring x.d 1 200, bring x.e 500 20000, bring x.f 1000 60000⟩

set_option maxHeartbeats 1000000 in
theorem config_any (x : Cfg) (w : World) : Calls Try.prog 15 #[.agg x.vals] w fun e w' => e = .returned (.agg x.brought.vals) ∧ Frm0 w w' := by
  obtain ⟨a, b, c, d, e, f⟩ := x
  unfold Cfg.vals Cfg.brought
  go_enter Try.func15, Try.ntmps15
  go_wp2
  have F0 : Frm0 w ((w.alloc (.cells #[.int .i64 a, .int .i64 b, .int .i64 c, .int .i64 d, .int .i64 e, .int .i64 f] 23)).alloc (.cells #[.int .i64 0, .int .i64 0, .int .i64 0, .int .i64 0, .int .i64 0, .int .i64 0] 23)).drew := (((Frm.refl _ _).alloc _).alloc _).drew
  have B0 : ((w.alloc (.cells #[.int .i64 a, .int .i64 b, .int .i64 c, .int .i64 d, .int .i64 e, .int .i64 f] 23)).alloc (.cells #[.int .i64 0, .int .i64 0, .int .i64 0, .int .i64 0, .int .i64 0, .int .i64 0] 23)).drew.heap[w.heap.size]? = some (.cells #[.int .i64 a, .int .i64 b, .int .i64 c, .int .i64 d, .int .i64 e, .int .i64 f] 23 (0, 0)) := Bk.alloc (Bk.new _ _) _
  have B1 : ((w.alloc (.cells #[.int .i64 a, .int .i64 b, .int .i64 c, .int .i64 d, .int .i64 e, .int .i64 f] 23)).alloc (.cells #[.int .i64 0, .int .i64 0, .int .i64 0, .int .i64 0, .int .i64 0, .int .i64 0] 23)).drew.heap[w.heap.size + 1]? = some (.cells #[.int .i64 0, .int .i64 0, .int .i64 0, .int .i64 0, .int .i64 0, .int .i64 0] 23 (0, 0)) := by
    have := Bk.new (w.alloc (.cells #[.int .i64 a, .int .i64 b, .int .i64 c, .int .i64 d, .int .i64 e, .int .i64 f] 23)) (.cells #[.int .i64 0, .int .i64 0, .int .i64 0, .int .i64 0, .int .i64 0, .int .i64 0] 23)
    rw [World.size_alloc] at this
    exact this
  go_still_tail 19, (by kernel_rfl)
  change wpStill _ _ (((w.alloc _).alloc _).drew) _ _ _
  generalize hW2 : ((w.alloc (.cells #[.int .i64 a, .int .i64 b, .int .i64 c, .int .i64 d, .int .i64 e, .int .i64 f] 23)).alloc (.cells #[.int .i64 0, .int .i64 0, .int .i64 0, .int .i64 0, .int .i64 0, .int .i64 0] 23)).drew = W2 at *
  have HW2 := Lib.hid hW2
  clear hW2
  have C0 := Bk.cell B0
  have C1 := Bk.cell B1
  have Z1 := Bk.frozen B1
  have hlt := Bk.lt B1
  repeat still_step
  still_call (within_q _ _ _ _ (by omega))
  repeat still_step
  still_call (within_q _ _ _ _ (by omega))
  repeat still_step
  still_call (within_q _ _ _ _ (by omega))
  repeat still_step
  still_call (within_q _ _ _ _ (by omega))
  repeat still_step
  still_call (within_q _ _ _ _ (by omega))
  repeat still_step
  still_call (within_q _ _ _ _ (by omega))
  repeat still_step
  refine wpStill_nil ?_
  clear C0 C1 Z1 B0 B1 F0 hlt
  clear HW2
  change wpList _ _ _ _ _ (((w.alloc _).alloc _).drew)
  go_wp2
  refine bodyPost_ret (v := .agg #[.int .i64 (bring a 1 4), .int .i64 (bring b 1 1073741824), .int .i64 (bring c 1 1073741824), .int .i64 (bring d 1 200), .int .i64 (bring e 500 20000), .int .i64 (bring f 1000 60000)]) (by simp [results, Try.results15, go_sem]) rfl ⟨rfl, ?_⟩
  exact (((Frm.refl _ _).alloc _).alloc _).drew

theorem rconfig_any (x : Cfg) (w : World) : Calls Try.prog 16 #[.agg x.vals] w fun e w' => e = .returned (.agg x.brought.vals) ∧ Frm0 w w' := by
  obtain ⟨a, b, c, d, e, f⟩ := x
  unfold Cfg.vals Cfg.brought
  go_enter Try.func16, Try.ntmps16
  go_wp2_with (go_at_call 52; refine (rbring_any _ _ _ _).mono ?_; rintro e w' ⟨rfl, rfl⟩)
  refine bodyPost_ret (v := .agg #[.int .i64 (bring a 1 4), .int .i64 (bring b 1 1073741824), .int .i64 (bring c 1 1073741824), .int .i64 (bring d 1 200), .int .i64 (bring e 500 20000), .int .i64 (bring f 1000 60000)]) (by simp [results, Try.results16, go_sem]) rfl ⟨rfl, ?_⟩
  exact ((Frm.refl _ _).alloc _).alloc _

theorem config6 (a b c d e f : Int) (w : World) : Calls Try.prog 15 #[.agg #[.int .i64 a, .int .i64 b, .int .i64 c, .int .i64 d, .int .i64 e, .int .i64 f]] w fun e_ w' => e_ = .returned (.agg #[.int .i64 (bring a 1 4), .int .i64 (bring b 1 1073741824), .int .i64 (bring c 1 1073741824), .int .i64 (bring d 1 200), .int .i64 (bring e 500 20000), .int .i64 (bring f 1000 60000)]) ∧ Frm0 w w' :=
  config_any ⟨a, b, c, d, e, f⟩ w
theorem rconfig6 (a b c d e f : Int) (w : World) : Calls Try.prog 16 #[.agg #[.int .i64 a, .int .i64 b, .int .i64 c, .int .i64 d, .int .i64 e, .int .i64 f]] w fun e_ w' => e_ = .returned (.agg #[.int .i64 (bring a 1 4), .int .i64 (bring b 1 1073741824), .int .i64 (bring c 1 1073741824), .int .i64 (bring d 1 200), .int .i64 (bring e 500 20000), .int .i64 (bring f 1000 60000)]) ∧ Frm0 w w' :=
  rconfig_any ⟨a, b, c, d, e, f⟩ w
theorem config6_id (a b c d e f : Int) (w : World) (ha : 1 ≤ a ∧ a ≤ 4) (hb : 1 ≤ b ∧ b ≤ 1073741824) (hc : 1 ≤ c ∧ c ≤ 1073741824) (hd : 1 ≤ d ∧ d ≤ 200) (he : 500 ≤ e ∧ e ≤ 20000) (hf : 1000 ≤ f ∧ f ≤ 60000) :
    Calls Try.prog 15 #[.agg #[.int .i64 a, .int .i64 b, .int .i64 c, .int .i64 d, .int .i64 e, .int .i64 f]] w fun e_ w' => e_ = .returned (.agg #[.int .i64 a, .int .i64 b, .int .i64 c, .int .i64 d, .int .i64 e, .int .i64 f]) ∧ Frm0 w w' := by
  have := config6 a b c d e f w
  rwa [bring_id ha.1 ha.2, bring_id hb.1 hb.2, bring_id hc.1 hc.2, bring_id hd.1 hd.2, bring_id he.1 he.2, bring_id hf.1 hf.2] at this

theorem nawake (w : World) : Calls Try.prog 14 #[] w fun e w' => e = .returned (.bool true) ∧ Frm0 w w' := by
  go_enter Try.func14, Try.ntmps14
  go_wp2_with fail
  refine (next_any 4 _).mono ?_
  rintro e w1 ⟨rfl, rfl⟩
  rw [show nxt 4 = (5, 0) from rfl]
  go_wp2_with fail
  refine (plus_any _ _ _).mono ?_
  rintro e w1 ⟨rfl, rfl⟩
  rw [show plus 1099511627776 5 = 1099511627776 by decide]
  go_wp2_with fail
  refine (plus_any _ _ _).mono ?_
  rintro e w1 ⟨rfl, rfl⟩
  rw [show plus 2 3 = 5 by decide]
  go_wp2_with fail
  refine (config6 0 0 0 0 0 0 _).mono ?_
  rintro e w1 ⟨rfl, hf⟩
  rw [show bring 0 1 4 = 1 by decide]
  have hfd : ∀ (a b c d e f : Value) (w : World), (Instr.field 23 (.agg #[a, b, c, d, e, f]) 0).run Try.prog w = .ok a w := fun _ _ _ _ _ _ _ => by kernel_rfl
  go_wp2
  go_ret
  exact ⟨rfl, hf⟩

theorem keep_two {w w1 w2 : World} {cb xb : Nat} {c0 c1 : Array Value} {t0 t1 : TypeId} (h : (∀ i, w1.cell? ⟨cb, i, none⟩ = c0[i]?) ∧ (∀ i, w1.cell? ⟨xb, i, none⟩ = c1[i]?) ∧ w1.heap[cb]? = some (.cells c0 t0 (0, 0)) ∧ w1.heap[xb]? = some (.cells c1 t1 (0, 0)) ∧ Frm0 w w1) (hf : Frm0 w1 w2) :
    (∀ i, w2.cell? ⟨cb, i, none⟩ = c0[i]?) ∧ (∀ i, w2.cell? ⟨xb, i, none⟩ = c1[i]?) ∧ w2.heap[cb]? = some (.cells c0 t0 (0, 0)) ∧ w2.heap[xb]? = some (.cells c1 t1 (0, 0)) ∧ Frm0 w w2 := by
  obtain ⟨_, _, h0, h1, hF⟩ := h
  have k0 := hf.blk h0 (fun h => h)
  have k1 := hf.blk h1 (fun h => h)
  exact ⟨fun i => Bk.cell k0 i, fun i => Bk.cell k1 i, k0, k1, hF.trans hf⟩
theorem below_held {w w1 : World} {A B C D : Prop} (h : A ∧ B ∧ C ∧ D ∧ Frm0 w w1) : Below w.heap.size w w1 := h.2.2.2.2.below (fun _ _ h => h)
theorem configs_walk (a b c d e f : Int) (w : World) : Calls Try.prog 3 #[.agg #[.int .i64 a, .int .i64 b, .int .i64 c, .int .i64 d, .int .i64 e, .int .i64 f]] w fun e_ w' => e_ = .returned (.bool true) ∧ Below w.heap.size w w' := by
  have H1 := bring_bd a (show (1 : Int) ≤ 4 by omega)
  have H2 := bring_bd b (show (1 : Int) ≤ 1073741824 by omega)
  have H3 := bring_bd c (show (1 : Int) ≤ 1073741824 by omega)
  have H4 := bring_bd d (show (1 : Int) ≤ 200 by omega)
  have H5 := bring_bd e (show (500 : Int) ≤ 20000 by omega)
  have H6 := bring_bd f (show (1000 : Int) ≤ 60000 by omega)
  have HR := rconfig6 a b c d e f
  have HC := config6 a b c d e f
  generalize bring a 1 4 = a' at *
  generalize bring b 1 1073741824 = b' at *
  generalize bring c 1 1073741824 = c' at *
  generalize bring d 1 200 = d' at *
  generalize bring e 500 20000 = e' at *
  generalize bring f 1000 60000 = f' at *
  have HR' := Lib.hid HR
  have HC' := Lib.hid HC
  clear HR HC
  go_enter Try.func3, Try.ntmps3
  go_wp2_with fail
  refine (nawake _).mono ?_
  rintro e w1 ⟨rfl, hf1⟩
  have hb1 := hf1.blk (Bk.new w _) (fun h => h)
  have hc1 := Bk.cell hb1
  have hl1 := Bk.lt hb1
  go_wp2_with fail
  refine (HC'.out _).mono ?_
  rintro e w2 ⟨rfl, hf2⟩
  have hb2 := hf2.blk hb1 (fun h => h)
  have hc2 := Bk.cell hb2
  have hl2 := hf2.size
  have hF2 : Frm0 w w2 := (((Frm.refl _ _).alloc _).trans hf1).trans hf2
  clear hc1
  go_wp2_with fail
  have hF3 : Frm0 w (w2.alloc (.cells #[.int .i64 a', .int .i64 b', .int .i64 c', .int .i64 d', .int .i64 e', .int .i64 f'] 23)) := hF2.alloc _
  have hb3 := Bk.alloc hb2 (.cells #[.int .i64 a', .int .i64 b', .int .i64 c', .int .i64 d', .int .i64 e', .int .i64 f'] 23)
  have hx3 := Bk.new w2 (.cells #[.int .i64 a', .int .i64 b', .int .i64 c', .int .i64 d', .int .i64 e', .int .i64 f'] 23)
  generalize w2.alloc (.cells #[.int .i64 a', .int .i64 b', .int .i64 c', .int .i64 d', .int .i64 e', .int .i64 f'] 23) = w3 at *
  generalize w2.heap.size = xb at *
  generalize w.heap.size = cb at *
  clear hc2 hb2
  have C0 := Bk.cell hb3
  have C1 := Bk.cell hx3
  go_region_held3 (fun w' => (∀ i, w'.cell? ⟨cb, i, none⟩ = #[Value.int .i64 a, .int .i64 b, .int .i64 c, .int .i64 d, .int .i64 e, .int .i64 f][i]?) ∧ (∀ i, w'.cell? ⟨xb, i, none⟩ = #[Value.int .i64 a', .int .i64 b', .int .i64 c', .int .i64 d', .int .i64 e', .int .i64 f'][i]?) ∧
      w'.heap[cb]? = some (.cells #[.int .i64 a, .int .i64 b, .int .i64 c, .int .i64 d, .int .i64 e, .int .i64 f] 23 (0, 0)) ∧ w'.heap[xb]? = some (.cells #[.int .i64 a', .int .i64 b', .int .i64 c', .int .i64 d', .int .i64 e', .int .i64 f'] 23 (0, 0)) ∧ Frm0 w w')
    (first
      | exact ⟨fun i => C0 i, fun i => C1 i, hb3, hx3, hF3.drew⟩
      | exact keep_two (by assumption) hf')
    (first
      | (go_at_call 16; refine (HR'.out _).mono ?_; rintro e w' ⟨rfl, hf'⟩)
      | (go_at_call 15; refine (config6_id _ _ _ _ _ _ _ H1 H2 H3 H4 H5 H6).mono ?_; rintro e w' ⟨rfl, hf'⟩))
  go_wp2
  go_ret
  exact ⟨by simp, below_held (by assumption)⟩
end Go.Proofs.Ytkmafgmlcocjiaa
