/- The index and its reference side by side. -/
import Derived.Test.YthggbohoedfkpaaIxp
import Derived.Deep.QuietTactic
import Derived.BigQuiet
namespace Go.Proofs.Ythggbohoedfkpaa
open Go.RowKit
set_option linter.unusedVariables false
set_option linter.unusedSimpArgs false
set_option maxRecDepth 100000
namespace Ix
/-- The index at xb has the entries l, the caller's own row u the entries m; nothing of what was there has turned since w. -/
structure Xw (w wr : World) (xb : Nat) (v u : Value) (l m : List En) : Prop where
  at_ : At wr xb v l
  ref : wr.ownsRow (xb + 1) 52 14 u m.length (ecs m)
  apart : ∀ g, v.ownBlock = some g → u.ownBlock ≠ some g
  frm : Frm0 w wr
  base : w.heap.size ≤ xb
section
variable {w wr w1 : World} {xb : Nat} {v u v' u' : Value} {l m l' m' : List En}
theorem Xw.frm0 (h : Xw w wr xb v u l m) (hf : Frm0 wr w1) : Xw w w1 xb v u l m := ⟨h.at_.frm0 hf, owns_frm0 h.ref hf, h.apart, h.frm.trans hf, h.base⟩
/-- Blocks that are not theirs may turn. -/
theorem Xw.frmS {S : Nat → Prop} (h : Xw w wr xb v u l m) (hf : Frm S wr w1) (hs : ∀ k, k < wr.heap.size → S k → w.heap.size ≤ k ∧ k ≠ xb ∧ v.ownBlock ≠ some k ∧ u.ownBlock ≠ some k) : Xw w w1 xb v u l m :=
  ⟨h.at_.frm hf (fun hk => (hs xb h.at_.lt hk).2.1 rfl) (fun g hg hk => (hs g (h.at_.own g hg).2 hk).2.2.1 hg),
    owns_frm h.ref hf (fun g hg hk => (hs g (World.ownsRow.lt h.ref g hg).2 hk).2.2.2 hg), h.apart,
    h.frm.then_ hf (fun k hk h1 => by have h2 := h.frm.size; have := (hs k (by omega) h1).1; omega), h.base⟩
theorem Xw.to_ref (h : Xw w wr xb v u l m) (ho : w1.ownsRow wr.heap.size 52 14 u' m'.length (ecs m')) (hf : Frm0 wr w1) : Xw w w1 xb v u' l m' :=
  ⟨h.at_.frm0 hf, owns_base ho h.at_.lt, fun g hg hu => by have h1 := (h.at_.own g hg).2; have h2 := (World.ownsRow.lt ho g hu).1; omega, h.frm.trans hf, h.base⟩
theorem Xw.to_idx (h : Xw w wr xb v u l m) (hA : At w1 xb v' l') (hf : Frm (fun k => k = xb ∨ v.ownBlock = some k) wr w1) (ho : ∀ k, v'.ownBlock = some k → v.ownBlock = some k ∨ wr.heap.size ≤ k) : Xw w w1 xb v' u l' m :=
  ⟨hA, owns_frm h.ref hf (fun g hg hk => by
      rcases hk with hk | hk
      · have := (World.ownsRow.lt h.ref g hg).1; omega
      · exact h.apart g hk hg),
    fun g hg hu => by
      rcases ho g hg with h1 | h1
      · exact h.apart g h1 hu
      · have := (World.ownsRow.lt h.ref g hu).2; omega,
    h.frm.then_ hf (fun k hk h1 => by
      rcases h1 with h1 | h1
      · have := h.base; omega
      · have := h.at_.own k h1; have := h.base; omega), h.base⟩
theorem Xw.start (h : Frm0 w wr) (hA : At w1 xb (.slice none 0 0) []) (hf : Frm0 wr w1) (hx : wr.heap.size ≤ xb) : Xw w w1 xb (.slice none 0 0) (.slice none 0 0) [] [] :=
  ⟨hA, World.ownsRow_nil _ _ _ _, fun g hg => by simp [Value.ownBlock] at hg, h.trans hf, by have := h.size; omega⟩
theorem Xw.far (h : Xw w wr xb v u l m) {b : Nat} (hb : wr.heap.size ≤ b) : ¬ b = xb ∧ v.ownBlock ≠ some b ∧ u.ownBlock ≠ some b :=
  ⟨by have := h.at_.lt; omega, fun e => by have := (h.at_.own b e).2; omega, fun e => by have := (World.ownsRow.lt h.ref b e).2; omega⟩
end
section
variable {P : Program} {ops : Array Oper} {rest : List Oper} {o : Oper} {a : Act} {wr : World} {Q : Exit → Act → World → Prop}
/-- A struct stored into the block that was made right ahead of it. -/
theorem wpList_store_new (hgd : o.guard = none) (ty : TypeId) (x y : Operand) (ho : o.op = .store ty x y) {t : TypeId} {cs us : Array Value}
    (hx : a.eval x = .pointer (some ⟨wr.heap.size, 0, none⟩)) (hy : a.eval y = .agg us) {n : Nat} (hi : (P.info? ty).map (·.size) = some n) (hs : us.size = n) (hc : cs.size = n) (h1 : us.toList.all (·.oneCell') = true)
    (hK : ∀ w', w'.heap[wr.heap.size]? = some (.cells us t (0, 0)) → Frm0 wr w' → wpList P ops Q rest (a.put o.dst undef) w') : wpList P ops Q (o :: rest) a (wr.alloc (.cells cs t)) :=
  wpList_store_blk hgd ty x y ho (Bk.new wr _) hx hy hi hs hc h1 (fun w' h2 h3 => hK w' h2 (((Frm.refl (fun _ => False) wr).alloc _).then_ h3 (fun i hi e => by omega)))
/-- A struct loaded from the block that is its own, where a guard lets it. -/
theorem wpList_load_blk_gg (hw : Region.wanted o (yielded ops a.tmps) = true) (ty : TypeId) (x : Operand) (ho : o.op = .load ty x) {w : World} {b : Nat} {t : TypeId} {l : List Value} {d : TypeDesc} (h : w.heap[b]? = some (.cells l.toArray t (0, 0)))
    (hx : a.eval x = .pointer (some ⟨b, 0, none⟩)) (hu : P.underlying ty = some d) (hd : d.isRow = true) {n : Nat} (hi : (P.info? ty).map (·.size) = some n) (hl : l.length = n)
    (hK : wpList P ops Q rest (a.put o.dst (.agg l.toArray)) w) : wpList P ops Q (o :: rest) a w :=
  wpList_step fun _ hk => by rw [if_pos hw]; exact wp_load_mid ty x ho b 0 hx l d (Bk.range h l rfl) hu hd (by rw [hi, hl]) (hk _ _ hK)
end
theorem aft_le (l : List En) (x : Nam) (m : Nat) : (aft En.nm l x m).length ≤ l.length := by
  unfold aft
  have h1 := List.length_take_le m (l.filter (fun a => ahead x (En.nm a)))
  have h2 := List.length_filter_le (fun a => ahead x (En.nm a)) l
  rw [List.length_take]
  omega
theorem eq_en (e : En) (w : World) : (binOp .eql 52 (.agg e.cells.toArray) (.agg e.cells.toArray)).run Try.prog w = .ok (.bool true) w := by
  show (binOp .eql 52 (.agg #[.int .i64 e.tenant, .string e.key, .int .i64 e.state, .int .i64 e.epoch, .int .i64 e.token, .int .i64 e.point, .string e.print, .int .i64 e.lease, .int .i64 e.expiry, .int .i64 e.status, .string e.text, .string e.method, .string e.path, .string e.body]) (.agg #[.int .i64 e.tenant, .string e.key, .int .i64 e.state, .int .i64 e.epoch, .int .i64 e.token, .int .i64 e.point, .string e.print, .int .i64 e.lease, .int .i64 e.expiry, .int .i64 e.status, .string e.text, .string e.method, .string e.path, .string e.body])).run Try.prog w = .ok (.bool true) w
  rw [run_eql_struct]
  simp [go_sem]

set_option maxHeartbeats 16000000 in
theorem finds_walk (v : Value) (l : List En) (t : Int) (k : ByteArray) (n : Int) (w : World) (hs : Sl w v l.length (ecs l)) (hn : (Lit.int .i64 n).wf = true) :
    Calls Try.prog 8 #[v, .agg #[.int .i64 t, .string k], .int .i64 n] w fun e w' => e = .returned (.bool true) ∧ Below w.heap.size w w' := by
  have hlen := hs.len
  obtain ⟨A, cp, rfl⟩ := hs.form
  have HS := Lib.hid (fun (w9 : World) (hf : Frm0 w w9) => hs.frm0 hf)
  have hF0 := (Frm.refl (fun _ => False) w).alloc (.cells #[.int .i64 t, .string k] 59)
  obtain ⟨c0, c1⟩ := Bk.c2 (Bk.new w (.cells #[.int .i64 t, .string k] 59))
  clear hs
  go_enter Try.func8, Try.ntmps8
  go_upto_region 1 with (fail)
  generalize w.alloc (.cells #[.int .i64 t, .string k] 59) = W at *
  go_quiet (fail)
  have hF1 := hF0.drewN nq
  go_wp2_with fail
  refine (xawake _).mono ?_
  rintro e w2 ⟨rfl, hf2⟩
  have hF2 := hF1.trans hf2
  clear hF0 hF1 hf2 c0 c1
  by_cases h60 : 60 < l.length
  · have d1 : decide ((60 : Int) < (l.length : Int)) = true := decide_eq_true (by omega)
    go_wp2
    go_ret
    exact ⟨rfl, hF2.below (fun _ _ h => h)⟩
  have d1 : decide ((60 : Int) < (l.length : Int)) = false := decide_eq_false (by omega)
  go_wp2_with fail
  refine (new_any _).mono ?_
  rintro e w3 ⟨rfl, hA3, hf3⟩
  have hX := Xw.start hF2 hA3 hf3 (Nat.le_refl _)
  generalize w2.heap.size = xb at *
  clear hF2 hA3 hf3 d1
  go_wp2_with fail
  go_loopw [10, 32] (fun u i wr => ∃ (q : Nat) (m : List En) (vx : Value), q ≤ l.length ∧ i = .int .i64 q ∧ m.length ≤ q ∧ Xw w wr xb vx u m m) (fun _ i _ => l.length - (intOf i).toNat)
  case atStart => exact ⟨0, [], _, by omega, rfl, Nat.le_refl _, hX⟩
  case round =>
    clear hX
    obtain ⟨q, m, vx, hq, rfl, hm, hX⟩ := hrel
    obtain ⟨u, rfl⟩ : ∃ u, u = u10 := ⟨_, rfl⟩
    by_cases hlt : q < l.length
    · obtain ⟨g, o, rfl⟩ := sl_base (HS.out w (Frm.refl _ _)) (by omega)
      have hrg := sl_range (HS.out wr hX.frm) rfl q hlt
      obtain ⟨e, hee⟩ : ∃ e, l[q] = e := ⟨_, rfl⟩
      rw [hee] at hrg
      have hlt2 : (q : Int) < (l.length : Int) := by omega
      have hge2 : (0 : Int) ≤ (q : Int) := by omega
      clear hee
      go_upto_region 11 with (first
        | (refine wpList_load_mid rfl 52 (.tmp 34) rfl g (o + q * 14) rfl e.cells _ hrg Try.underlying52 rfl (by rw [iE]; rfl) ?_)
        | (refine wpList_store_new rfl 52 (.tmp 12) (.tmp 35) rfl rfl rfl iE (us := e.cells.toArray) rfl rfl (List.all_eq_true.2 (en_one e)) ?_; intro w9 hb9 hf9))
      have hX9 := hX.frm0 hf9
      have hfar := hX.far (Nat.le_refl _)
      clear hX hrg hf9
      generalize wr.heap.size = eb at *
      go_wp2_with (refine wpList_load_blk rfl 52 (.tmp 12) rfl (l := e.cells) hb9 rfl Try.underlying52 rfl iE rfl ?_)
      refine (put_any xb _ m e _ hX9.at_ (by omega)).mono ?_
      rintro e_ w4 ⟨v4, rfl, hA4, hf4, ho4⟩
      have hX4 := hX9.to_idx hA4 hf4 ho4
      have hb4 := hf4.blk hb9 (fun h => h.elim hfar.1 hfar.2.1)
      clear hX9 hA4 hf4 ho4 hb9
      go_wp2_with (refine wpList_load_blk rfl 52 (.tmp 12) rfl (l := e.cells) hb4 rfl Try.underlying52 rfl iE rfl ?_)
      refine (rput_any _ u m e _ hX4.ref (by omega)).mono ?_
      rintro e_ w5 ⟨u5, rfl, ho5, hf5⟩
      have hX5 := hX4.to_ref ho5 hf5
      have hln := put_len En.nm m e
      have hln2 : (put En.nm m e).length ≤ q + 1 := by split at hln <;> omega
      clear hX4 ho5 hf5 hb4 hln
      go_wp2
      go_roundw
      case rel => exact ⟨q + 1, _, v4, by omega, by go_num, hln2, hX5⟩
      case measure => simp [intOf]; omega
    · obtain rfl : q = l.length := by omega
      have hm60 : m.length ≤ 60 := by omega
      go_wp2_with fail
      refine (get_any xb _ m t k _ hX.at_).mono ?_
      rintro e w4 ⟨rfl, hf4⟩
      have hX4 := hX.frm0 hf4
      obtain ⟨e1, he1⟩ : ∃ e1, gt m (t, k.toList) = e1 := ⟨_, rfl⟩
      rw [he1]
      obtain ⟨b1, hb1⟩ : ∃ b1, found En.nm m (t, k.toList) = b1 := ⟨_, rfl⟩
      rw [hb1]
      clear hX hf4
      go_upto_region 15 with (refine wpList_store_new rfl 52 (.tmp 13) (.tmp 48) rfl rfl rfl iE (us := e1.cells.toArray) rfl rfl (List.all_eq_true.2 (en_one e1)) ?_; intro w5 hb5 hf5)
      have hX5 := hX4.frm0 hf5
      clear hX4 hf5
      generalize w4.heap.size = s13 at *
      go_wp2_with fail
      refine (rget_any u m t k _ (Sl.of_own hX5.ref) (by omega)).mono ?_
      rintro e w6 ⟨rfl, hf6⟩
      have hX6 := hX5.frm0 hf6
      have hb6 := hf6.blk hb5 (fun h => h)
      rw [he1, hb1]
      clear hX5 hf6 hb5
      go_upto_region 16 with (refine wpList_store_new rfl 52 (.tmp 15) (.tmp 55) rfl rfl rfl iE (us := e1.cells.toArray) rfl rfl (List.all_eq_true.2 (en_one e1)) ?_; intro w7 hb7 hf7)
      have hX7 := hX6.frm0 hf7
      have hb67 := hf7.blk hb6 (fun h => h)
      clear hX6 hf7 hb6
      generalize w6.heap.size = s15 at *
      go_wp2_with fail
      refine (at_any xb _ m n _ hX7.at_).mono ?_
      rintro e w8 ⟨rfl, hf8⟩
      have hX8 := hX7.frm0 hf8
      have hb68 := hf8.blk hb67 (fun h => h)
      have hb78 := hf8.blk hb7 (fun h => h)
      obtain ⟨e3, he3⟩ : ∃ e3, ati m n = e3 := ⟨_, rfl⟩
      rw [he3]
      obtain ⟨b3, hb3⟩ : ∃ b3, decide (0 ≤ n ∧ n < (m.length : Int)) = b3 := ⟨_, rfl⟩
      rw [hb3]
      have HB3 := Lib.hid hb3
      clear hX7 hf8 hb67 hb7 hb3
      go_upto_region 17 with (refine wpList_store_new rfl 52 (.tmp 17) (.tmp 61) rfl rfl rfl iE (us := e3.cells.toArray) rfl rfl (List.all_eq_true.2 (en_one e3)) ?_; intro w10 hb10 hf10)
      have hX10 := hX8.frm0 hf10
      have hb610 := hf10.blk hb68 (fun h => h)
      have hb710 := hf10.blk hb78 (fun h => h)
      clear hX8 hf10 hb68 hb78
      generalize w8.heap.size = s17 at *
      obtain ⟨UA, uc, rfl⟩ := (Sl.of_own hX10.ref).form
      go_upto_region 18 with (refine wpList_store_new rfl 52 (.tmp 19) (.tmp 63) rfl rfl rfl iE (us := en0.cells.toArray) rfl rfl (List.all_eq_true.2 (en_one en0)) ?_; intro w11 hb11 hf11)
      have hX12 := hX10.frm0 hf11
      have hb612 := hf11.blk hb610 (fun h => h)
      have hb712 := hf11.blk hb710 (fun h => h)
      have hb1012 := hf11.blk hb10 (fun h => h)
      have hlt9 := And.intro (Bk.lt hb610) (And.intro (Bk.lt hb710) (Bk.lt hb10))
      have hns := hX10.frm.size
      have hfar := hX10.far (Nat.le_refl _)
      clear hX10 hf11 hb610 hb710 hb10
      generalize w10.heap.size = s19 at *
      have HX := Lib.hid hX12
      have HE1 := eq_en e1
      have HE3 := eq_en e3
      have hb1b : (b1 == b1) = true := by cases b1 <;> rfl
      by_cases hin : 0 ≤ n ∧ n < (m.length : Int)
      · obtain ⟨nn, rfl⟩ := Int.eq_ofNat_of_zero_le hin.1
        have hnl : nn < m.length := by omega
        have hnl2 : (nn : Int) < (m.length : Int) := by omega
        have hge : (0 : Int) ≤ (nn : Int) := by omega
        have d1 : decide ((0 : Int) ≤ (nn : Int)) = true := decide_eq_true hge
        have d2 : decide ((nn : Int) < (m.length : Int)) = true := decide_eq_true hnl2
        obtain rfl : b3 = true := by rw [← HB3.out]; exact decide_eq_true hin
        have hmn : m[nn] = e3 := by rw [← he3]; unfold ati; rw [if_pos hin]; simp [List.getElem?_eq_getElem hnl]
        obtain ⟨ug, uo, rfl⟩ := sl_base (Sl.of_own hX12.ref) (by omega)
        have hrg := sl_range (Sl.of_own hX12.ref) rfl nn hnl
        rw [hmn] at hrg
        clear hmn he3 hX12 hin
        go_upto_region 20 with (first
          | (refine wpList_load_mid rfl 52 (.tmp 74) rfl ug (uo + nn * 14) rfl e3.cells _ hrg Try.underlying52 rfl (by rw [iE]; rfl) ?_)
          | (refine wpList_store_blk rfl 52 (.tmp 19) (.tmp 75) rfl hb11 rfl rfl iE (us := e3.cells.toArray) rfl rfl (List.all_eq_true.2 (en_one e3)) ?_; intro w13 hb13 hf13))
        have hX13 := HX.out.frmS hf13 (fun k hk h => by have h2 : k = s19 := h; subst h2; exact ⟨by omega, hfar.1, hfar.2.1, hfar.2.2⟩)
        have hb613 := hf13.blk hb612 (fun h => by have h2 : s13 = s19 := h; omega)
        have hb713 := hf13.blk hb712 (fun h => by have h2 : s15 = s19 := h; omega)
        have hb1013 := hf13.blk hb1012 (fun h => by have h2 : s17 = s19 := h; omega)
        clear HX hf13 hb612 hb712 hb1012 hb11 hrg
        go_wp2_with (first
          | (refine wpList_load_blk_gg (by rfl) 52 (.tmp 13) rfl (l := e1.cells) hb613 rfl Try.underlying52 rfl iE rfl ?_)
          | (refine wpList_load_blk_gg (by rfl) 52 (.tmp 15) rfl (l := e1.cells) hb713 rfl Try.underlying52 rfl iE rfl ?_)
          | (refine wpList_load_blk_gg (by rfl) 52 (.tmp 17) rfl (l := e3.cells) hb1013 rfl Try.underlying52 rfl iE rfl ?_)
          | (refine wpList_load_blk_gg (by rfl) 52 (.tmp 19) rfl (l := e3.cells) hb13 rfl Try.underlying52 rfl iE rfl ?_))
        refine (after_any xb _ m t k _ hn _ hX13.at_).mono ?_
        rintro e_ w14 ⟨v14, rfl, ho14, hf14⟩
        have hX14 := hX13.frm0 hf14
        clear hX13
        go_wp2_with fail
        refine (rafter_any _ m t k _ _ (Sl.of_own hX14.ref) (by omega)).mono ?_
        rintro e_ w15 ⟨v15, rfl, ho15, hf15⟩
        have hX15 := hX14.frm0 hf15
        have ho14 := owns_frm0 ho14 hf15
        clear hX14
        go_wp2_with fail
        refine (same_any _ _ _ _ (Sl.of_own ho14) (Sl.of_own ho15) (by have := aft_le m (t, k.toList) (nn : Int).toNat; omega)).mono ?_
        rintro e_ w16 ⟨rfl, hf16⟩
        have hX16 := hX15.frm0 hf16
        clear hX15 ho14 ho15 hf14 hf15 hf16
        go_wp2_with fail
        refine (ofm_any xb _ m t _ hX16.at_).mono ?_
        rintro e_ w17 ⟨v17, rfl, ho17, hf17⟩
        have hX17 := hX16.frm0 hf17
        clear hX16
        go_wp2_with fail
        refine (rof_any _ m t _ (Sl.of_own hX17.ref) (by omega)).mono ?_
        rintro e_ w18 ⟨v18, rfl, ho18, hf18⟩
        have hX18 := hX17.frm0 hf18
        have ho17 := owns_frm0 ho17 hf18
        clear hX17
        go_wp2_with fail
        refine (same_any _ _ _ _ (Sl.of_own ho17) (Sl.of_own ho18) (by have := List.length_filter_le (fun a => decide ((En.nm a).1 = t)) m; omega)).mono ?_
        rintro e_ w19 ⟨rfl, hf19⟩
        have hX19 := hX18.frm0 hf19
        go_wp2
        go_ret
        exact ⟨rfl, hX19.frm.below (fun _ _ h => h)⟩
      · have he30 : e3 = en0 := by rw [← he3]; unfold ati; rw [if_neg hin]
        obtain rfl : b3 = false := by rw [← HB3.out]; exact decide_eq_false hin
        subst he30
        have hX13 := hX12
        have hb613 := hb612
        have hb713 := hb712
        have hb1013 := hb1012
        have hb13 := hb11
        clear HX he3 hX12 hb612 hb712 hb1012 hb11
        by_cases h0 : 0 ≤ n
        · have hge2 : ¬ n < (m.length : Int) := fun h => hin ⟨h0, h⟩
          have d1 : decide ((0 : Int) ≤ n) = true := decide_eq_true h0
          have d2 : decide (n < (m.length : Int)) = false := decide_eq_false hge2
          clear hin
          go_wp2_with (first
            | (refine wpList_load_blk_gg (by rfl) 52 (.tmp 13) rfl (l := e1.cells) hb613 rfl Try.underlying52 rfl iE rfl ?_)
            | (refine wpList_load_blk_gg (by rfl) 52 (.tmp 15) rfl (l := e1.cells) hb713 rfl Try.underlying52 rfl iE rfl ?_)
            | (refine wpList_load_blk_gg (by rfl) 52 (.tmp 17) rfl (l := en0.cells) hb1013 rfl Try.underlying52 rfl iE rfl ?_)
            | (refine wpList_load_blk_gg (by rfl) 52 (.tmp 19) rfl (l := en0.cells) hb13 rfl Try.underlying52 rfl iE rfl ?_))
          refine (after_any xb _ m t k _ hn _ hX13.at_).mono ?_
          rintro e_ w14 ⟨v14, rfl, ho14, hf14⟩
          have hX14 := hX13.frm0 hf14
          clear hX13
          go_wp2_with fail
          refine (rafter_any _ m t k _ _ (Sl.of_own hX14.ref) (by omega)).mono ?_
          rintro e_ w15 ⟨v15, rfl, ho15, hf15⟩
          have hX15 := hX14.frm0 hf15
          have ho14 := owns_frm0 ho14 hf15
          clear hX14
          go_wp2_with fail
          refine (same_any _ _ _ _ (Sl.of_own ho14) (Sl.of_own ho15) (by have := aft_le m (t, k.toList) n.toNat; omega)).mono ?_
          rintro e_ w16 ⟨rfl, hf16⟩
          have hX16 := hX15.frm0 hf16
          clear hX15 ho14 ho15 hf14 hf15 hf16
          go_wp2_with fail
          refine (ofm_any xb _ m t _ hX16.at_).mono ?_
          rintro e_ w17 ⟨v17, rfl, ho17, hf17⟩
          have hX17 := hX16.frm0 hf17
          clear hX16
          go_wp2_with fail
          refine (rof_any _ m t _ (Sl.of_own hX17.ref) (by omega)).mono ?_
          rintro e_ w18 ⟨v18, rfl, ho18, hf18⟩
          have hX18 := hX17.frm0 hf18
          have ho17 := owns_frm0 ho17 hf18
          clear hX17
          go_wp2_with fail
          refine (same_any _ _ _ _ (Sl.of_own ho17) (Sl.of_own ho18) (by have := List.length_filter_le (fun a => decide ((En.nm a).1 = t)) m; omega)).mono ?_
          rintro e_ w19 ⟨rfl, hf19⟩
          have hX19 := hX18.frm0 hf19
          go_wp2
          go_ret
          exact ⟨rfl, hX19.frm.below (fun _ _ h => h)⟩
        · have d1 : decide ((0 : Int) ≤ n) = false := decide_eq_false h0
          clear hin
          go_wp2_with (first
            | (refine wpList_load_blk_gg (by rfl) 52 (.tmp 13) rfl (l := e1.cells) hb613 rfl Try.underlying52 rfl iE rfl ?_)
            | (refine wpList_load_blk_gg (by rfl) 52 (.tmp 15) rfl (l := e1.cells) hb713 rfl Try.underlying52 rfl iE rfl ?_)
            | (refine wpList_load_blk_gg (by rfl) 52 (.tmp 17) rfl (l := en0.cells) hb1013 rfl Try.underlying52 rfl iE rfl ?_)
            | (refine wpList_load_blk_gg (by rfl) 52 (.tmp 19) rfl (l := en0.cells) hb13 rfl Try.underlying52 rfl iE rfl ?_))
          refine (after_any xb _ m t k _ hn _ hX13.at_).mono ?_
          rintro e_ w14 ⟨v14, rfl, ho14, hf14⟩
          have hX14 := hX13.frm0 hf14
          clear hX13
          go_wp2_with fail
          refine (rafter_any _ m t k _ _ (Sl.of_own hX14.ref) (by omega)).mono ?_
          rintro e_ w15 ⟨v15, rfl, ho15, hf15⟩
          have hX15 := hX14.frm0 hf15
          have ho14 := owns_frm0 ho14 hf15
          clear hX14
          go_wp2_with fail
          refine (same_any _ _ _ _ (Sl.of_own ho14) (Sl.of_own ho15) (by have := aft_le m (t, k.toList) n.toNat; omega)).mono ?_
          rintro e_ w16 ⟨rfl, hf16⟩
          have hX16 := hX15.frm0 hf16
          clear hX15 ho14 ho15 hf14 hf15 hf16
          go_wp2_with fail
          refine (ofm_any xb _ m t _ hX16.at_).mono ?_
          rintro e_ w17 ⟨v17, rfl, ho17, hf17⟩
          have hX17 := hX16.frm0 hf17
          clear hX16
          go_wp2_with fail
          refine (rof_any _ m t _ (Sl.of_own hX17.ref) (by omega)).mono ?_
          rintro e_ w18 ⟨v18, rfl, ho18, hf18⟩
          have hX18 := hX17.frm0 hf18
          have ho17 := owns_frm0 ho17 hf18
          clear hX17
          go_wp2_with fail
          refine (same_any _ _ _ _ (Sl.of_own ho17) (Sl.of_own ho18) (by have := List.length_filter_le (fun a => decide ((En.nm a).1 = t)) m; omega)).mono ?_
          rintro e_ w19 ⟨rfl, hf19⟩
          have hX19 := hX18.frm0 hf19
          go_wp2
          go_ret
          exact ⟨rfl, hX19.frm.below (fun _ _ h => h)⟩
end Ix
end Go.Proofs.Ythggbohoedfkpaa
