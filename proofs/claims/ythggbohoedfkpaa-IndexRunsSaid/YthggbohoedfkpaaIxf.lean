/- Insert, Delete and Clone, whole. -/
import Derived.Test.YthggbohoedfkpaaIxe
import Derived.Laws.OwnMore
import Derived.Lib.SliceRun
namespace Go.Proofs.Ythggbohoedfkpaa
open Go.RowKit
set_option linter.unusedVariables false
set_option linter.unusedSimpArgs false
set_option maxRecDepth 100000
namespace Ix
theorem step_app_run' {P : Program} {ops : Array Oper} {o : Oper} {a : Act} {w : World} {K : Act → World → Prop} {Q : Exit → Act → World → Prop} {E : Prop}
    (hg : o.guard = none) (d x : Operand) (dT sT : TypeId) (hop : o.op = Op.call { callee := Callee.builtin Builtin.append, args := #[d, x], argTypes := #[dT, sT] })
    (v u : Value) (hd : a.eval d = v) (hx : a.eval x = u) {v' : Value} {w' : World} (hr : (Builtin.append_ #[dT, sT] o.type #[v, u]).run P w = .ok v' w') (hK : K (a.put o.dst v') w') :
    if Region.wanted o (yielded ops a.tmps) = true then Oper.wp P o a w K Q else E := by
  have hw : Region.wanted o (yielded ops a.tmps) = true := by simp [Region.wanted, hg]
  rw [if_pos hw]
  unfold Oper.wp
  simp [execOp, hop, resolve, invoke, builtin, hd, hx, hr, Result.andThen]
  exact hK
theorem wpList_clear_run' {P : Program} {w : World} {ops : Array Oper} {rest : List Oper} {o : Oper} {a : Act} {Q : Exit → Act → World → Prop} (hgd : o.guard = none) (d : Operand) (t : TypeId)
    (ho : o.op = .call { callee := .builtin .clear, args := #[d], argTypes := #[t] }) (v : Value) (hd : a.eval d = v) {v' : Value} {w' : World}
    (hr : (Builtin.clear_ #[t] o.type #[v]).run P w = .ok v' w') (h : wpList P ops Q rest (a.put o.dst v') w') : wpList P ops Q (o :: rest) a w :=
  wpList_plain hgd fun _ hK => by
    unfold Oper.wp execOp
    simp only [ho, resolve, invoke, builtin, Sem.run_bind, Sem.run_pure, Result.andThen_ok, List.map_toArray, List.map_cons, List.map_nil, hd, hr]
    exact hK _ _ h
theorem run_clear_blk {P : Program} {w : World} {t e ty : TypeId} {z : Value} (ht : P.underlying t = some (.slice e)) (hv : ∀ w, (zeroValue e).run P w = .ok z w) (h1 : ∀ v ∈ (Builtin.zeroCells z.cells 1).toList, v.oneCell' = true) {g o c : Nat} {cur : Array Value} {tt : TypeId}
    (hg : w.heap[g]? = some (.cells cur tt (0, 0))) (hfit : o + z.cells.size ≤ cur.size) :
    ∃ w', (Builtin.clear_ #[t] ty #[.slice (some ⟨g, o, none⟩) 1 c]).run P w = .ok (.tuple #[]) w' ∧
      (∃ cur' : Array Value, w'.heap[g]? = some (.cells cur' tt (0, 0)) ∧ cur'.size = cur.size ∧ cur'.toList.take o = cur.toList.take o) ∧ Frm (fun k => k = g) w w' := by
  have hzl : (Builtin.zeroCells z.cells 1).toList.length = z.cells.size := by simp [Builtin.zeroCells]
  have hst := run_storeCells_at P g o tt (Builtin.zeroCells z.cells 1).toList 0 cur w hg (by rw [hzl]; simpa using hfit) h1
  obtain ⟨R, hR⟩ : ∃ R, (cur.toList.take (o + 0) ++ (Builtin.zeroCells z.cells 1).toList ++ cur.toList.drop (o + 0 + (Builtin.zeroCells z.cells 1).toList.length)).toArray = R := ⟨_, rfl⟩
  rw [hR] at hst
  refine ⟨w.setRow g R, ?_, ⟨R, setRow_heap w g cur R tt _ hg, ?_, ?_⟩, ?_⟩
  · simp [Builtin.clear_, run_underlying ht, hv, hst]
  · rw [← hR]
    simp only [List.size_toArray, List.length_append, List.length_take, List.length_drop, hzl, Array.length_toList, Nat.add_zero]
    omega
  · rw [← hR, List.toList_toArray, Nat.add_zero, List.append_assoc, List.take_left' (by rw [List.length_take, Array.length_toList]; omega)]
  · refine ⟨rfl, rfl, rfl, by simp [World.setRow], fun k hk hne => ?_⟩
    simp only [World.setRow]
    rw [Array.getElem?_modify, if_neg (fun e => hne e.symm)]
section
variable {w w1 : World}
/-- Insert, of whatever row. -/
theorem ins_any (v : Value) (n i vb base : Nat) (xs us : List Value) (w : World) (hown : w.ownsRow base 52 14 v n xs) (hv : w.heap[vb]? = some (.cells us.toArray 52 (0, 0))) (hul : us.length = 14) (h1u : ∀ u ∈ us, u.oneCell' = true) (h1c : ∀ u ∈ xs, u.oneCell' = true) (hi : i ≤ n) (hn : n ≤ 1000) (hbase : base ≤ w.heap.size) (hvg : v.ownBlock ≠ some vb) :
    Calls Try.prog 54 #[v, .int .i64 i, .slice (some ⟨vb, 0, none⟩) 1 1] w fun e w' => ∃ v', e = .returned v' ∧ w'.ownsRow base 52 14 v' (n + 1) (xs.take (i * 14) ++ us ++ xs.drop (i * 14)) ∧ Frm (fun k => v.ownBlock = some k) w w' ∧ (v'.ownBlock = v.ownBlock ∨ v'.ownBlock = some w.heap.size) := by
  have hl := hown.1
  by_cases hin : i = n
  · subst hin
    rw [← hl, List.take_length, List.drop_length, List.append_nil]
    exact ins_end v i vb base xs us w hown hv hul h1u hn hbase
  · have hlt : i < n := by omega
    have e4 : i * 14 ≤ n * 14 := Nat.mul_le_mul hi (Nat.le_refl _)
    have hres : (xs.take (i * 14) ++ us ++ xs.drop (i * 14)).length = (n + 1) * 14 := by
      simp only [List.length_append, List.length_take, List.length_drop]; omega
    rcases hown.2 with ⟨_, h0⟩ | ⟨g, cap, cur, rfl, hb, hg, hnc, hcm, hcs, htake⟩
    · omega
    · by_cases hroom : n + 1 ≤ cap
      · refine (ins_shift g n cap i vb cur us w hg hcs hcm hroom hlt hn hv hul h1u (by rw [htake]; exact h1c) (fun e => hvg (by rw [e]; rfl))).mono ?_
        rintro e w' ⟨rfl, ⟨cur', hg', hz', ht'⟩, hf⟩
        rw [htake] at ht'
        exact ⟨_, rfl, ⟨hres, .inr ⟨g, cap, cur', rfl, hb, hg', hroom, hcm, hz', ht'⟩⟩, hf.mono (fun k _ e => by rw [e]; rfl), .inl rfl⟩
      · obtain rfl : cap = n := by omega
        refine (ins_more g cap i vb xs us cur w hg hcs htake hlt hn hv hul h1u h1c).mono ?_
        rintro e w' ⟨G, rfl, h1, h2, ⟨cur', hg', hz', ht'⟩, hf⟩
        exact ⟨_, rfl, ⟨hres, .inr ⟨w.heap.size, G, cur', rfl, hbase, hg', h1, h2, hz', ht'⟩⟩, hf.of0, .inr rfl⟩
theorem zero_en : ∀ w : World, (zeroValue 52).run Try.prog w = .ok (.agg #[.int .i64 0, .string ⟨#[]⟩, .int .i64 0, .int .i64 0, .int .i64 0, .int .i64 0, .string ⟨#[]⟩, .int .i64 0, .int .i64 0, .int .i64 0, .string ⟨#[]⟩, .string ⟨#[]⟩, .string ⟨#[]⟩, .string ⟨#[]⟩]) w := fun w => by
  obtain ⟨i, hi, hz, _, _⟩ := EEn.info
  simp [zeroValue, typeInfo, hi, hz]
set_option maxHeartbeats 4000000 in
/-- One entry dropped. -/
theorem del_any (g p cap i base : Nat) (xs : List Value) (w : World) (hown : w.ownsRow base 52 14 (.slice (some ⟨g, 0, none⟩) (p + 1) cap) (p + 1) xs) (h1c : ∀ u ∈ xs, u.oneCell' = true) (hi : i ≤ p) (hn : p ≤ 1000) :
    Calls Try.prog 58 #[.slice (some ⟨g, 0, none⟩) (p + 1) cap, .int .i64 i, .int .i64 ((i : Int) + 1)] w fun e w' => e = .returned (.slice (some ⟨g, 0, none⟩) p cap) ∧ w'.ownsRow base 52 14 (.slice (some ⟨g, 0, none⟩) p cap) p (xs.take (i * 14) ++ xs.drop ((i + 1) * 14)) ∧ Frm (fun k => k = g) w w' := by
  have hl := hown.1
  rcases hown.2 with ⟨h0, _⟩ | ⟨g', cap', cur, he, hb, hg, hnc, hcm, hcs, htake⟩
  · cases h0
  cases he
  have e1 : (i + 1) * 14 = i * 14 + 14 := Nat.succ_mul i 14
  have e2 : (p + 1) * 14 = p * 14 + 14 := Nat.succ_mul p 14
  have e3 : (p + 1) * 14 ≤ cap * 14 := Nat.mul_le_mul hnc (Nat.le_refl _)
  have e4 : i * 14 ≤ p * 14 := Nat.mul_le_mul hi (Nat.le_refl _)
  have hown1 : w.drew.ownsRow base 52 14 (.slice (some ⟨g, 0, none⟩) i cap) i (xs.take (i * 14)) := ⟨by rw [List.length_take]; omega, .inr ⟨g, cap, cur, rfl, hb, hg, by omega, hcm, hcs, by rw [← htake, List.take_take, Nat.min_eq_left (by omega)]⟩⟩
  obtain ⟨A, hA⟩ : ∃ A : Addr, A = (if cap = i + 1 then ⟨g, 0, none⟩ else ⟨g, (i + 1) * 14, none⟩) := ⟨_, rfl⟩
  have hsrc : ∀ j u, (xs.drop ((i + 1) * 14))[j]? = some u → w.drew.cell? (A.add j) = some u := fun j u hj => by
    have hj2 := (List.getElem?_eq_some_iff.1 hj).1
    rw [List.length_drop] at hj2
    have hne : ¬ cap = i + 1 := by omega
    rw [hA, if_neg hne, add_none]
    show w.cell? _ = _
    rw [Bk.cell hg]
    rw [List.getElem?_drop, ← htake, List.getElem?_take] at hj
    split at hj
    · simpa using hj
    · cases hj
  obtain ⟨ii, hii, hzz, hzs, hzb⟩ := EEn.info
  obtain ⟨w1, hr1, ho1, hg1⟩ := run_append_fits (P := Try.prog) w.drew base 48 48 52 ii 14 Try.underlying48 hii hzs g i cap (xs.take (i * 14)) hown1 A (p - i) (cap - (i + 1)) (xs.drop ((i + 1) * 14)) (by rw [List.length_drop, hl, Nat.sub_mul]; omega) hsrc (fun u hu => h1c u (List.mem_of_mem_drop hu)) (by omega)
  have hip : i + (p - i) = p := by omega
  rw [hip] at hr1 ho1
  have hf1 : Frm (fun k => k = g) w w1 := ((Frm.refl (fun k => k = g) w).drew).grown hg1 (fun k hk _ => by cases hk; rfl)
  rcases ho1.2 with ⟨h0, _⟩ | ⟨g2, cap2, cur2, he2, hb2, hk2, hnc2, hcm2, hcs2, htake2⟩
  · cases h0
  cases he2
  obtain ⟨w2, hr2, ⟨cur3, hk3, hz3, ht3⟩, hf2⟩ := run_clear_blk (P := Try.prog) (w := w1) (t := 48) (e := 52) (ty := 0) (c := cap - p) Try.underlying48 zero_en (by decide +kernel) (o := p * 14) hk2 (by show p * 14 + 14 ≤ cur2.size; omega)
  have hown3 : w2.ownsRow base 52 14 (.slice (some ⟨g, 0, none⟩) p cap) p (xs.take (i * 14) ++ xs.drop ((i + 1) * 14)) := ⟨ho1.1, .inr ⟨g, cap, cur3, rfl, hb, hk3, by omega, hcm, by omega, by rw [ht3, htake2]⟩⟩
  have HR1 := Lib.hid hr1
  have HR2 := Lib.hid hr2
  have hw1 : IntKind.i64.wrap ((i : Int) + 1) = (i : Int) + 1 := by rw [IntKind.wrap_i64]; omega
  have hb0 : (0 : Int) ≤ (i : Int) := by omega
  have hb1 : (0 : Int) ≤ (i : Int) + 1 := by omega
  have hb2 : (i : Int) ≤ (i : Int) + 1 := by omega
  have hb3 : (i : Int) + 1 ≤ (p : Int) + 1 := by omega
  have hb4 : (p : Int) + 1 ≤ (cap : Int) := by omega
  have hb5 : ¬ ((i : Int) = (i : Int) + 1) := by omega
  have hb6 : ((i : Int) == (i : Int) + 1) = false := beq_eq_false_iff_ne.2 hb5
  have hb7 : (i : Int) ≤ (cap : Int) := by omega
  have hb8 : (p : Int) ≤ (p : Int) + 1 := by omega
  have hb9 : ¬ cap = p := by omega
  have hb10 : i ≤ cap := by omega
  have htn : ((i : Int) + 1).toNat = i + 1 := by omega
  have htn2 : ((p : Int) + 1).toNat = p + 1 := by omega
  clear hown hg hown1 hsrc hii hzz hzs hzb hr1 hr2 ho1 hg1 hk2 hk3 htake htake2
  by_cases hc : cap = i + 1
  · rw [if_pos hc] at hA
    subst hA
    have hpi : p = i := by omega
    subst hpi
    subst hc
    go_enter Try.func58, Try.ntmps58
    go_upto_region 5 with (fail)
    refine wp_region_held_drew (S := fun w9 => True) (by kernel_rfl) trivial (fun hHeld => ?_)
    refine wpAnyH_take (i := 0) (v := ?_) rfl (by kernel_rfl) (by kernel_rfl) (by kernel_rfl) (fun _ _ _ h => h) (Or.inl ⟨by rfl, ?_⟩) (by assumption) ?_
    rotate_left 1
    focus (intro w hSw; (try dsimp only at hSw); go_simp; (try with_reducible rfl))
    (try simp only [Act.put, List.getElem_toArray, List.getElem_cons_succ, List.getElem_cons_zero, List.setIfInBounds_toArray, List.set_cons_zero, List.set_cons_succ])
    refine wpAnyH_take (i := 1) (v := ?_) rfl (by kernel_rfl) (by kernel_rfl) (by kernel_rfl) (fun _ _ _ h => h) (Or.inl ⟨by rfl, ?_⟩) (by assumption) ?_
    rotate_left 1
    focus (intro w hSw; (try dsimp only at hSw); go_simp; (try with_reducible rfl))
    (try simp only [Act.put, List.getElem_toArray, List.getElem_cons_succ, List.getElem_cons_zero, List.setIfInBounds_toArray, List.set_cons_zero, List.set_cons_succ])
    refine wpAnyH_take (i := 2) (v := ?_) rfl (by kernel_rfl) (by kernel_rfl) (by kernel_rfl) (fun _ _ _ h => h) (Or.inl ⟨by rfl, ?_⟩) (by assumption) ?_
    rotate_left 1
    focus (intro w hSw; (try dsimp only at hSw); go_simp; (try with_reducible rfl))
    (try simp only [Act.put, List.getElem_toArray, List.getElem_cons_succ, List.getElem_cons_zero, List.setIfInBounds_toArray, List.set_cons_zero, List.set_cons_succ])
    refine wpAnyH_take (i := 3) (v := ?_) rfl (by kernel_rfl) (by kernel_rfl) (by kernel_rfl) (fun _ _ _ h => h) (Or.inl ⟨by rfl, ?_⟩) (by assumption) ?_
    rotate_left 1
    focus (intro w hSw; (try dsimp only at hSw); go_simp; (try with_reducible rfl))
    (try simp only [Act.put, List.getElem_toArray, List.getElem_cons_succ, List.getElem_cons_zero, List.setIfInBounds_toArray, List.set_cons_zero, List.set_cons_succ])
    refine wpAnyH_take (i := 4) (v := ?_) rfl (by kernel_rfl) (by kernel_rfl) (by kernel_rfl) (fun _ _ _ h => h) (Or.inl ⟨by rfl, ?_⟩) (by assumption) ?_
    rotate_left 1
    focus (intro w hSw; (try dsimp only at hSw); go_simp; (try with_reducible rfl))
    (try simp only [Act.put, List.getElem_toArray, List.getElem_cons_succ, List.getElem_cons_zero, List.setIfInBounds_toArray, List.set_cons_zero, List.set_cons_succ])
    refine wpAnyH_take (i := 5) (v := ?_) rfl (by kernel_rfl) (by kernel_rfl) (by kernel_rfl) (fun _ _ _ h => h) (Or.inl ⟨by rfl, ?_⟩) (by assumption) ?_
    rotate_left 1
    focus (intro w hSw; (try dsimp only at hSw); go_simp; (try with_reducible rfl))
    (try simp only [Act.put, List.getElem_toArray, List.getElem_cons_succ, List.getElem_cons_zero, List.setIfInBounds_toArray, List.set_cons_zero, List.set_cons_succ])
    refine wpAnyH_ready (rs := [6]) (by kernel_rfl) (by simp) ?_
    refine AllReadyH.cons rfl (fun K hK => ?_) AllReadyH.nil
    refine step_app_run' rfl (.tmp 22) (.tmp 25) 48 48 rfl (.slice (some ⟨g, 0, none⟩) p (p + 1)) (.slice (some ⟨g, 0, none⟩) (p - p) ((p + 1) - (p + 1))) (by simp [Act.eval, Act.put]) (by first | (simp [Act.eval, Act.put]; done) | (simp [Act.eval, Act.put]; omega)) HR1.out ?_
    refine hK.out _ _ trivial (fun hHeld => ?_)
    clear hK K
    (try simp only [Act.put, List.getElem_toArray, List.getElem_cons_succ, List.getElem_cons_zero, List.setIfInBounds_toArray, List.set_cons_zero, List.set_cons_succ])
    refine wpAnyH_take (i := 7) (v := ?_) rfl (by kernel_rfl) (by kernel_rfl) (by kernel_rfl) (fun _ _ _ h => h) (Or.inl ⟨by rfl, ?_⟩) (by assumption) ?_
    rotate_left 1
    focus (intro w hSw; (try dsimp only at hSw); go_simp; (try with_reducible rfl))
    (try simp only [Act.put, List.getElem_toArray, List.getElem_cons_succ, List.getElem_cons_zero, List.setIfInBounds_toArray, List.set_cons_zero, List.set_cons_succ])
    refine wpAnyH_done (by kernel_rfl) ?_ _
    go_wp2_with (refine wpList_clear_run' rfl _ 48 rfl (.slice (some ⟨g, p * 14, none⟩) 1 ((p + 1) - p)) (by first | rfl | simp [Act.eval, Act.put]) HR2.out ?_)
    go_ret
    exact ⟨rfl, hown3, hf1.trans hf2⟩
  · rw [if_neg hc] at hA
    subst hA
    go_enter Try.func58, Try.ntmps58
    go_upto_region 5 with (fail)
    refine wp_region_held_drew (S := fun w9 => True) (by kernel_rfl) trivial (fun hHeld => ?_)
    refine wpAnyH_take (i := 0) (v := ?_) rfl (by kernel_rfl) (by kernel_rfl) (by kernel_rfl) (fun _ _ _ h => h) (Or.inl ⟨by rfl, ?_⟩) (by assumption) ?_
    rotate_left 1
    focus (intro w hSw; (try dsimp only at hSw); go_simp; (try with_reducible rfl))
    (try simp only [Act.put, List.getElem_toArray, List.getElem_cons_succ, List.getElem_cons_zero, List.setIfInBounds_toArray, List.set_cons_zero, List.set_cons_succ])
    refine wpAnyH_take (i := 1) (v := ?_) rfl (by kernel_rfl) (by kernel_rfl) (by kernel_rfl) (fun _ _ _ h => h) (Or.inl ⟨by rfl, ?_⟩) (by assumption) ?_
    rotate_left 1
    focus (intro w hSw; (try dsimp only at hSw); go_simp; (try with_reducible rfl))
    (try simp only [Act.put, List.getElem_toArray, List.getElem_cons_succ, List.getElem_cons_zero, List.setIfInBounds_toArray, List.set_cons_zero, List.set_cons_succ])
    refine wpAnyH_take (i := 2) (v := ?_) rfl (by kernel_rfl) (by kernel_rfl) (by kernel_rfl) (fun _ _ _ h => h) (Or.inl ⟨by rfl, ?_⟩) (by assumption) ?_
    rotate_left 1
    focus (intro w hSw; (try dsimp only at hSw); go_simp; (try with_reducible rfl))
    (try simp only [Act.put, List.getElem_toArray, List.getElem_cons_succ, List.getElem_cons_zero, List.setIfInBounds_toArray, List.set_cons_zero, List.set_cons_succ])
    refine wpAnyH_take (i := 3) (v := ?_) rfl (by kernel_rfl) (by kernel_rfl) (by kernel_rfl) (fun _ _ _ h => h) (Or.inl ⟨by rfl, ?_⟩) (by assumption) ?_
    rotate_left 1
    focus (intro w hSw; (try dsimp only at hSw); go_simp; (try with_reducible rfl))
    (try simp only [Act.put, List.getElem_toArray, List.getElem_cons_succ, List.getElem_cons_zero, List.setIfInBounds_toArray, List.set_cons_zero, List.set_cons_succ])
    refine wpAnyH_take (i := 4) (v := ?_) rfl (by kernel_rfl) (by kernel_rfl) (by kernel_rfl) (fun _ _ _ h => h) (Or.inl ⟨by rfl, ?_⟩) (by assumption) ?_
    rotate_left 1
    focus (intro w hSw; (try dsimp only at hSw); go_simp; (try with_reducible rfl))
    (try simp only [Act.put, List.getElem_toArray, List.getElem_cons_succ, List.getElem_cons_zero, List.setIfInBounds_toArray, List.set_cons_zero, List.set_cons_succ])
    refine wpAnyH_take (i := 5) (v := ?_) rfl (by kernel_rfl) (by kernel_rfl) (by kernel_rfl) (fun _ _ _ h => h) (Or.inl ⟨by rfl, ?_⟩) (by assumption) ?_
    rotate_left 1
    focus (intro w hSw; (try dsimp only at hSw); go_simp; (try with_reducible rfl))
    (try simp only [Act.put, List.getElem_toArray, List.getElem_cons_succ, List.getElem_cons_zero, List.setIfInBounds_toArray, List.set_cons_zero, List.set_cons_succ])
    refine wpAnyH_ready (rs := [6]) (by kernel_rfl) (by simp) ?_
    refine AllReadyH.cons rfl (fun K hK => ?_) AllReadyH.nil
    refine step_app_run' rfl (.tmp 22) (.tmp 25) 48 48 rfl (.slice (some ⟨g, 0, none⟩) i cap) (.slice (some ⟨g, (i + 1) * 14, none⟩) (p - i) (cap - (i + 1))) (by simp [Act.eval, Act.put]) (by first | (simp [Act.eval, Act.put, hc]; done) | (simp [Act.eval, Act.put, hc]; omega)) HR1.out ?_
    refine hK.out _ _ trivial (fun hHeld => ?_)
    clear hK K
    (try simp only [Act.put, List.getElem_toArray, List.getElem_cons_succ, List.getElem_cons_zero, List.setIfInBounds_toArray, List.set_cons_zero, List.set_cons_succ])
    refine wpAnyH_take (i := 7) (v := ?_) rfl (by kernel_rfl) (by kernel_rfl) (by kernel_rfl) (fun _ _ _ h => h) (Or.inl ⟨by rfl, ?_⟩) (by assumption) ?_
    rotate_left 1
    focus (intro w hSw; (try dsimp only at hSw); go_simp; (try with_reducible rfl))
    (try simp only [Act.put, List.getElem_toArray, List.getElem_cons_succ, List.getElem_cons_zero, List.setIfInBounds_toArray, List.set_cons_zero, List.set_cons_succ])
    refine wpAnyH_done (by kernel_rfl) ?_ _
    go_wp2_with (refine wpList_clear_run' rfl _ 48 rfl (.slice (some ⟨g, p * 14, none⟩) 1 (cap - p)) (by first | rfl | simp [Act.eval, Act.put]) HR2.out ?_)
    go_ret
    exact ⟨rfl, hown3, hf1.trans hf2⟩
theorem own_empty (w : World) : (w.alloc (.cells #[] 52)).ownsRow w.heap.size 52 14 (.slice (some ⟨w.heap.size, 0, none⟩) 0 0) 0 [] :=
  ⟨rfl, .inr ⟨w.heap.size, 0, #[], rfl, Nat.le_refl _, Bk.new _ _, Nat.le_refl _, by decide, rfl, rfl⟩⟩
set_option maxHeartbeats 2000000 in
/-- A copy of a row. -/
theorem clone_any (v : Value) (n : Nat) (cs : List Value) (w : World) (hs : Sl w v n cs) (hl : cs.length = n * 14) (h1 : ∀ c ∈ cs, c.oneCell' = true) (hn : n ≤ 1000) :
    Calls Try.prog 55 #[v] w fun e w' => ∃ v', e = .returned v' ∧ w'.ownsRow w.heap.size 52 14 v' n cs ∧ Frm0 w w' := by
  obtain ⟨A, c, rfl⟩ := hs.form
  cases A with
  | none =>
    have h0 : n = 0 := by
      rcases hs with ⟨_, _, _, h, _⟩ | ⟨_, _, _, h, _⟩
      · exact h
      · cases h
    subst h0
    have hcs : cs = [] := List.eq_nil_of_length_eq_zero (by omega)
    subst hcs
    clear hs
    have HE : ∀ w, (binOp .eql 48 (.slice none 0 c) (.slice none 0 0)).run Try.prog w = .ok (.bool true) w := fun w => Lib.run_eql_slice_nil w 48 52 none 0 c 0 0 Try.underlying48
    go_enter Try.func55, Try.ntmps55
    go_wp2
    go_ret
    exact ⟨_, rfl, World.ownsRow_nil _ _ _ _, Frm.refl _ _⟩
  | some a =>
    have hsl := Lib.hid (hs.frm0 ((Frm.refl (fun _ => False) w).alloc (.cells #[] 52)))
    have hown := Lib.hid (own_empty w)
    have hF := (Frm.refl (fun _ => False) w).alloc (.cells #[] 52)
    have h1 := Lib.hid h1
    have hl := Lib.hid hl
    clear hs
    obtain ⟨g, o, p⟩ := a
    have HE : ∀ w, (binOp .eql 48 (.slice (some ⟨g, o, p⟩) n c) (.slice none 0 0)).run Try.prog w = .ok (.bool false) w := fun w => Lib.run_eql_slice_nil w 48 52 _ n c 0 0 Try.underlying48
    go_enter Try.func55, Try.ntmps55
    go_wp2_with (refine wpList_append_sl rfl (.tmp 5) (.tmp 6) rfl EEn w.heap.size (.slice (some ⟨w.heap.size, 0, none⟩) 0 0) _ 0 n [] cs rfl rfl hown.out hsl.out hl.out h1.out (by unfold maxLen; omega) (by omega) (by simp) ?_; intro v' w' ho' hf' hb')
    go_ret
    rw [Nat.zero_add] at ho'
    exact ⟨v', rfl, ho', hF.then_ hf' (fun k hk e => by have e2 : w.heap.size = k := Option.some.inj e; omega)⟩
end
end Ix
end Go.Proofs.Ythggbohoedfkpaa
