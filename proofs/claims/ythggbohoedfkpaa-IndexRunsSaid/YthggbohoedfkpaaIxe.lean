/- Copies and moves in rows. -/
import Derived.Test.YthggbohoedfkpaaIxd
import Derived.Test.YthggbohoedfkpaaStp
import Derived.Lib.Overlaps
import Derived.Lib.AppendZerosOnto
import Derived.Laws.CopyRow
import Derived.Laws.Externs
namespace Go.Proofs.Ythggbohoedfkpaa
open Go.RowKit
set_option linter.unusedVariables false
set_option linter.unusedSimpArgs false
set_option maxRecDepth 100000
namespace Ix
section
variable {P : Program}
/-- A copy into a block that is known whole. -/
theorem run_copy_blk {w : World} {dT sT ty elem : TypeId} {g o dLen dCap : Nat} {a : Addr} {sLen sCap sz : Nat} {cur : Array Value} {t : TypeId} {cs : List Value}
    (hu : P.underlying dT = some (.slice elem)) (hs : (P.info? elem).map (·.size) = some sz)
    (hg : w.heap[g]? = some (.cells cur t (0, 0))) (hn : cs.length = Nat.min sLen dLen * sz)
    (hsrc : ∀ j v, cs[j]? = some v → w.cell? (a.add j) = some v) (hfit : o + cs.length ≤ cur.size) (h1 : ∀ v ∈ cs, v.oneCell' = true) :
    ∃ w', (Builtin.copy_ #[dT, sT] ty #[.slice (some ⟨g, o, none⟩) dLen dCap, .slice (some a) sLen sCap]).run P w = .ok (goInt (Nat.min sLen dLen)) w' ∧
      w'.heap[g]? = some (.cells (cur.toList.take o ++ cs ++ cur.toList.drop (o + cs.length)).toArray t (0, 0)) ∧ Frm (fun k => k = g) w w' := by
  refine ⟨w.setRow g (cur.toList.take o ++ cs ++ cur.toList.drop (o + cs.length)).toArray, ?_, setRow_heap w g cur _ t _ hg, ?_⟩
  · have hl := run_loadCells_list (P := P) w a cs hsrc
    have hst := run_storeCells_at P g o t cs 0 cur w hg (by simpa using hfit) h1
    cases hq : P.info? elem with
    | none => simp [hq] at hs
    | some i =>
      have hi : i.size = sz := by simpa [hq] using hs
      simp [Builtin.copy_, run_underlying hu, Builtin.lenOf, Builtin.firstCells, sizeOf, typeInfo, hq, hi, ← hn, hl, hst]
  · refine ⟨rfl, rfl, rfl, by simp [World.setRow], fun k hk hne => ?_⟩
    simp only [World.setRow]
    rw [Array.getElem?_modify, if_neg (fun e => hne e.symm)]
end
theorem wpList_copy_run' {P : Program} {w : World} {ops : Array Oper} {rest : List Oper} {o : Oper} {a : Act} {Q : Exit → Act → World → Prop} (hgd : o.guard = none) (d s : Operand) (t t' : TypeId)
    (ho : o.op = .call { callee := .builtin .copy, args := #[d, s], argTypes := #[t, t'] }) (v u : Value) (hd : a.eval d = v) (hs : a.eval s = u) {v' : Value} {w' : World}
    (hr : (Builtin.copy_ #[t, t'] o.type #[v, u]).run P w = .ok v' w') (h : wpList P ops Q rest (a.put o.dst v') w') : wpList P ops Q (o :: rest) a w :=
  wpList_plain hgd fun _ hK => by
    unfold Oper.wp execOp
    simp only [ho, resolve, invoke, builtin, Sem.run_bind, Sem.run_pure, Result.andThen_ok, List.map_toArray, List.map_cons, List.map_nil, hd, hs, hr]
    exact hK _ _ h
theorem wpList_app_run' {P : Program} {w : World} {ops : Array Oper} {rest : List Oper} {o : Oper} {a : Act} {Q : Exit → Act → World → Prop} (hgd : o.guard = none) (d s : Operand) (t t' : TypeId)
    (ho : o.op = .call { callee := .builtin .append, args := #[d, s], argTypes := #[t, t'] }) (v u : Value) (hd : a.eval d = v) (hs : a.eval s = u) {v' : Value} {w' : World}
    (hr : (Builtin.append_ #[t, t'] o.type #[v, u]).run P w = .ok v' w') (h : wpList P ops Q rest (a.put o.dst v') w') : wpList P ops Q (o :: rest) a w :=
  wpList_plain hgd fun _ hK => by
    unfold Oper.wp execOp
    simp only [ho, resolve, invoke, builtin, Sem.run_bind, Sem.run_pure, Result.andThen_ok, List.map_toArray, List.map_cons, List.map_nil, hd, hs, hr]
    exact hK _ _ h
theorem step_copy_run' {P : Program} {ops : Array Oper} {o : Oper} {a : Act} {w : World} {K : Act → World → Prop} {Q : Exit → Act → World → Prop} {E : Prop}
    (hg : o.guard = none) (d x : Operand) (dT sT : TypeId) (hop : o.op = Op.call { callee := Callee.builtin Builtin.copy, args := #[d, x], argTypes := #[dT, sT] })
    (v u : Value) (hd : a.eval d = v) (hx : a.eval x = u) {v' : Value} {w' : World} (hr : (Builtin.copy_ #[dT, sT] o.type #[v, u]).run P w = .ok v' w') (hK : K (a.put o.dst v') w') :
    if Region.wanted o (yielded ops a.tmps) = true then Oper.wp P o a w K Q else E := by
  have hw : Region.wanted o (yielded ops a.tmps) = true := by simp [Region.wanted, hg]
  rw [if_pos hw]
  unfold Oper.wp
  simp [execOp, hop, resolve, invoke, builtin, hd, hx, hr, Result.andThen]
  exact hK
/-! The lists that come of it. -/
theorem ins_room {α : Type} {cur xs us : List α} {I N Z : Nat} (hN : I ≤ N) (hus : us.length = Z) (hx : cur.take N = xs) (hc : N + Z ≤ cur.length) :
    ((((cur.take (I + Z) ++ xs.drop I ++ cur.drop (I + Z + (xs.drop I).length)).take I ++ us) ++ (cur.take (I + Z) ++ xs.drop I ++ cur.drop (I + Z + (xs.drop I).length)).drop (I + us.length))).take (N + Z) = xs.take I ++ us ++ xs.drop I := by
  have hxl : xs.length = N := by rw [← hx, List.length_take]; omega
  have e1 : (cur.take (I + Z) ++ xs.drop I ++ cur.drop (I + Z + (xs.drop I).length)).take I = xs.take I := by
    rw [List.append_assoc, List.take_append_of_le_length (by rw [List.length_take]; omega), List.take_take, ← hx, List.take_take, Nat.min_eq_left (by omega), Nat.min_eq_left hN]
  have e2 : (cur.take (I + Z) ++ xs.drop I ++ cur.drop (I + Z + (xs.drop I).length)).drop (I + us.length) = xs.drop I ++ cur.drop (I + Z + (xs.drop I).length) := by
    have hl : (cur.take (I + Z)).length = I + us.length := by rw [List.length_take, hus]; omega
    rw [List.append_assoc, ← hl, List.drop_left]
  rw [e1, e2]
  have hl2 : (xs.take I ++ us ++ xs.drop I).length = N + Z := by
    simp only [List.length_append, List.length_take, List.length_drop]; omega
  rw [show xs.take I ++ us ++ (xs.drop I ++ cur.drop (I + Z + (xs.drop I).length)) = (xs.take I ++ us ++ xs.drop I) ++ cur.drop (I + Z + (xs.drop I).length) by simp, ← hl2, List.take_left]
theorem ins_grow {α : Type} {xs us zs : List α} {I N Z : Nat} (hN : I ≤ N) (hus : us.length = Z) (hxl : xs.length = N) (hz : N + Z ≤ I + zs.length) :
    let R := xs.take I ++ zs
    let R1 := R.take I ++ us ++ R.drop (I + us.length)
    (R1.take (I + Z) ++ xs.drop I ++ R1.drop (I + Z + (xs.drop I).length)).take (N + Z) = xs.take I ++ us ++ xs.drop I := by
  intro R R1
  have hI : (xs.take I).length = I := by rw [List.length_take]; omega
  have e0 : R.take I = xs.take I := by
    show (xs.take I ++ zs).take I = _
    exact List.take_left' hI
  have e1 : R1.take (I + Z) = xs.take I ++ us := by
    show (R.take I ++ us ++ R.drop (I + us.length)).take (I + Z) = _
    rw [e0]
    have hl : (xs.take I ++ us).length = I + Z := by rw [List.length_append, hI, hus]
    rw [← hl, List.take_left]
  rw [e1]
  have hl2 : (xs.take I ++ us ++ xs.drop I).length = N + Z := by
    simp only [List.length_append, List.length_take, List.length_drop]; omega
  rw [← hl2, List.take_left]

section
variable {w w1 : World}
theorem EEn : Elt Try.prog 48 52 (.agg #[.int .i64 0, .string ⟨#[]⟩, .int .i64 0, .int .i64 0, .int .i64 0, .int .i64 0, .string ⟨#[]⟩, .int .i64 0, .int .i64 0, .int .i64 0, .string ⟨#[]⟩, .string ⟨#[]⟩, .string ⟨#[]⟩, .string ⟨#[]⟩]) 14 160 := Elt.mk' Try.underlying48 (by kernel_rfl) rfl (by omega)
set_option maxHeartbeats 2000000 in
/-- Insert at the end. -/
theorem ins_end (v : Value) (n vb base : Nat) (xs us : List Value) (w : World) (hown : w.ownsRow base 52 14 v n xs) (hv : w.heap[vb]? = some (.cells us.toArray 52 (0, 0))) (hul : us.length = 14) (h1 : ∀ u ∈ us, u.oneCell' = true) (hn : n ≤ 1000) (hbase : base ≤ w.heap.size) :
    Calls Try.prog 54 #[v, .int .i64 n, .slice (some ⟨vb, 0, none⟩) 1 1] w fun e w' => ∃ v', e = .returned v' ∧ w'.ownsRow base 52 14 v' (n + 1) (xs ++ us) ∧ Frm (fun k => v.ownBlock = some k) w w' ∧ (v'.ownBlock = v.ownBlock ∨ v'.ownBlock = some w.heap.size) := by
  have hsl : Sl w (.slice (some ⟨vb, 0, none⟩) 1 1) 1 us := .inr ⟨vb, 0, 1, rfl, by omega, by omega, by unfold maxLen; omega, Bk.lt hv, fun j u hu => by rw [Nat.zero_add, Bk.cell hv]; simpa using hu⟩
  obtain ⟨v', w', hr, ho', hf', hb'⟩ := run_append_sl EEn 48 base hown hsl hul h1 (by unfold maxLen; omega) (by omega) hbase
  obtain ⟨A, c, rfl⟩ := owns_nil_form' hown
  have HR := Lib.hid hr
  have HE := Lib.hid (fun c' => show (Value.slice A n c').ownBlock = (Value.slice A n c).ownBlock by cases A <;> rfl)
  clear hown hsl hv hr
  go_enter Try.func54, Try.ntmps54
  go_wp2_with (refine wpList_app_run' rfl _ _ 48 48 rfl _ _ rfl rfl HR.out ?_)
  all_goals (go_ret; first | exact ⟨v', rfl, ho', hf', hb'⟩ | exact ⟨v', rfl, ho', by rw [HE.out]; exact hf', by rw [HE.out]; exact hb'⟩)
theorem zeroCells_size (z : Array Value) (k : Nat) : (Builtin.zeroCells z k).size = k * z.size := by simp [Builtin.zeroCells]
theorem size_en : ∀ w : World, (Go.sizeOf 52).run Try.prog w = .ok 14 w := fun w => by
  obtain ⟨i, hi, _, hz, _⟩ := EEn.info
  simp [sizeOf, typeInfo, hi, hz]
set_option maxHeartbeats 4000000 in
/-- Insert where there is room. -/
theorem ins_shift (g n cap i vb : Nat) (cur : Array Value) (us : List Value) (w : World) (hg : w.heap[g]? = some (.cells cur 52 (0, 0))) (hcz : cur.size = cap * 14) (hcap : cap ≤ maxLen) (hroom : n + 1 ≤ cap) (hi : i < n) (hn : n ≤ 1000)
    (hv : w.heap[vb]? = some (.cells us.toArray 52 (0, 0))) (hul : us.length = 14) (h1u : ∀ u ∈ us, u.oneCell' = true) (h1c : ∀ u ∈ cur.toList.take (n * 14), u.oneCell' = true) (hvg : vb ≠ g) :
    Calls Try.prog 54 #[.slice (some ⟨g, 0, none⟩) n cap, .int .i64 i, .slice (some ⟨vb, 0, none⟩) 1 1] w fun e w' => e = .returned (.slice (some ⟨g, 0, none⟩) (n + 1) cap) ∧
      (∃ cur' : Array Value, w'.heap[g]? = some (.cells cur' 52 (0, 0)) ∧ cur'.size = cap * 14 ∧ cur'.toList.take ((n + 1) * 14) = (cur.toList.take (n * 14)).take (i * 14) ++ us ++ (cur.toList.take (n * 14)).drop (i * 14)) ∧ Frm (fun k => k = g) w w' := by
  have hsz : (Try.prog.info? 52).map (·.size) = some 14 := iE
  have hxl : (cur.toList.take (n * 14)).length = n * 14 := by rw [List.length_take, Array.length_toList]; omega
  have hov : ∀ (W : World) lb cb, W.heap[g]? = some (.cells cur 52 (0, 0)) → W.heap[vb]? = some (.cells us.toArray 52 (0, 0)) → (callFunc 71 #[.slice (some ⟨vb, 0, none⟩) 1 1, .slice (some ⟨g, (i + 1) * 14, none⟩) lb cb]).run Try.prog W = .ok (.value (.bool false)) W := fun W lb cb h1 h2 => by
    rw [run_callFunc_extern Try.func71 (by kernel_rfl) (by kernel_rfl) (by kernel_rfl) (e := Extern.SlicesOverlaps.overlaps #[48, 48] #[4]) (by kernel_rfl),
      Lib.run_overlaps_apart W 48 4 52 Try.underlying48 14 size_en ⟨vb, 0, none⟩ ⟨g, (i + 1) * 14, none⟩ 1 1 lb cb hvg 52 52 14 (cap * 14) (by simp [World.shape?, h2, hul]) (by simp [World.shape?, h1, hcz]) (by omega) (Bk.frozen h2 0) (Bk.frozen h2 14)]
    rfl
  have hz2 : ¬ ((i : Int) = (n : Int)) := by omega
  have hz3 : ((i : Int) == (n : Int)) = false := beq_eq_false_iff_ne.2 hz2
  have hz4 : ¬ i = n := by omega
  have hz5 : (i == n) = false := beq_eq_false_iff_ne.2 hz4
  have hw1 : IntKind.i64.wrap ((i : Int) + 1) = (i : Int) + 1 := by rw [IntKind.wrap_i64]; omega
  have hw2 : IntKind.i64.wrap ((n : Int) + 1) = (n : Int) + 1 := by rw [IntKind.wrap_i64]; omega
  have hb0 : (0 : Int) ≤ (i : Int) := by omega
  have hb1 : (0 : Int) ≤ (i : Int) + 1 := by omega
  have hin : i ≤ n := by omega
  have hb5 : (i : Int) ≤ (n : Int) := by omega
  have htn : ((i : Int) + 1).toNat = i + 1 := by omega
  have htn2 : ((n : Int) + 1).toNat = n + 1 := by omega
  have hb2 : ¬ (cap = i + 1) := by omega
  have hb3 : (i : Int) ≤ (n : Int) + 1 := by omega
  have hb4 : ¬ (cap = i) := by omega
  have hb6 : (n : Int) + 1 ≤ (cap : Int) := by omega
  have hb7 : decide ((cap : Int) < (n : Int) + 1) = false := decide_eq_false (by omega)
  have hb8 : (i : Int) + 1 ≤ (n : Int) + 1 := by omega
  have hb9 : (0 : Int) ≤ (n : Int) + 1 := by omega
  have HG := Lib.hid hg
  have HV := Lib.hid hv
  have HO := Lib.hid (hov w · · hg hv)
  clear hg hv hov
  go_enter Try.func54, Try.ntmps54
  go_upto_region 15 with (simp only [HO.out])
  have hdl : ((cur.toList.take (n * 14)).drop (i * 14)).length = (n - i) * 14 := by rw [List.length_drop, hxl, Nat.sub_mul]
  have hsrc1 : ∀ j v, ((cur.toList.take (n * 14)).drop (i * 14))[j]? = some v → w.drew.cell? ((⟨g, i * 14, none⟩ : Addr).add j) = some v := fun j v hj => by
    rw [add_none]
    show w.cell? ⟨g, i * 14 + j, none⟩ = some v
    rw [Bk.cell HG.out]
    rw [List.getElem?_drop, List.getElem?_take] at hj
    split at hj
    · simpa using hj
    · cases hj
  have hfit1 : (i + 1) * 14 + ((cur.toList.take (n * 14)).drop (i * 14)).length ≤ cur.size := by
    rw [hdl, hcz]
    have e1 : (i + 1) * 14 + (n - i) * 14 = (n + 1) * 14 := by omega
    have e2 : (n + 1) * 14 ≤ cap * 14 := Nat.mul_le_mul hroom (Nat.le_refl _)
    omega
  obtain ⟨w1, hr1, hk1, hf1⟩ := run_copy_blk (P := Try.prog) (w := w.drew) (dT := 48) (sT := 48) (ty := 3) (elem := 52) (g := g) (o := (i + 1) * 14) (dLen := n + 1 - (i + 1)) (dCap := cap - (i + 1)) (a := ⟨g, i * 14, none⟩) (sLen := n + 1 - i) (sCap := cap - i) (cs := (cur.toList.take (n * 14)).drop (i * 14))
    Try.underlying48 hsz (Bk.drew HG.out) (by rw [hdl]; congr 1; simp only [Nat.min_def]; split <;> omega) hsrc1 hfit1 (fun v hv => h1c v (List.mem_of_mem_drop hv))
  have HR1 := Lib.hid hr1
  clear hr1 hsrc1
  refine wp_region_held_drew (S := fun w9 => Frm (fun k => k = g) w w9) (by kernel_rfl) ((Frm.refl (fun k => k = g) _).drew) (fun hHeld => ?_)
  refine wpAnyH_take (i := 0) (v := ?_) rfl (by kernel_rfl) (by kernel_rfl) (by kernel_rfl) (fun _ _ _ h => h) (Or.inl ⟨by rfl, ?_⟩) (by assumption) ?_
  rotate_left 1
  focus (intro w hSw; (try dsimp only at hSw); go_simp; (try with_reducible rfl))
  (try simp only [Act.put, List.getElem_toArray, List.getElem_cons_succ, List.getElem_cons_zero, List.setIfInBounds_toArray, List.set_cons_zero, List.set_cons_succ])
  refine wpAnyH_take (i := 1) (v := ?_) rfl (by kernel_rfl) (by kernel_rfl) (by kernel_rfl) (fun _ _ _ h => h) (Or.inl ⟨by rfl, ?_⟩) (by assumption) ?_
  rotate_left 1
  focus (intro w hSw; (try dsimp only at hSw); go_simp; (try with_reducible rfl))
  (try simp only [Act.put, List.getElem_toArray, List.getElem_cons_succ, List.getElem_cons_zero, List.setIfInBounds_toArray, List.set_cons_zero, List.set_cons_succ])
  refine wpAnyH_take (i := 2) (v := ?_) rfl (by kernel_rfl) (by kernel_rfl) (by kernel_rfl) (fun _ _ _ h => h) (Or.inl ⟨by rfl, ?_⟩) (by assumption) ?_
  rotate_left 1
  focus (intro w hSw; (try dsimp only at hSw); go_simp; (try with_reducible rfl))
  (try simp only [Act.put, List.getElem_toArray, List.getElem_cons_succ, List.getElem_cons_zero, List.setIfInBounds_toArray, List.set_cons_zero, List.set_cons_succ])
  refine wpAnyH_take (i := 3) (v := ?_) rfl (by kernel_rfl) (by kernel_rfl) (by kernel_rfl) (fun _ _ _ h => h) (Or.inl ⟨by rfl, ?_⟩) (by assumption) ?_
  rotate_left 1
  focus (intro w hSw; (try dsimp only at hSw); go_simp; (try with_reducible rfl))
  (try simp only [Act.put, List.getElem_toArray, List.getElem_cons_succ, List.getElem_cons_zero, List.setIfInBounds_toArray, List.set_cons_zero, List.set_cons_succ])
  refine wpAnyH_take (i := 4) (v := ?_) rfl (by kernel_rfl) (by kernel_rfl) (by kernel_rfl) (fun _ _ _ h => h) (Or.inl ⟨by rfl, ?_⟩) (by assumption) ?_
  rotate_left 1
  focus (intro w hSw; (try dsimp only at hSw); go_simp; (try with_reducible rfl))
  (try simp only [Act.put, List.getElem_toArray, List.getElem_cons_succ, List.getElem_cons_zero, List.setIfInBounds_toArray, List.set_cons_zero, List.set_cons_succ])
  refine wpAnyH_take (i := 5) (v := ?_) rfl (by kernel_rfl) (by kernel_rfl) (by kernel_rfl) (fun _ _ _ h => h) (Or.inl ⟨by rfl, ?_⟩) (by assumption) ?_
  rotate_left 1
  focus (intro w hSw; (try dsimp only at hSw); go_simp; (try with_reducible rfl))
  (try simp only [Act.put, List.getElem_toArray, List.getElem_cons_succ, List.getElem_cons_zero, List.setIfInBounds_toArray, List.set_cons_zero, List.set_cons_succ])
  refine wpAnyH_take (i := 6) (v := ?_) rfl (by kernel_rfl) (by kernel_rfl) (by kernel_rfl) (fun _ _ _ h => h) (Or.inl ⟨by rfl, ?_⟩) (by assumption) ?_
  rotate_left 1
  focus (intro w hSw; (try dsimp only at hSw); go_simp; (try with_reducible rfl))
  (try simp only [Act.put, List.getElem_toArray, List.getElem_cons_succ, List.getElem_cons_zero, List.setIfInBounds_toArray, List.set_cons_zero, List.set_cons_succ])
  refine wpAnyH_take (i := 7) (v := ?_) rfl (by kernel_rfl) (by kernel_rfl) (by kernel_rfl) (fun _ _ _ h => h) (Or.inl ⟨by rfl, ?_⟩) (by assumption) ?_
  rotate_left 1
  focus (intro w hSw; (try dsimp only at hSw); go_simp; (try with_reducible rfl))
  (try simp only [Act.put, List.getElem_toArray, List.getElem_cons_succ, List.getElem_cons_zero, List.setIfInBounds_toArray, List.set_cons_zero, List.set_cons_succ])
  refine wpAnyH_ready (rs := [8]) (by kernel_rfl) (by simp) ?_
  refine AllReadyH.cons rfl (fun K hK => ?_) AllReadyH.nil
  refine step_copy_run' rfl (.tmp 73) (.tmp 76) 48 48 rfl (.slice (some ⟨g, (i + 1) * 14, none⟩) (n + 1 - (i + 1)) (cap - (i + 1))) (.slice (some ⟨g, i * 14, none⟩) (n + 1 - i) (cap - i)) (by simp [Act.eval, Act.put]) (by simp [Act.eval, Act.put]) HR1.out ?_
  have hF1 := ((Frm.refl (fun k => k = g) w).drew).trans hf1
  refine hK.out _ _ hF1 (fun hHeld => ?_)
  clear hK K
  (try simp only [Act.put, List.getElem_toArray, List.getElem_cons_succ, List.getElem_cons_zero, List.setIfInBounds_toArray, List.set_cons_zero, List.set_cons_succ])
  refine wpAnyH_done (by kernel_rfl) ?_ _
  have hv1 := hf1.blk (Bk.drew HV.out) hvg
  have e1 : (i + 1) * 14 = i * 14 + 14 := Nat.succ_mul i 14
  have e2 : (n + 1) * 14 = n * 14 + 14 := Nat.succ_mul n 14
  have e3 : (n + 1) * 14 ≤ cap * 14 := Nat.mul_le_mul hroom (Nat.le_refl _)
  have e4 : i * 14 ≤ n * 14 := Nat.mul_le_mul hin (Nat.le_refl _)
  obtain ⟨cur1, hc1⟩ : ∃ cur1, (cur.toList.take ((i + 1) * 14) ++ (cur.toList.take (n * 14)).drop (i * 14) ++ cur.toList.drop ((i + 1) * 14 + ((cur.toList.take (n * 14)).drop (i * 14)).length)).toArray = cur1 := ⟨_, rfl⟩
  rw [hc1] at hk1
  have hz1 : cur1.size = cap * 14 := by
    rw [← hc1]
    simp only [List.size_toArray, List.length_append, List.length_take, List.length_drop, Array.length_toList]
    omega
  have hmn : us.length = Nat.min 1 (n + 1 - i) * 14 := by
    have h : Nat.min 1 (n + 1 - i) = 1 := Nat.min_eq_left (by omega)
    rw [h, hul]
  obtain ⟨w2, hr2, hk2, hf2⟩ := run_copy_blk (P := Try.prog) (w := w1) (dT := 48) (sT := 48) (ty := 3) (elem := 52) (g := g) (o := i * 14) (dLen := n + 1 - i) (dCap := cap - i) (a := ⟨vb, 0, none⟩) (sLen := 1) (sCap := 1) (cs := us)
    Try.underlying48 hsz hk1 hmn (fun j v hj => by rw [add_none, Nat.zero_add, Bk.cell hv1]; simpa using hj) (by rw [hul, hz1]; omega) h1u
  have HR2 := Lib.hid hr2
  clear hr2
  go_wp2_with (refine wpList_copy_run' rfl _ _ 48 48 rfl (.slice (some ⟨g, i * 14, none⟩) (n + 1 - i) (cap - i)) (.slice (some ⟨vb, 0, none⟩) 1 1) rfl rfl HR2.out ?_)
  go_ret
  refine ⟨rfl, ⟨_, hk2, ?_, ?_⟩, hF1.trans hf2⟩
  · simp only [List.size_toArray, List.length_append, List.length_take, List.length_drop, Array.length_toList]
    omega
  · rw [← hc1, e1, e2, List.toList_toArray, List.toList_toArray]
    exact ins_room e4 hul rfl (by rw [Array.length_toList]; omega)
set_option maxHeartbeats 4000000 in
/-- Insert where there is no room. -/
theorem ins_more (g n i vb : Nat) (xs us : List Value) (cur : Array Value) (w : World) (hg : w.heap[g]? = some (.cells cur 52 (0, 0))) (hcz : cur.size = n * 14) (hxs : cur.toList.take (n * 14) = xs) (hi : i < n) (hn : n ≤ 1000)
    (hv : w.heap[vb]? = some (.cells us.toArray 52 (0, 0))) (hul : us.length = 14) (h1u : ∀ u ∈ us, u.oneCell' = true) (h1c : ∀ u ∈ xs, u.oneCell' = true) :
    Calls Try.prog 54 #[.slice (some ⟨g, 0, none⟩) n n, .int .i64 i, .slice (some ⟨vb, 0, none⟩) 1 1] w fun e w' => ∃ G, e = .returned (.slice (some ⟨w.heap.size, 0, none⟩) (n + 1) G) ∧ n + 1 ≤ G ∧ G ≤ maxLen ∧
      (∃ cur' : Array Value, w'.heap[w.heap.size]? = some (.cells cur' 52 (0, 0)) ∧ cur'.size = G * 14 ∧ cur'.toList.take ((n + 1) * 14) = xs.take (i * 14) ++ us ++ xs.drop (i * 14)) ∧ Frm0 w w' := by
  have hsz : (Try.prog.info? 52).map (·.size) = some 14 := iE
  obtain ⟨ii, hii, hzz, hzs, hzb⟩ := EEn.info
  have hxl : xs.length = n * 14 := by rw [← hxs, List.length_take, Array.length_toList]; omega
  have hik : i + (n + 1 - i) = n + 1 := by omega
  have e1 : (i + 1) * 14 = i * 14 + 14 := Nat.succ_mul i 14
  have e2 : (n + 1) * 14 = n * 14 + 14 := Nat.succ_mul n 14
  have e4 : i * 14 ≤ n * 14 := Nat.mul_le_mul (by omega) (Nat.le_refl _)
  have hcell : ∀ j v, xs[j]? = some v → w.cell? ⟨g, j, none⟩ = some v := fun j v hj => by
    rw [Bk.cell hg]
    rw [← hxs, List.getElem?_take] at hj
    split at hj
    · simpa using hj
    · cases hj
  have hold : (Builtin.firstCells ii.size i (.slice (some ⟨g, 0, none⟩) i n)).run Try.prog w.drew = .ok (xs.take (i * 14)).toArray w.drew := by
    rw [hzs]
    exact run_firstCells_some w.drew 14 i ⟨g, 0, none⟩ i n (xs.take (i * 14)) (by rw [List.length_take]; omega) (fun j v hj => by
      rw [add_none, Nat.zero_add]
      rw [List.getElem?_take] at hj
      split at hj
      · exact hcell j v hj
      · cases hj)
  have hkk : (n : Int) + 1 - (i : Int) = ((n + 1 - i : Nat) : Int) := by omega
  obtain ⟨G, hG⟩ : ∃ G, G = grownCap w (n + 1) n 52 := ⟨_, rfl⟩
  have hGn : n + 1 ≤ G := by rw [hG]; exact grownCap_ge w _ _ _
  have hGm : G ≤ maxLen := by rw [hG]; exact grownCap_le_maxLen w (n + 1) n 52 (by unfold maxLen; omega)
  obtain ⟨zz, hzz2⟩ : ∃ zz : List Value, (Builtin.zeroCells (Value.agg #[.int .i64 0, .string ⟨#[]⟩, .int .i64 0, .int .i64 0, .int .i64 0, .int .i64 0, .string ⟨#[]⟩, .int .i64 0, .int .i64 0, .int .i64 0, .string ⟨#[]⟩, .string ⟨#[]⟩, .string ⟨#[]⟩, .string ⟨#[]⟩]).cells (n + 1 - i) ++ Builtin.zeroCells (Value.agg #[.int .i64 0, .string ⟨#[]⟩, .int .i64 0, .int .i64 0, .int .i64 0, .int .i64 0, .string ⟨#[]⟩, .int .i64 0, .int .i64 0, .int .i64 0, .string ⟨#[]⟩, .string ⟨#[]⟩, .string ⟨#[]⟩, .string ⟨#[]⟩]).cells (G - (n + 1))).toList = zz ∧ zz.length = (G - i) * 14 := by
    refine ⟨_, rfl, ?_⟩
    rw [Array.length_toList, Array.size_append, zeroCells_size, zeroCells_size, ← Nat.add_mul]
    have h14 : (Value.agg #[.int .i64 0, .string ⟨#[]⟩, .int .i64 0, .int .i64 0, .int .i64 0, .int .i64 0, .string ⟨#[]⟩, .int .i64 0, .int .i64 0, .int .i64 0, .string ⟨#[]⟩, .string ⟨#[]⟩, .string ⟨#[]⟩, .string ⟨#[]⟩]).cells.size = 14 := rfl
    rw [h14]
    congr 1
    omega
  have hrz : ∀ ty, ∃ W1, (Builtin.append_ #[48, 3] ty #[.slice (some ⟨g, 0, none⟩) i n, .int .i64 ((n : Int) + 1 - (i : Int))]).run Try.prog w = .ok (.slice (some ⟨w.heap.size, 0, none⟩) (n + 1) G) W1 ∧
      W1.heap[w.heap.size]? = some (.cells (xs.take (i * 14) ++ zz).toArray 52 (0, 0)) ∧ Frm0 w W1 := fun ty => by
    have h := Lib.run_append_grow_zeros w 48 3 ty 52 ii _ .i64 .i64 Try.underlying48 Try.underlying3 hii hzz (some ⟨g, 0, none⟩) i n (xs.take (i * 14)) hold (n + 1 - i) (by omega) (by omega) (by omega) (by omega) (by rw [hzb]; omega) (by rw [hzb, hik]; exact growslice_fits (by omega) (by omega))
    rw [hik, ← hG] at h
    rw [hkk]
    refine ⟨_, h, ?_, ((Frm.refl (fun _ => False) w).drew).alloc _⟩
    have := Bk.new w.drew (.cells ((xs.take (i * 14)).toArray ++ Builtin.zeroCells (Value.agg #[.int .i64 0, .string ⟨#[]⟩, .int .i64 0, .int .i64 0, .int .i64 0, .int .i64 0, .string ⟨#[]⟩, .int .i64 0, .int .i64 0, .int .i64 0, .string ⟨#[]⟩, .string ⟨#[]⟩, .string ⟨#[]⟩, .string ⟨#[]⟩]).cells (n + 1 - i) ++ Builtin.zeroCells (Value.agg #[.int .i64 0, .string ⟨#[]⟩, .int .i64 0, .int .i64 0, .int .i64 0, .int .i64 0, .string ⟨#[]⟩, .int .i64 0, .int .i64 0, .int .i64 0, .string ⟨#[]⟩, .string ⟨#[]⟩, .string ⟨#[]⟩, .string ⟨#[]⟩]).cells (G - (n + 1))) 52)
    rw [← hzz2.1]
    refine this.trans ?_
    congr 2
    apply Array.toList_inj.1
    simp
  obtain ⟨W1, hra, hk1, hf1⟩ := hrz 48
  have hgl := Bk.lt hg
  have hvl := Bk.lt hv
  have hg1 := hf1.blk hg (fun h => h)
  have hv1 := hf1.blk hv (fun h => h)
  obtain ⟨N, hN⟩ : ∃ N, w.heap.size = N := ⟨_, rfl⟩
  rw [hN] at hra hk1 hgl hvl
  obtain ⟨R, hR⟩ : ∃ R : Array Value, (xs.take (i * 14) ++ zz).toArray = R := ⟨_, rfl⟩
  rw [hR] at hk1
  have hRz : R.size = G * 14 := by
    rw [← hR, List.size_toArray, List.length_append, List.length_take, hzz2.2, hxl, Nat.min_eq_left e4, ← Nat.add_mul]
    congr 1; omega
  have e3 : (n + 1) * 14 ≤ G * 14 := Nat.mul_le_mul hGn (Nat.le_refl _)
  have hmn : us.length = Nat.min 1 (n + 1 - i) * 14 := by
    have h : Nat.min 1 (n + 1 - i) = 1 := Nat.min_eq_left (by omega)
    rw [h, hul]
  obtain ⟨W2, hr2, hk2, hf2⟩ := run_copy_blk (P := Try.prog) (w := W1) (dT := 48) (sT := 48) (ty := 3) (elem := 52) (g := N) (o := i * 14) (dLen := n + 1 - i) (dCap := G - i) (a := ⟨vb, 0, none⟩) (sLen := 1) (sCap := 1) (cs := us)
    Try.underlying48 hsz hk1 hmn (fun j v hj => by rw [add_none, Nat.zero_add, Bk.cell hv1]; simpa using hj) (by rw [hul, hRz]; omega) h1u
  obtain ⟨R1, hR1⟩ : ∃ R1 : Array Value, (R.toList.take (i * 14) ++ us ++ R.toList.drop (i * 14 + us.length)).toArray = R1 := ⟨_, rfl⟩
  rw [hR1] at hk2
  have hR1z : R1.size = G * 14 := by
    rw [← hR1]
    simp only [List.size_toArray, List.length_append, List.length_take, List.length_drop, Array.length_toList]
    omega
  have hg2 := hf2.blk hg1 (show ¬ g = N by omega)
  have hdl : (xs.drop (i * 14)).length = (n - i) * 14 := by rw [List.length_drop, hxl, Nat.sub_mul]
  have hmn2 : (xs.drop (i * 14)).length = Nat.min (n - i) (n + 1 - (i + 1)) * 14 := by
    rw [hdl]; congr 1; simp only [Nat.min_def]; split <;> omega
  have hsrc : ∀ j v, (xs.drop (i * 14))[j]? = some v → W2.drew.cell? ((⟨g, i * 14, none⟩ : Addr).add j) = some v := fun j v hj => by
    rw [add_none]
    rw [List.getElem?_drop] at hj
    have h5 := hcell _ _ hj
    show W2.cell? _ = _
    exact hf2.cell (hf1.cell h5 (fun h => h)) (show ¬ g = N by omega)
  have hfit : (i + 1) * 14 + (xs.drop (i * 14)).length ≤ R1.size := by
    rw [hdl, hR1z]
    have e6 : (i + 1) * 14 + (n - i) * 14 = (n + 1) * 14 := by omega
    omega
  obtain ⟨W3, hr3, hk3, hf3⟩ := run_copy_blk (P := Try.prog) (w := W2.drew) (dT := 48) (sT := 48) (ty := 3) (elem := 52) (g := N) (o := (i + 1) * 14) (dLen := n + 1 - (i + 1)) (dCap := G - (i + 1)) (a := ⟨g, i * 14, none⟩) (sLen := n - i) (sCap := n - i) (cs := xs.drop (i * 14))
    Try.underlying48 hsz (Bk.drew hk2) hmn2 hsrc hfit (fun v hv => h1c v (List.mem_of_mem_drop hv))
  have HRA := Lib.hid hra
  have HR2 := Lib.hid hr2
  have HR3 := Lib.hid hr3
  have hFF : Frm0 w W3 := by
    refine (hf1.then_ (hf2.drew) (fun k hk e => ?_)).then_ hf3 (fun k hk e => ?_) <;> omega
  have hz2 : ¬ ((i : Int) = (n : Int)) := by omega
  have hz3 : ((i : Int) == (n : Int)) = false := beq_eq_false_iff_ne.2 hz2
  have hz4 : ¬ i = n := by omega
  have hz5 : (i == n) = false := beq_eq_false_iff_ne.2 hz4
  have hw1 : IntKind.i64.wrap ((i : Int) + 1) = (i : Int) + 1 := by rw [IntKind.wrap_i64]; omega
  have hw2 : IntKind.i64.wrap ((n : Int) + 1) = (n : Int) + 1 := by rw [IntKind.wrap_i64]; omega
  have hw3 : IntKind.i64.wrap ((n : Int) + 1 - (i : Int)) = (n : Int) + 1 - (i : Int) := by rw [IntKind.wrap_i64]; omega
  have hb0 : (0 : Int) ≤ (i : Int) := by omega
  have hb1 : (0 : Int) ≤ (i : Int) + 1 := by omega
  have hin : i ≤ n := by omega
  have hb5 : (i : Int) ≤ (n : Int) := by omega
  have htn : ((i : Int) + 1).toNat = i + 1 := by omega
  have hb3 : (i : Int) ≤ (n : Int) + 1 := by omega
  have hb4 : ¬ (n = i) := by omega
  have hb6 : ¬ (G = i) := by omega
  have hb10 : ¬ (G = i + 1) := by omega
  have hb7 : decide ((n : Int) < (n : Int) + 1) = true := decide_eq_true (by omega)
  have hb8 : (i : Int) + 1 ≤ (n : Int) + 1 := by omega
  clear hg hv hra hr2 hr3 hrz hold hii hzz hzs hzb hG hkk hsrc hcell hmn hmn2 hfit
  go_enter Try.func54, Try.ntmps54
  go_upto_region 11 with (first
    | (refine wpList_app_run' rfl _ _ 48 3 rfl (.slice (some ⟨g, 0, none⟩) i n) (.int .i64 ((n : Int) + 1 - (i : Int))) rfl rfl HRA.out ?_)
    | (refine wpList_copy_run' rfl _ _ 48 48 rfl (.slice (some ⟨N, i * 14, none⟩) (n + 1 - i) (G - i)) (.slice (some ⟨vb, 0, none⟩) 1 1) rfl rfl HR2.out ?_))
  refine wp_region_held_drew (S := fun w9 => True) (by kernel_rfl) trivial (fun hHeld => ?_)
  refine wpAnyH_take (i := 0) (v := ?_) rfl (by kernel_rfl) (by kernel_rfl) (by kernel_rfl) (fun _ _ _ h => h) (Or.inl ⟨by rfl, ?_⟩) (by assumption) ?_
  rotate_left 1
  focus (intro w hSw; (try dsimp only at hSw); go_simp; (try with_reducible rfl))
  (try simp only [Act.put, List.getElem_toArray, List.getElem_cons_succ, List.getElem_cons_zero, List.setIfInBounds_toArray, List.set_cons_zero, List.set_cons_succ])
  refine wpAnyH_take (i := 1) (v := ?_) rfl (by kernel_rfl) (by kernel_rfl) (by kernel_rfl) (fun _ _ _ h => h) (Or.inl ⟨by rfl, ?_⟩) (by assumption) ?_
  rotate_left 1
  focus (intro w hSw; (try dsimp only at hSw); go_simp; (try with_reducible rfl))
  (try simp only [Act.put, List.getElem_toArray, List.getElem_cons_succ, List.getElem_cons_zero, List.setIfInBounds_toArray, List.set_cons_zero, List.set_cons_succ])
  refine wpAnyH_take (i := 2) (v := ?_) rfl (by kernel_rfl) (by kernel_rfl) (by kernel_rfl) (fun _ _ _ h => h) (Or.inl ⟨by rfl, ?_⟩) (by assumption) ?_
  rotate_left 1
  focus (intro w hSw; (try dsimp only at hSw); go_simp; (try with_reducible rfl))
  (try simp only [Act.put, List.getElem_toArray, List.getElem_cons_succ, List.getElem_cons_zero, List.setIfInBounds_toArray, List.set_cons_zero, List.set_cons_succ])
  refine wpAnyH_take (i := 3) (v := ?_) rfl (by kernel_rfl) (by kernel_rfl) (by kernel_rfl) (fun _ _ _ h => h) (Or.inl ⟨by rfl, ?_⟩) (by assumption) ?_
  rotate_left 1
  focus (intro w hSw; (try dsimp only at hSw); go_simp; (try with_reducible rfl))
  (try simp only [Act.put, List.getElem_toArray, List.getElem_cons_succ, List.getElem_cons_zero, List.setIfInBounds_toArray, List.set_cons_zero, List.set_cons_succ])
  refine wpAnyH_take (i := 4) (v := ?_) rfl (by kernel_rfl) (by kernel_rfl) (by kernel_rfl) (fun _ _ _ h => h) (Or.inl ⟨by rfl, ?_⟩) (by assumption) ?_
  rotate_left 1
  focus (intro w hSw; (try dsimp only at hSw); go_simp; (try with_reducible rfl))
  (try simp only [Act.put, List.getElem_toArray, List.getElem_cons_succ, List.getElem_cons_zero, List.setIfInBounds_toArray, List.set_cons_zero, List.set_cons_succ])
  refine wpAnyH_take (i := 5) (v := ?_) rfl (by kernel_rfl) (by kernel_rfl) (by kernel_rfl) (fun _ _ _ h => h) (Or.inl ⟨by rfl, ?_⟩) (by assumption) ?_
  rotate_left 1
  focus (intro w hSw; (try dsimp only at hSw); go_simp; (try with_reducible rfl))
  (try simp only [Act.put, List.getElem_toArray, List.getElem_cons_succ, List.getElem_cons_zero, List.setIfInBounds_toArray, List.set_cons_zero, List.set_cons_succ])
  refine wpAnyH_take (i := 6) (v := ?_) rfl (by kernel_rfl) (by kernel_rfl) (by kernel_rfl) (fun _ _ _ h => h) (Or.inl ⟨by rfl, ?_⟩) (by assumption) ?_
  rotate_left 1
  focus (intro w hSw; (try dsimp only at hSw); go_simp; (try with_reducible rfl))
  (try simp only [Act.put, List.getElem_toArray, List.getElem_cons_succ, List.getElem_cons_zero, List.setIfInBounds_toArray, List.set_cons_zero, List.set_cons_succ])
  refine wpAnyH_take (i := 7) (v := ?_) rfl (by kernel_rfl) (by kernel_rfl) (by kernel_rfl) (fun _ _ _ h => h) (Or.inl ⟨by rfl, ?_⟩) (by assumption) ?_
  rotate_left 1
  focus (intro w hSw; (try dsimp only at hSw); go_simp; (try with_reducible rfl))
  (try simp only [Act.put, List.getElem_toArray, List.getElem_cons_succ, List.getElem_cons_zero, List.setIfInBounds_toArray, List.set_cons_zero, List.set_cons_succ])
  refine wpAnyH_ready (rs := [8]) (by kernel_rfl) (by simp) ?_
  refine AllReadyH.cons rfl (fun K hK => ?_) AllReadyH.nil
  refine step_copy_run' rfl (.tmp 50) (.tmp 53) 48 48 rfl (.slice (some ⟨N, (i + 1) * 14, none⟩) (n + 1 - (i + 1)) (G - (i + 1))) (.slice (some ⟨g, i * 14, none⟩) (n - i) (n - i)) (by simp [Act.eval, Act.put]) (by simp [Act.eval, Act.put]) HR3.out ?_
  refine hK.out _ _ trivial (fun hHeld => ?_)
  clear hK K
  (try simp only [Act.put, List.getElem_toArray, List.getElem_cons_succ, List.getElem_cons_zero, List.setIfInBounds_toArray, List.set_cons_zero, List.set_cons_succ])
  refine wpAnyH_done (by kernel_rfl) ?_ _
  go_wp2
  go_ret
  refine ⟨G, by rw [hN]; rfl, hGn, hGm, ⟨_, by rw [hN]; exact hk3, ?_, ?_⟩, hFF⟩
  · simp only [List.size_toArray, List.length_append, List.length_take, List.length_drop, Array.length_toList]
    omega
  · rw [← hR1, ← hR, e1, e2, List.toList_toArray, List.toList_toArray, List.toList_toArray]
    exact ins_grow e4 hul hxl (by rw [hzz2.2]; have : i * 14 + (G - i) * 14 = G * 14 := by rw [← Nat.add_mul]; congr 1; omega
                                  omega)
end
end Ix
end Go.Proofs.Ythggbohoedfkpaa
