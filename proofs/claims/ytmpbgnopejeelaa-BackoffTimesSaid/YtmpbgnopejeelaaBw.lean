/- Rows of bytes that may be appended to, out of a text's bytes too. -/
import Derived.Test.YtmpbgnopejeelaaPka
import Derived.Test.YtmpbgnopejeelaaS
import Derived.Deep.MidRow
namespace Go.Proofs.Ytmpbgnopejeelaa
open Go.RowKit
set_option linter.unusedVariables false
set_option linter.unusedSimpArgs false
set_option maxRecDepth 100000
/-- A row of bytes in a block behind base; as many as there is room for may be written. -/
structure Rw (w : World) (base : Nat) (v : Value) (l : List Nat) : Prop where
  ex : ∃ g cap, v = .slice (some ⟨g, 0, none⟩) l.length cap ∧ base ≤ g ∧ g < w.heap.size ∧ l.length ≤ cap ∧ cap ≤ maxLen ∧ (∀ j, j < l.length → w.cell? ⟨g, j, none⟩ = some (.int .u8 (l.getD j 0 : Nat))) ∧
    (∀ j, j < cap → (w.cell? ⟨g, j, none⟩).isSome = true ∧ w.frozen? ⟨g, j, none⟩ = false)
section
variable {w w1 : World} {base : Nat} {v : Value} {l cs : List Nat} {S : Nat → Prop}
theorem Rw.form (h : Rw w base v l) : ∃ g cap, v = .slice (some ⟨g, 0, none⟩) l.length cap ∧ base ≤ g ∧ g < w.heap.size := by
  obtain ⟨g, cap, h1, h2, h3, _⟩ := h.ex
  exact ⟨g, cap, h1, h2, h3⟩
theorem Rw.lt (h : Rw w base v l) (k : Nat) (hk : v.ownBlock = some k) : base ≤ k ∧ k < w.heap.size := by
  obtain ⟨g, cap, rfl, h2, h3⟩ := h.form
  cases hk
  exact ⟨h2, h3⟩
theorem Rw.frm (h : Rw w base v l) (hf : Frm S w w1) (hs : ∀ k, v.ownBlock = some k → ¬ S k) : Rw w1 base v l := by
  obtain ⟨g, cap, rfl, h2, h3, h4, h5, h6, h7⟩ := h.ex
  have hg := hs g rfl
  exact ⟨g, cap, rfl, h2, Nat.lt_of_lt_of_le h3 hf.size, h4, h5, fun j hj => hf.cell (h6 j hj) hg, fun j hj => by
    obtain ⟨u, hu⟩ := Option.isSome_iff_exists.1 (h7 j hj).1
    exact ⟨by rw [hf.cell hu hg]; rfl, (World.frozen?_of_block (hf.block g h3 hg)).trans (h7 j hj).2⟩⟩
theorem Rw.frm0 (h : Rw w base v l) (hf : Frm0 w w1) : Rw w1 base v l := h.frm hf (fun _ _ h => h)
theorem Rw.alloc (h : Rw w base v l) (o : Obj) : Rw (w.alloc o) base v l := h.frm0 ((Frm.refl _ _).alloc o)
theorem Rw.conv (h : Rw w base v l) : (convert 43 9 v).run Try.prog w = .ok (.string (txt l)) w := by
  obtain ⟨g, cap, rfl, h2, h3, h4, h5, h6, h7⟩ := h.ex
  exact Bts.conv ⟨h3, h6, fun j hj => (h7 j (by omega)).2⟩ rfl cap
theorem Rw.new (w : World) (s : ByteArray) (hs : s.size ≤ 1000000) : Rw (Lib.bytesWorld w 5 s) w.heap.size (.slice (some ⟨w.heap.size, 0, none⟩) s.size (grownCap w s.size 0 5)) (bytes s) := by
  have hb := Bts.new w s
  have hge := grownCap_ge w s.size 0 5
  have hsz : (Lib.bytesCells w 5 s).size = grownCap w s.size 0 5 := by
    unfold Lib.bytesCells
    rw [Array.size_append, Array.size_map, Array.size_replicate]
    have : s.data.size = s.size := rfl
    omega
  have hat := Lib.bytesWorld_at_new w 5 s
  refine ⟨w.heap.size, _, by rw [bytes_len], Nat.le_refl _, hb.lt, by rw [bytes_len]; exact hge, grownCap_le_maxLen w _ _ _ (by unfold maxLen; omega), hb.cell, fun j hj => ⟨?_, ?_⟩⟩
  · simp only [World.cell?, hat]
    rw [← hsz] at hj
    simp [hj]
  · unfold World.frozen?
    simp only [hat]
    rw [Bool.and_eq_false_iff]
    left
    simp
    omega
theorem u8s_at (l : List Nat) (j : Nat) (hj : j < l.length) : (Pk.u8s l)[j]? = some (.int .u8 (l.getD j 0 : Nat)) := by
  simp [Pk.u8s, List.getD_eq_getElem?_getD, List.getElem?_eq_getElem hj]
theorem Rw.app_run (h : Rw w base v l) {X c : Nat} (ty : TypeId) (hX : w.heap[X]? = some (.cells (Pk.u8s cs).toArray 5 (0, 0))) (hbase : base ≤ w.heap.size) (hlen : l.length + cs.length ≤ 1000000) :
    ∃ v' w', (Builtin.append_ #[43, 43] ty #[v, .slice (some ⟨X, 0, none⟩) cs.length c]).run Try.prog w = .ok v' w' ∧ Rw w' base v' (l ++ cs) ∧ Frm (fun k => v.ownBlock = some k) w w' := by
  obtain ⟨i, hi, hz, hsize, hby⟩ := Pk.Euint8.info
  have hund := Pk.Euint8.und
  obtain ⟨g, cap, rfl, h2, h3, h4, h5, h6, h7⟩ := h.ex
  have hl : (Pk.u8s cs).length = cs.length * i.size := by rw [Pk.u8s_len, hsize, Nat.mul_one]
  have hnews : ∀ j u, (Pk.u8s cs)[j]? = some u → w.cell? ((⟨X, 0, none⟩ : Addr).add j) = some u := fun j u hu => by
    rw [add_none, Bk.cell hX, Nat.zero_add, List.getElem?_toArray, hu]
  by_cases hroom : l.length + cs.length ≤ cap
  · have hf := run_firstCells_some (P := Try.prog) w i.size cs.length ⟨X, 0, none⟩ cs.length c (Pk.u8s cs) hl hnews
    have hst := run_storeCells_cells (P := Try.prog) g l.length (Pk.u8s cs) 0 w (fun j hj => by rw [Pk.u8s_len] at hj; exact (h7 _ (by omega)).1) (fun j hj => by rw [Pk.u8s_len] at hj; exact (h7 _ (by omega)).2) (Pk.u8s_one cs)
    rw [Nat.add_zero] at hst
    refine ⟨.slice (some ⟨g, 0, none⟩) (l.length + cs.length) cap, w.setCells g l.length (Pk.u8s cs), ?_, ?_, Frm.puts (S := fun k => (Value.slice (some ⟨g, 0, none⟩) l.length cap).ownBlock = some k) g (fun _ => rfl) _ _ _ (Frm.refl _ _)⟩
    · simp [Builtin.append_, run_underlying hund, sizeOf, typeInfo, hi, hsize, Builtin.lenOf, hroom, Addr.add_lit, hst]
      rw [hsize] at hf
      simp [hf, hst]
    · refine ⟨g, cap, by rw [List.length_append], h2, ?_, by rw [List.length_append]; exact hroom, h5, fun j hj => ?_, fun j hj => ⟨?_, ?_⟩⟩
      · exact Nat.lt_of_lt_of_le h3 (Frm.puts (S := fun k => k = g) g (fun _ => rfl) (Pk.u8s cs) l.length w (Frm.refl _ _)).size
      · rw [List.length_append] at hj
        by_cases hjl : j < l.length
        · rw [World.cell?_setCells_out g _ _ w ⟨g, j, none⟩ (fun _ _ => .inl hjl), h6 j hjl, List.getD_eq_getElem?_getD, List.getD_eq_getElem?_getD, List.getElem?_append_left hjl]
        · obtain ⟨i, rfl⟩ : ∃ i, j = l.length + i := ⟨j - l.length, by omega⟩
          have hj2 : i < cs.length := by omega
          rw [World.cell?_setCells_in g _ _ w (fun k hk => by rw [Pk.u8s_len] at hk; exact (h7 _ (by omega)).1) i (by rw [Pk.u8s_len]; exact hj2)]
          have := u8s_at cs i hj2
          rw [List.getElem?_eq_getElem (by rw [Pk.u8s_len]; exact hj2)] at this
          rw [this, List.getD_eq_getElem?_getD, List.getD_eq_getElem?_getD, List.getElem?_append_right (by omega), Nat.add_sub_cancel_left]
      · exact World.isSome_setCells _ _ _ _ _ (h7 j hj).1
      · rw [World.frozen?_setCells]
        exact (h7 j hj).2
  · have holds : ∀ j u, (Pk.u8s l)[j]? = some u → w.cell? ((⟨g, 0, none⟩ : Addr).add j) = some u := fun j u hu => by
      have hj : j < l.length := by have := (List.getElem?_eq_some_iff.1 hu).1; rwa [Pk.u8s_len] at this
      rw [add_none, Nat.zero_add, h6 j hj, ← u8s_at l j hj, hu]
    have hlo : (Pk.u8s l).length = l.length * i.size := by rw [Pk.u8s_len, hsize, Nat.mul_one]
    have hr := run_append_grow (P := Try.prog) w 43 ty 5 i _ hund hi hz ⟨g, 0, none⟩ l.length cap (Pk.u8s l) hlo holds ⟨X, 0, none⟩ cs.length c (Pk.u8s cs) hl hnews (by omega) (by omega) (growslice_fits (by omega) (by rw [hby]; omega))
    have hge := grownCap_ge w (l.length + cs.length) cap 5
    refine ⟨_, _, hr, ?_, ((Frm.refl _ w).drew.alloc _)⟩
    have hnw : (w.drew.alloc (.cells ((Pk.u8s l).toArray ++ (Pk.u8s cs).toArray ++ Builtin.zeroCells (Value.int .u8 0).cells (grownCap w (l.length + cs.length) cap 5 - (l.length + cs.length))) 5)).heap[w.heap.size]? = some (.cells ((Pk.u8s l).toArray ++ (Pk.u8s cs).toArray ++ Builtin.zeroCells (Value.int .u8 0).cells (grownCap w (l.length + cs.length) cap 5 - (l.length + cs.length))) 5 (0, 0)) := heap_alloc_new w.drew _
    refine ⟨w.heap.size, _, by rw [List.length_append], hbase, Bk.lt hnw, by rw [List.length_append]; exact hge, grownCap_le_maxLen w _ _ _ (by unfold maxLen; omega), fun j hj => ?_, fun j hj => ⟨?_, Bk.frozen hnw j⟩⟩
    · rw [Bk.cell hnw]
      have hj' : j < (Pk.u8s l ++ Pk.u8s cs).length := by rw [List.length_append, Pk.u8s_len, Pk.u8s_len, ← List.length_append]; exact hj
      rw [Array.getElem?_append_left (by simpa using hj'), List.append_toArray, ← Pk.u8s_app, List.getElem?_toArray, u8s_at _ j hj]
    · rw [Bk.cell hnw]
      have : j < ((Pk.u8s l).toArray ++ (Pk.u8s cs).toArray ++ Builtin.zeroCells (Value.int .u8 0).cells (grownCap w (l.length + cs.length) cap 5 - (l.length + cs.length))).size := by
        have h1 : (Value.int .u8 0).cells.size = 1 := rfl
        rw [Array.size_append, Array.size_append, List.size_toArray, List.size_toArray, Pk.u8s_len, Pk.u8s_len, size_zeroCells, h1, Nat.mul_one]
        omega
      rw [Array.getElem?_eq_getElem this]
      rfl
theorem wpList_append_rw {ops : Array Oper} {rest : List Oper} {o : Oper} {a : Act} {Q : Exit → Act → World → Prop} (hgd : o.guard = none) (s x : Operand)
    (ho : o.op = .call { callee := .builtin .append, args := #[s, x], argTypes := #[43, 43] }) {X c : Nat} (h : Rw w base v l) (hX : w.heap[X]? = some (.cells (Pk.u8s cs).toArray 5 (0, 0)))
    (hs : a.eval s = v) (hx : a.eval x = .slice (some ⟨X, 0, none⟩) cs.length c) (hbase : base ≤ w.heap.size) (hlen : l.length + cs.length ≤ 1000000)
    (hK : ∀ v' w', Rw w' base v' (l ++ cs) → Frm (fun k => v.ownBlock = some k) w w' → wpList Try.prog ops Q rest (a.put o.dst v') w') : wpList Try.prog ops Q (o :: rest) a w := by
  refine wpList_plain hgd fun K hK2 => ?_
  obtain ⟨v', w', hr, h2, h3⟩ := h.app_run o.type hX hbase hlen (c := c)
  unfold Oper.wp execOp
  simp only [ho, resolve, invoke, builtin, Sem.run_bind, Sem.run_pure, Result.andThen_ok, List.map_toArray, List.map_cons, List.map_nil, hs, hx, hr]
  exact hK2 _ _ (hK v' w' h2 h3)
end
end Go.Proofs.Ytmpbgnopejeelaa
