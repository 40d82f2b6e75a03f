/- The client: contracts of Hear. -/
import Derived.Test.YteokiiolchpndaaClc
namespace Go.Proofs.Yteokiiolchpndaa
open Go.RowKit
set_option linter.unusedVariables false
set_option linter.unusedSimpArgs false
section
variable {w : World} {cb : Nat} {id : Int} {v : Value} {ls : List Ln}
theorem hear_out {x : Ln} {p : Option Addr} (y : An) (HA : AtSays w p y.serial x false) :
    Calls Try.prog 39 #[.pointer p, anV y] w fun e w' => e = .returned (.bool false) ∧ Frm0 w w' := by
  have hF0 := (Frm.refl (fun _ => False) w).alloc (.cells #[.int .i64 y.client, .int .i64 y.serial, .int .i64 y.status, .string y.text, .int .i64 y.after, .int .i64 y.epoch] 86)
  have HA := Lib.hid (HA _ hF0)
  unfold anV
  unfold lnV at HA
  obtain ⟨⟨y0, y1, y2, y3, y4, y5, y6⟩, a⟩ := x
  generalize Ln.ptr ⟨⟨y0, y1, y2, y3, y4, y5, y6⟩, a⟩ = y7 at *
  obtain ⟨z0, z1, z2, z3, z4, z5⟩ := y
  simp only at HA hF0 ⊢
  go_enter Try.func39, Try.ntmps39
  go_wp2_with fail
  refine HA.out.mono ?_
  rintro e w1 ⟨rfl, hf1⟩
  have hF := hF0.trans hf1
  go_wp2_with fail
  go_quiet (fail)
  go_wp2
  go_ret
  exact ⟨rfl, (hF.alloc _).drewN _⟩
theorem hear_not {x : Ln} (y : An) (h : Cl w cb id v ls) (HA : AtSays w (some ⟨cb, 0, none⟩) y.serial x true) (hc : y.client ≠ id ∨ (y.client = id ∧ ∃ g z, x.a = some (g, z))) :
    Calls Try.prog 39 #[.pointer (some ⟨cb, 0, none⟩), anV y] w fun e w' => e = .returned (.bool false) ∧ Frm0 w w' := by
  have hF0 := (Frm.refl (fun _ => False) w).alloc (.cells #[.int .i64 y.client, .int .i64 y.serial, .int .i64 y.status, .string y.text, .int .i64 y.after, .int .i64 y.epoch] 86)
  have hb0 := Bk.new w (.cells #[.int .i64 y.client, .int .i64 y.serial, .int .i64 y.status, .string y.text, .int .i64 y.after, .int .i64 y.epoch] 86)
  have HA := Lib.hid (HA _ hF0)
  unfold anV
  unfold lnV at HA
  obtain ⟨⟨y0, y1, y2, y3, y4, y5, y6⟩, a⟩ := x
  obtain ⟨z0, z1, z2, z3, z4, z5⟩ := y
  simp only at HA hF0 hc hb0 ⊢
  have hcs : ((z0 == id) = false ∧ (z0 != id) = true) ∨ (((z0 == id) = true ∧ (z0 != id) = false) ∧ ∃ g, Ln.ptr ⟨⟨y0, y1, y2, y3, y4, y5, y6⟩, a⟩ = some ⟨g, 0, none⟩) := by
    rcases hc with hc | ⟨hc, g, z, rfl⟩
    · exact .inl ⟨beq_eq_false_iff_ne.2 hc, by rw [bne, beq_eq_false_iff_ne.2 hc]; rfl⟩
    · exact .inr ⟨⟨beq_iff_eq.2 hc, by rw [bne, beq_iff_eq.2 hc]; rfl⟩, g, rfl⟩
  generalize Ln.ptr ⟨⟨y0, y1, y2, y3, y4, y5, y6⟩, a⟩ = y7 at *
  clear hc
  rcases hcs with ⟨d1, d2⟩ | ⟨⟨d1, d2⟩, g, rfl⟩
  all_goals
    go_enter Try.func39, Try.ntmps39
    go_wp2_with fail
    refine HA.out.mono ?_
    rintro e w1 ⟨rfl, hf1⟩
    have hF := hF0.trans hf1
    have c0 : ∀ o, (w1.alloc o).cell? ⟨cb, 0, none⟩ = some (.int .i64 id) := fun o => ((h.frm0 hF).frm0 ((Frm.refl _ w1).alloc o)).c0
    have r0 : ∀ o, (w1.alloc o).cell? ⟨w.heap.size, 0, none⟩ = some (.int .i64 z0) := fun o => Bk.cell (Bk.alloc (hf1.blk hb0 (fun h => h)) o) 0
    have r1 : ∀ o, (w1.alloc o).cell? ⟨w.heap.size, 1, none⟩ = some (.int .i64 z1) := fun o => Bk.cell (Bk.alloc (hf1.blk hb0 (fun h => h)) o) 1
    go_wp2_with fail
    go_quiet (fail)
    go_wp2
    go_ret
    exact ⟨rfl, (hF.alloc _).drewN _⟩
theorem Cl.told (h : Cl w cb id v ls) (k : Nat) (hk : k < ls.length) (y : An) {w1 : World} {g cap : Nat} (hv : v = .slice (some ⟨g, 0, none⟩) ls.length cap) (hf : Frm (fun _ => False) w w1) (hB : w1.heap[w.heap.size]? = some (.cells #[.int .i64 y.client, .int .i64 y.serial, .int .i64 y.status, .string y.text, .int .i64 y.after, .int .i64 y.epoch] 86 (0, 0))) :
    Cl (w1.setCell ⟨g, k * 8 + 7, none⟩ (.pointer (some ⟨w.heap.size, 0, none⟩))) cb id v (ls.set k ⟨(ls[k]).r, some (w.heap.size, y)⟩) := by
  have h1 := h.frm0 hf
  subst hv
  have hgb := h1.own g rfl
  have hgl := h.own g rfl
  refine ⟨Bk.far h1.blk (by simp; omega) _, ?_, fun x hx b a ha => ?_⟩
  · have := (h1.row.stored (k * 8 + 7) (.pointer (some ⟨w.heap.size, 0, none⟩))).1
    rw [show (Value.pointer (some ⟨w.heap.size, 0, none⟩)) = Value.pointer (Ln.ptr ⟨(ls[k]).r, some (w.heap.size, y)⟩) from rfl, flat_set Ln.cells 8 Ln.cells_len ls k 7 ls[k] ⟨(ls[k]).r, some (w.heap.size, y)⟩ _ (List.getElem?_eq_getElem hk) (by omega) rfl] at this
    rw [List.length_set]
    exact this
  · rcases List.mem_or_eq_of_mem_set hx with hx | rfl
    · obtain ⟨h3, h4, h5⟩ := h1.ans x hx b a ha
      refine ⟨h3, h4, Bk.far h5 (fun e => h4 ?_) _⟩
      simp at e
      subst e
      rfl
    · simp only [Option.some.injEq, Prod.mk.injEq] at ha
      obtain ⟨rfl, rfl⟩ := ha
      refine ⟨h.lt, fun e => ?_, Bk.far hB (by simp; omega) _⟩
      simp [Value.ownBlock] at e
      omega
set_option maxHeartbeats 1000000 in
set_option maxRecDepth 100000 in
theorem hear_yes (y : An) (h : Cl w cb id v ls) (hl : ls.length ≤ 1000000) (k : Nat) (hk : k < ls.length) (hs : y.serial = (k : Int) + 1) (hc : y.client = id) (hn : (ls[k]).a = none) :
    Calls Try.prog 39 #[.pointer (some ⟨cb, 0, none⟩), anV y] w fun e w' => e = .returned (.bool true) ∧ Cl w' cb id v (ls.set k ⟨(ls[k]).r, some (w.heap.size, y)⟩) ∧ Frm (fun j => v.ownBlock = some j) w w' := by
  have hF0 := (Frm.refl (fun _ => False) w).alloc (.cells #[.int .i64 y.client, .int .i64 y.serial, .int .i64 y.status, .string y.text, .int .i64 y.after, .int .i64 y.epoch] 86)
  have hb0 := Bk.new w (.cells #[.int .i64 y.client, .int .i64 y.serial, .int .i64 y.status, .string y.text, .int .i64 y.after, .int .i64 y.epoch] 86)
  have HA := Lib.hid (says_yes h hl k hk y.serial hs _ hF0)
  obtain ⟨g, cap, hv, _⟩ := h.line k hk
  have HT := Lib.hid (fun (w1 : World) => h.told k hk y (w1 := w1) hv)
  have HCl := Lib.hid (fun (w1 : World) (hf : Frm0 w w1) => (h.frm0 hf).line k hk)
  have HC0 := Lib.hid (fun (w1 : World) (hf : Frm0 w w1) => (h.frm0 hf).c0)
  have HC1 := Lib.hid (fun (w1 : World) (hf : Frm0 w w1) => (h.frm0 hf).c1)
  unfold anV
  unfold lnV at HA
  have hp : (ls[k]).ptr = none := by unfold Ln.ptr; rw [hn]; rfl
  rw [hp] at HA
  generalize hx : ls[k] = x at HA HT ⊢
  clear hp hn
  obtain ⟨⟨y0, y1, y2, y3, y4, y5, y6⟩, a⟩ := x
  obtain ⟨z0, z1, z2, z3, z4, z5⟩ := y
  simp only at HA hF0 hc hb0 HT hs ⊢
  subst hs hc
  have d1 : (z0 == z0) = true := beq_iff_eq.2 rfl
  have d2 : (z0 != z0) = false := by rw [bne, d1]; rfl
  have HX := Lib.hid hx
  have hki : (k : Int) < (ls.length : Int) := by omega
  subst hv
  clear hx
  go_enter Try.func39, Try.ntmps39
  go_wp2_with fail
  refine HA.out.mono ?_
  rintro e w1 ⟨rfl, hf1⟩
  have hF := hF0.trans hf1
  have hF2 := hF.alloc (.cells #[.int .i64 y0, .int .i64 y1, .int .i64 y2, .string y3, .string y4, .string y5, .string y6, .pointer none] 123)
  have c0 := HC0.out _ hF2
  have c1 := HC1.out _ hF2
  have hb1 := Bk.alloc (hf1.blk hb0 (fun h => h)) (.cells #[.int .i64 y0, .int .i64 y1, .int .i64 y2, .string y3, .string y4, .string y5, .string y6, .pointer none] 123)
  obtain ⟨r0, r1, _, _, _, _⟩ := Bk.c6 hb1
  obtain ⟨g', cap', he, x0, x1, x2, x3, x4, x5, x6, x7, x8⟩ := HCl.out _ hF2
  cases he
  clear x0 x1 x2 x3 x4 x5 x6
  go_wp2_with fail
  go_quiet (fail)
  have e1 : IntKind.i64.wrap (k : Int) = (k : Int) := IntWalk.i64_in _ (by omega)
  go_wp2_with fail
  refine st_tail 9 (by kernel_rfl) (by kernel_rfl) ?_
  simp only [List.take_succ_cons, List.take_zero, List.drop_succ_cons, List.drop_zero]
  repeat still_step
  refine wpStill_nil ?_
  go_wp2
  go_ret
  refine ⟨rfl, HT.out _ (hF2.drewN nq).drew hb1, (Frm.of0 (S := fun j => (Value.slice (some ⟨g, 0, none⟩) ls.length cap).ownBlock = some j) (hF2.drewN (nq + 1))).setCell ⟨g, k * 8 + 7, none⟩ (fun _ => rfl) _⟩
end
end Go.Proofs.Yteokiiolchpndaa
