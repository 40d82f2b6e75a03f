/- The client: contract of Ask. -/
import Derived.Test.YteokiiolchpndaaCld
import Derived.Deep.AppendLies
namespace Go.Proofs.Yteokiiolchpndaa
open Go.RowKit
set_option linter.unusedVariables false
set_option linter.unusedSimpArgs false
section
variable {w : World} {cb : Nat} {id : Int} {v : Value} {ls : List Ln}
def asks (id : Int) (ls : List Ln) (r : Rq) : Rq := ⟨id, (ls.length : Int) + 1, r.tenant, r.key, r.method, r.path, r.body⟩
theorem nxt_len (n : Nat) (h : n ≤ 100000) : nxt (n : Int) = ((n : Int) + 1, 0) := by unfold nxt; rw [if_neg (by omega), if_neg (by omega)]
set_option maxHeartbeats 2000000 in
set_option maxRecDepth 100000 in
theorem ask_any (r : Rq) (h : Cl w cb id v ls) (hl : ls.length ≤ 900) :
    Calls Try.prog 37 #[.pointer (some ⟨cb, 0, none⟩), rqV r] w fun e w' => ∃ v', e = .returned (.tuple #[rqV (asks id ls r), .int .i64 0]) ∧ Cl w' cb id v' (ls ++ [⟨asks id ls r, none⟩]) ∧ (∀ k, v'.ownBlock = some k → v.ownBlock = some k ∨ w.heap.size ≤ k) ∧ Frm (fun k => k = cb ∨ v.ownBlock = some k) w w' := by
  have HN := Lib.hid (fun w => next_any (ls.length : Int) w)
  rw [nxt_len _ (by omega)] at HN
  have c0 := h.c0
  have c1 := h.c1
  have hlt := h.lt
  have hAo := h.own
  have hroom := h.row
  have HH := Lib.hid h
  obtain ⟨A, c, rfl⟩ := h.form
  obtain ⟨y0, y1, y2, y3, y4, y5, y6⟩ := r
  unfold rqV asks
  simp only
  clear h
  go_enter Try.func37, Try.ntmps37
  go_wp2_with fail
  refine (HN.out _).mono ?_
  rintro e w1 ⟨rfl, rfl⟩
  go_wp2_with fail
  have hbP := Bk.alloc (Bk.new w (.cells #[.int .i64 id, .int .i64 ((ls.length : Int) + 1), .int .i64 y2, .string y3, .string y4, .string y5, .string y6] 84)) (.cells #[.int .i64 0, .int .i64 0, .int .i64 0, .string ⟨#[]⟩, .string ⟨#[]⟩, .string ⟨#[]⟩, .string ⟨#[]⟩] 84)
  have hbR := new_second w (.cells #[.int .i64 id, .int .i64 ((ls.length : Int) + 1), .int .i64 y2, .string y3, .string y4, .string y5, .string y6] 84) (.cells #[.int .i64 0, .int .i64 0, .int .i64 0, .string ⟨#[]⟩, .string ⟨#[]⟩, .string ⟨#[]⟩, .string ⟨#[]⟩] 84)
  have hF2 := ((Frm.refl (fun _ => False) w).alloc (.cells #[.int .i64 id, .int .i64 ((ls.length : Int) + 1), .int .i64 y2, .string y3, .string y4, .string y5, .string y6] 84)).alloc (.cells #[.int .i64 0, .int .i64 0, .int .i64 0, .string ⟨#[]⟩, .string ⟨#[]⟩, .string ⟨#[]⟩, .string ⟨#[]⟩] 84)
  generalize (w.alloc (.cells #[.int .i64 id, .int .i64 ((ls.length : Int) + 1), .int .i64 y2, .string y3, .string y4, .string y5, .string y6] 84)).alloc (.cells #[.int .i64 0, .int .i64 0, .int .i64 0, .string ⟨#[]⟩, .string ⟨#[]⟩, .string ⟨#[]⟩, .string ⟨#[]⟩] 84) = w2 at *
  have h2 := HH.out.frm0 hF2
  have b2 := h2.c1
  have hr2 := h2.row
  have hlt2 := Bk.lt hbR
  have b2a : (w2.alloc (.cells #[.int .i64 id, .int .i64 ((ls.length : Int) + 1), .int .i64 y2, .string y3, .string y4, .string y5, .string y6, .pointer none] 123)).cell? ⟨cb, 1, none⟩ = some (.slice A ls.length c) := cell_al b2
  obtain ⟨p0, p1, p2, p3, p4, p5, p6⟩ := Bk.c7 hbP
  clear c0 c1 HN hroom
  go_region_law (refine step_append_cells rfl (.tmp 35) (.tmp 38) rfl Eln (cb + 1) (.slice A ls.length c) ls.length (ls.flatMap Ln.cells) _ [.int .i64 id, .int .i64 ((ls.length : Int) + 1), .int .i64 y2, .string y3, .string y4, .string y5, .string y6, .pointer none] (by simp [Act.eval, Act.put]) (by simp [Act.eval, Act.put]) ((hr2.alloc _).drew) (Bk.drew (Bk.new _ _)) rfl (by simp [Value.oneCell']) (by omega) (by omega) (by first | (simp; omega) | simp) ?_; intro u2 w81 hn1 hg1 ha1; have hbk1 := Bk.grown (Bk.drew (Bk.alloc h2.blk _)) hg1 (fun e => by have := hAo _ e; omega); have fr1 := Bk.frozen hbk1 1; have c21 : w81.cell? ⟨cb, 1, none⟩ = some (.slice A ls.length c) := Bk.cell hbk1 1; obtain ⟨g9, cap9, rfl⟩ := owns_form hn1)
  all_goals
    have hgl := (hn1.lt g9 rfl).1
    have hsz := hg1.size
    have hne0 : ∀ k, k < w2.heap.size → w.heap.size ≤ k → (Value.slice A ls.length c).ownBlock ≠ some k := fun k _ hk e => by have := (hAo _ e).2; omega
    have hP9 := Bk.far (Bk.grown (Bk.drew (Bk.alloc hbP _)) hg1 (hne0 _ (by omega) (by omega))) (p := ⟨cb, 1, none⟩) (by simp only; omega) (.slice (some ⟨g9, 0, none⟩) (ls.length + 1) cap9)
    have hR9 := Bk.far (Bk.grown (Bk.drew (Bk.alloc hbR _)) hg1 (hne0 _ (by omega) (by omega))) (p := ⟨cb, 1, none⟩) (by simp only; omega) (.slice (some ⟨g9, 0, none⟩) (ls.length + 1) cap9)
    have hC9 : Cl (w81.setCell ⟨cb, 1, none⟩ (.slice (some ⟨g9, 0, none⟩) (ls.length + 1) cap9)) cb id (.slice (some ⟨g9, 0, none⟩) (ls.length + 1) cap9) (ls ++ [⟨⟨id, (ls.length : Int) + 1, y2, y3, y4, y5, y6⟩, none⟩]) := by
      refine ⟨Bk.set hbk1 1 _, ?_, fun x hx b a ha => ?_⟩
      · rw [List.flatMap_append, List.length_append]
        exact owns_frm hn1 ((Frm.refl (fun j => j = cb) w81).set1 1 _) (fun k2 hk2 e => by
          have e3 : g9 = k2 := Option.some.inj hk2
          omega)
      · rcases List.mem_append.1 hx with hx | hx
        · obtain ⟨h3, h4, h5⟩ := h2.ans x hx b a ha
          have h6 := Bk.lt h5
          refine ⟨h3, fun e => ?_, Bk.far (Bk.grown (Bk.drew (Bk.alloc h5 _)) hg1 h4) (by simp only; omega) _⟩
          have e3 : g9 = b := Option.some.inj e
          subst e3
          rcases ha1 with e | e
          · exact h4 (e.symm.trans rfl)
          · have e4 := Option.some.inj e
            simp at e4
            omega
        · rw [List.mem_singleton.1 hx] at ha
          cases ha
    have hF9 : Frm (fun k => k = cb ∨ (Value.slice A ls.length c).ownBlock = some k) w (w81.setCell ⟨cb, 1, none⟩ (.slice (some ⟨g9, 0, none⟩) (ls.length + 1) cap9)) :=
      (((hF2.of0.alloc _).drew).grown hg1 (fun k hk _ => .inr hk)).setCell ⟨cb, 1, none⟩ (fun _ => .inl rfl) _
    have hm9 : ∀ k, (Value.slice (some ⟨g9, 0, none⟩) (ls.length + 1) cap9).ownBlock = some k → (Value.slice A ls.length c).ownBlock = some k ∨ w.heap.size ≤ k := fun k hk => by
      rcases ha1 with e | e
      · exact .inl (e ▸ hk)
      · rw [e] at hk
        cases hk
        exact .inr (by simp; omega)
    have hng : g9 ≠ w.heap.size + 1 := fun e0 => by
      rcases ha1 with e | e
      · have := (hAo g9 (e.symm.trans rfl)).2; omega
      · have e4 := Option.some.inj e
        simp at e4
        omega
    clear hbk1 fr1 c21 hn1 hg1 ha1
    generalize w81.setCell ⟨cb, 1, none⟩ (.slice (some ⟨g9, 0, none⟩) (ls.length + 1) cap9) = w9 at *
    clear p0 p1 p2 p3 p4 p5 p6
    obtain ⟨p0, p1, p2, p3, p4, p5, p6⟩ := Bk.c7 hP9
    have HM9 := Lib.hid hm9
    clear hm9 hne0
    go_wp2_with (refine wpList_store_blk rfl 84 (.tmp 4) (.tmp 42) rfl hR9 rfl rfl iRq rfl rfl rfl ?_; intro w10 hb10 hf10)
    (try simp only [Exit.inBlock, Exit.then])
    refine ret_cell1 rfl Try.underlying84 rfl iRq hb10 rfl rfl rfl rfl ?_
    refine ⟨_, rfl, hC9.frm hf10 (fun k hk e => ?_), HM9.out, hF9.then_ hf10 (fun i hi e => by omega)⟩
    subst e
    rcases hk with hk | hk | ⟨x, hx, a, ha⟩
    · omega
    · exact hng (Option.some.inj hk)
    · rcases List.mem_append.1 hx with hx | hx
      · have := Bk.lt (HH.out.ans x hx _ a ha).2.2
        omega
      · rw [List.mem_singleton.1 hx] at ha
        cases ha
theorem ask_nil (r : Rq) (w : World) :
    Calls Try.prog 37 #[.pointer none, rqV r] w fun e w' => e = .returned (.tuple #[rqV rq0, .int .i64 1]) ∧ Frm0 w w' := by
  obtain ⟨y0, y1, y2, y3, y4, y5, y6⟩ := r
  unfold rqV rq0
  simp only
  go_enter Try.func37, Try.ntmps37
  go_wp2
  go_returns
  exact ⟨rfl, ((Frm.refl _ _).alloc _).alloc _⟩
end
end Go.Proofs.Yteokiiolchpndaa
