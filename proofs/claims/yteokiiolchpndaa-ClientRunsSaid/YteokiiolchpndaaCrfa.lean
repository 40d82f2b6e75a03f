/- The reference's client: its state; contracts of Final, Open. -/
import Derived.Test.YteokiiolchpndaaClk
import Derived.Deep.AppendLies
namespace Go.Proofs.Yteokiiolchpndaa
open Go.RowKit
set_option linter.unusedVariables false
set_option linter.unusedSimpArgs false
namespace Rf
theorem Erq : Elt Try.prog 78 84 (.agg #[.int .i64 0, .int .i64 0, .int .i64 0, .string ⟨#[]⟩, .string ⟨#[]⟩, .string ⟨#[]⟩, .string ⟨#[]⟩]) 7 88 := Elt.mk' Try.underlying78 (by kernel_rfl) rfl (by omega)
theorem Ean : Elt Try.prog 80 86 (.agg #[.int .i64 0, .int .i64 0, .int .i64 0, .string ⟨#[]⟩, .int .i64 0, .int .i64 0]) 6 56 := Elt.mk' Try.underlying80 (by kernel_rfl) rfl (by omega)
theorem Ebo : Elt Try.prog 79 4 (.bool false) 1 1 := Elt.mk' Try.underlying79 (by kernel_rfl) rfl (by omega)
def c1 (vs : List Vw) : List Value := vs.flatMap (fun p => p.1.cells)
def c2 (vs : List Vw) : List Value := vs.map (fun p => .bool p.2.isSome)
def c3 (vs : List Vw) : List Value := vs.flatMap (fun p => (p.2.getD an0).cells)
structure At (w : World) (rb : Nat) (id : Int) (v1 v2 v3 : Value) (vs : List Vw) : Prop where
  blk : w.heap[rb]? = some (.cells #[.int .i64 id, v1, v2, v3] 82 (0, 0))
  r1 : w.ownsRow (rb + 1) 84 7 v1 vs.length (c1 vs)
  r2 : w.ownsRow (rb + 1) 4 1 v2 vs.length (c2 vs)
  r3 : w.ownsRow (rb + 1) 86 6 v3 vs.length (c3 vs)
  s12 : ∀ k, v1.ownBlock = some k → v2.ownBlock ≠ some k
  s13 : ∀ k, v1.ownBlock = some k → v3.ownBlock ≠ some k
  s23 : ∀ k, v2.ownBlock = some k → v3.ownBlock ≠ some k
def fp (rb : Nat) (v1 v2 v3 : Value) (k : Nat) : Prop := k = rb ∨ v1.ownBlock = some k ∨ v2.ownBlock = some k ∨ v3.ownBlock = some k
section
variable {w w1 : World} {rb : Nat} {id : Int} {v1 v2 v3 : Value} {vs : List Vw} {S : Nat → Prop}
theorem At.lt (h : At w rb id v1 v2 v3 vs) : rb < w.heap.size := Bk.lt h.blk
theorem At.under (h : At w rb id v1 v2 v3 vs) : Under w (fp rb v1 v2 v3) := by
  rintro k (rfl | hk | hk | hk)
  · exact h.lt
  · exact (h.r1.lt k hk).2
  · exact (h.r2.lt k hk).2
  · exact (h.r3.lt k hk).2
theorem At.over (h : At w rb id v1 v2 v3 vs) : Over rb (fp rb v1 v2 v3) := by
  rintro k (rfl | hk | hk | hk)
  · exact Nat.le_refl _
  · have := (h.r1.lt k hk).1; omega
  · have := (h.r2.lt k hk).1; omega
  · have := (h.r3.lt k hk).1; omega
theorem At.frm (h : At w rb id v1 v2 v3 vs) (hf : Frm S w w1) (hs : Sep (fp rb v1 v2 v3) S) : At w1 rb id v1 v2 v3 vs :=
  ⟨hf.blk h.blk (hs _ (.inl rfl)), owns_frm h.r1 hf (fun k hk => hs _ (.inr (.inl hk))), owns_frm h.r2 hf (fun k hk => hs _ (.inr (.inr (.inl hk)))), owns_frm h.r3 hf (fun k hk => hs _ (.inr (.inr (.inr hk)))), h.s12, h.s13, h.s23⟩
theorem At.frm0 (h : At w rb id v1 v2 v3 vs) (hf : Frm0 w w1) : At w1 rb id v1 v2 v3 vs := h.frm hf (fun _ _ h => h)
theorem form_of {base : Nat} {e : TypeId} {size : Nat} {v : Value} {n : Nat} {xs : List Value} (h : w.ownsRow base e size v n xs) : ∃ A c, v = .slice A n c := by
  rcases h.2 with ⟨h, hn⟩ | ⟨g, cap, cur, he, _⟩
  · exact ⟨none, 0, by rw [h, hn]⟩
  · exact ⟨_, _, he⟩
theorem pos_of {base : Nat} {e : TypeId} {size : Nat} {v : Value} {n : Nat} {xs : List Value} (h : w.ownsRow base e size v n xs) (h0 : 0 < n) : ∃ g c, v = .slice (some ⟨g, 0, none⟩) n c := by
  rcases h.2 with ⟨h, hn⟩ | ⟨g, cap, cur, he, _⟩
  · omega
  · exact ⟨_, _, he⟩
theorem c2_at (vs : List Vw) (k : Nat) (hk : k < vs.length) : (c2 vs)[k]? = some (.bool (vs[k]).2.isSome) := by unfold c2; rw [List.getElem?_map, List.getElem?_eq_getElem hk]; rfl
theorem final_any (y : An) (w : World) : Calls Try.prog 49 #[anV y] w fun e w' => e = .returned (.bool (fin y)) ∧ Frm0 w w' := by
  obtain ⟨z0, z1, z2, z3, z4, z5⟩ := y
  have hcs : ((z2 == 409) = true ∧ (z2 != 409) = false ∧ fin ⟨z0, z1, z2, z3, z4, z5⟩ = false) ∨ ((z2 == 409) = false ∧ (z2 != 409) = true ∧ (z2 != 503) = fin ⟨z0, z1, z2, z3, z4, z5⟩) := by
    unfold fin
    by_cases h1 : z2 = 409
    · subst h1; exact .inl ⟨rfl, rfl, rfl⟩
    · refine .inr ⟨beq_eq_false_iff_ne.2 h1, by simp [h1], ?_⟩
      by_cases h2 : z2 = 503
      · subst h2; rfl
      · simp [h1, h2]
  generalize fin ⟨z0, z1, z2, z3, z4, z5⟩ = q at *
  unfold anV
  simp only
  rcases hcs with ⟨d1, d2, rfl⟩ | ⟨d1, d2, d3⟩
  all_goals
    go_enter Try.func49, Try.ntmps49
    go_wp2
    go_ret
    exact ⟨rfl, (Frm.refl _ _).alloc _⟩
theorem told_is (vs : List Vw) (k : Nat) (hk : k < vs.length) : vTold vs ((k : Int) + 1) = (vs[k]).2 := by unfold vTold; rw [vAt_nat hk]; rfl
set_option maxHeartbeats 1000000 in
set_option maxRecDepth 100000 in
theorem open_any (h : At w rb id v1 v2 v3 vs) (hl : vs.length ≤ 900) :
    Calls Try.prog 42 #[.pointer (some ⟨rb, 0, none⟩)] w fun e w' => ∃ u, e = .returned u ∧ w'.ownsRow w.heap.size 3 1 u (opensTo vs vs.length).length (wints (opensTo vs vs.length)) ∧ Frm0 w w' := by
  have HH := Lib.hid h
  clear h
  go_enter Try.func42, Try.ntmps42
  go_wp2_with fail
  go_loopw [3, 4] (fun u i wr => ∃ (k : Nat), k ≤ vs.length ∧ i = .int .i64 k ∧ wr.ownsRow w.heap.size 3 1 u (opensTo vs k).length (wints (opensTo vs k)) ∧ Frm0 w wr) (fun _ i _ => vs.length - (intOf i).toNat)
  case atStart => exact ⟨0, by omega, rfl, World.ownsRow_nil _ _ _ _, Frm.refl _ _⟩
  case round =>
    obtain ⟨k, hk, rfl, hown, hF⟩ := hrel
    have hol := opensTo_len vs k
    have hR := HH.out.frm0 hF
    have b2 : wr.cell? ⟨rb, 2, none⟩ = some v2 := Bk.cell hR.blk 2
    by_cases hlt : k < vs.length
    · obtain ⟨g2, p2, rfl⟩ := pos_of hR.r2 (by omega)
      have b3 : wr.cell? ⟨g2, k, none⟩ = some (.bool (vs[k]).2.isSome) := by rw [hR.r2.cellAt k (by omega), c2_at vs k hlt]
      have hki : (k : Int) < (vs.length : Int) := by omega
      have HS := Lib.hid (opensTo_snoc vs k)
      rw [told_is vs k hlt] at HS
      have hM : (opensTo vs k).length + 1 ≤ maxLen := by unfold maxLen; omega
      have hz := hF.size
      cases ht : (vs[k]).2 with
      | some y =>
        rw [ht] at HS b3
        simp only [Option.isSome_some, Option.isNone_some, Bool.false_eq_true, if_false, List.append_nil] at HS b3
        clear ht hR
        go_wp2_with fail
        go_roundw
        case rel => exact ⟨k + 1, by omega, by go_num, by rw [HS.out]; exact hown, hF⟩
        case measure => simp [intOf]; omega
      | none =>
        rw [ht] at HS b3
        simp only [Option.isSome_none, Option.isNone_none, if_true] at HS b3
        clear ht hR
        go_wp2_with (at_builtin; refine wpList_append_sl rfl (.tmp 22) (.tmp 25) rfl Ewin w.heap.size _ (.slice (some ⟨wr.heap.size, 0, none⟩) 1 1) (opensTo vs k).length 1 (wints (opensTo vs k)) (wints [(k : Int) + 1]) rfl rfl (hown.alloc _) (Sl.new _ _ _ 1 (by decide) (by omega)) rfl (wints_one _) (by omega) (by omega) (by simp; omega) ?_; intro v3 w4 hown4 hf4 hat4)
        have hF4 : Frm0 w w4 := ((hF.alloc (.cells #[.int .i64 ((k : Int) + 1)] 3))).then_ hf4 (fun i hi e => by have := (hown.lt _ e).1; omega)
        go_wp2_with fail
        go_roundw
        case rel => exact ⟨k + 1, by omega, by go_num, by rw [HS.out, wints_app, List.length_append]; exact hown4, hF4⟩
        case measure => simp [intOf]; omega
    · obtain rfl : k = vs.length := by omega
      obtain ⟨A2, p2, rfl⟩ := form_of hR.r2
      go_wp2
      go_ret
      exact ⟨_, rfl, hown, hF⟩
end
end Rf
end Go.Proofs.Yteokiiolchpndaa
