/- The cache: contracts of out, front, New. -/
import Derived.Test.YthmhihmbciigdaaLrb
import Derived.Test.YthmhihmbciigdaaNum
import Derived.Deep.RegionHeld3
namespace Go.Proofs.Ythmhihmbciigdaa
open Go.RowKit Go.Maps
set_option linter.unusedVariables false
set_option linter.unusedSimpArgs false
set_option maxRecDepth 100000
namespace Lr
set_option maxHeartbeats 2000000 in
theorem out_any {w : World} {r a : Nat} {p q : List Nat} {ky vl : Nat → ByteArray} {nx bk : Nat → Nat} (hr : Rg nx bk r (p ++ a :: q)) (h : Nds w (r :: (p ++ a :: q)) ky vl nx bk) :
    Calls Try.prog 59 #[.pointer (some ⟨a, 0, none⟩)] w fun e w' => e = .returned (.tuple #[]) ∧ Nds w' (r :: (p ++ a :: q)) ky vl (updn nx (bk a) (nx a)) (updn bk (nx a) (bk a)) ∧ Frm (fun k => k = nx a ∨ k = bk a) w w' := by
  have ham : a ∈ r :: (p ++ a :: q) := List.mem_cons_of_mem _ (List.mem_append_right _ (List.mem_cons_self ..))
  have hxm := hr.nm a ham
  have hym := hr.bm a ham
  have hnb := hr.nb a ham
  have H := Lib.hid h
  obtain ⟨c0, c1, c2, c3⟩ := h.c ham
  have hx3 := (h.c hxm).2.2.2
  have hx3f := h.fz hxm 3
  have hy2 := (h.c hym).2.2.1
  have hy2f := h.fz hym 2
  have HXM := Lib.hid hxm
  have HYM := Lib.hid hym
  clear hr ham hxm hym hnb h
  obtain ⟨X, hX⟩ : ∃ X, nx a = X := ⟨_, rfl⟩
  obtain ⟨Y, hY⟩ : ∃ Y, bk a = Y := ⟨_, rfl⟩
  rw [hX] at c2 hx3 hx3f HXM ⊢
  rw [hY] at c3 hy2 hy2f HYM ⊢
  clear hX hY
  go_enter Try.func59, Try.ntmps59
  go_wp2_with fail
  refine st_tail 16 (by kernel_rfl) (by kernel_rfl) ?_
  simp only [List.take_succ_cons, List.take_zero, List.drop_succ_cons, List.drop_zero]
  repeat still_step
  refine wpStill_nil ?_
  go_wp2_with fail
  go_returns
  have hd : Nds w.drew (r :: (p ++ a :: q)) ky vl nx bk := H.out.frm0 (Frm.refl (fun _ => False) w).drew
  exact ⟨rfl, (hd.setBk HXM.out Y).setNx HYM.out X, (((Frm.refl (fun k => k = X ∨ k = Y) w).drew).setCell ⟨X, 3, none⟩ (fun _ => .inl rfl) _).setCell ⟨Y, 2, none⟩ (fun _ => .inr rfl) _⟩
set_option maxHeartbeats 4000000 in
theorem front_any {w : World} {m r c a : Nat} {n : Int} {l : List Nat} {ky vl : Nat → ByteArray} {nx bk : Nat → Nat} {u1 u2 : Value} (hr : Rg nx bk r l) (h : Nds w (r :: l) ky vl nx bk) (hc : w.heap[c]? = some (.cells #[.int .i64 n, .pointer (some ⟨r, 0, none⟩), .map (some m)] 91 (0, 0))) (ha : a ∉ r :: l) (hca : c ≠ a) (hcl : ∀ x ∈ r :: l, x ≠ c)
    (hA : w.heap[a]? = some (.cells #[.string (ky a), .string (vl a), u1, u2] 88 (0, 0))) :
    Calls Try.prog 60 #[.pointer (some ⟨c, 0, none⟩), .pointer (some ⟨a, 0, none⟩)] w fun e w' => e = .returned (.tuple #[]) ∧ Nds w' (r :: a :: l) ky vl (updn (updn nx a (nx r)) r a) (updn (updn bk a r) (nx r) a) ∧ Frm (fun k => k = a ∨ k = r ∨ k = nx r) w w' := by
  have hrm : r ∈ r :: l := List.mem_cons_self ..
  have hra : r ≠ a := fun e => ha (e ▸ hrm)
  have hxm := hr.nm r hrm
  have HA := Lib.hid ha
  have HCL := Lib.hid hcl
  obtain ⟨a0, a1, a2, a3⟩ := Bk.c4 hA
  have fa2 := Bk.frozen hA 2
  have fa3 := Bk.frozen hA 3
  have hAl := Bk.lt hA
  go_enter Try.func60, Try.ntmps60
  go_wp2_with fail
  refine wp_region_held_drew (S := fun w9 => w9.heap[c]? = some (.cells #[.int .i64 n, .pointer (some ⟨r, 0, none⟩), .map (some m)] 91 (0, 0)) ∧ w9.heap[r]? = some (.cells #[.string (ky r), .string (vl r), .pointer (some ⟨nx r, 0, none⟩), .pointer (some ⟨bk r, 0, none⟩)] 88 (0, 0))) (by kernel_rfl) (⟨hc, h r (List.mem_cons_self ..)⟩) (fun hHeld => ?_)
  skip
  refine wpAnyH_take (i := 0) (v := ?_) rfl (by kernel_rfl) (by kernel_rfl) (by kernel_rfl) (fun _ _ _ h => h) (Or.inl ⟨by rfl, ?_⟩) (by assumption) ?_
  rotate_left 1
  focus (intro w hSw; (try dsimp only at hSw); obtain ⟨q0, q1, q2⟩ := Bk.c3 hSw.1; obtain ⟨s0, s1, s2, s3⟩ := Bk.c4 hSw.2; go_simp; (try with_reducible rfl))
  (try simp only [Act.put, List.getElem_toArray, List.getElem_cons_succ, List.getElem_cons_zero, List.setIfInBounds_toArray, List.set_cons_zero, List.set_cons_succ])
  refine wpAnyH_take (i := 1) (v := ?_) rfl (by kernel_rfl) (by kernel_rfl) (by kernel_rfl) (fun _ _ _ h => h) (Or.inl ⟨by rfl, ?_⟩) (by assumption) ?_
  rotate_left 1
  focus (intro w hSw; (try dsimp only at hSw); obtain ⟨q0, q1, q2⟩ := Bk.c3 hSw.1; obtain ⟨s0, s1, s2, s3⟩ := Bk.c4 hSw.2; go_simp; (try with_reducible rfl))
  (try simp only [Act.put, List.getElem_toArray, List.getElem_cons_succ, List.getElem_cons_zero, List.setIfInBounds_toArray, List.set_cons_zero, List.set_cons_succ])
  refine wpAnyH_take (i := 2) (v := ?_) rfl (by kernel_rfl) (by kernel_rfl) (by kernel_rfl) (fun _ _ _ h => h) (Or.inl ⟨by rfl, ?_⟩) (by assumption) ?_
  rotate_left 1
  focus (intro w hSw; (try dsimp only at hSw); obtain ⟨q0, q1, q2⟩ := Bk.c3 hSw.1; obtain ⟨s0, s1, s2, s3⟩ := Bk.c4 hSw.2; go_simp; (try with_reducible rfl))
  (try simp only [Act.put, List.getElem_toArray, List.getElem_cons_succ, List.getElem_cons_zero, List.setIfInBounds_toArray, List.set_cons_zero, List.set_cons_succ])
  refine wpAnyH_take (i := 3) (v := ?_) rfl (by kernel_rfl) (by kernel_rfl) (by kernel_rfl) (fun _ _ _ h => h) (Or.inl ⟨by rfl, ?_⟩) (by assumption) ?_
  rotate_left 1
  focus (intro w hSw; (try dsimp only at hSw); obtain ⟨q0, q1, q2⟩ := Bk.c3 hSw.1; obtain ⟨s0, s1, s2, s3⟩ := Bk.c4 hSw.2; go_simp; (try with_reducible rfl))
  (try simp only [Act.put, List.getElem_toArray, List.getElem_cons_succ, List.getElem_cons_zero, List.setIfInBounds_toArray, List.set_cons_zero, List.set_cons_succ])
  refine wpAnyH_take (i := 4) (v := ?_) rfl (by kernel_rfl) (by kernel_rfl) (by kernel_rfl) (fun _ _ _ h => h) (Or.inl ⟨by rfl, ?_⟩) (by assumption) ?_
  rotate_left 1
  focus (intro w hSw; (try dsimp only at hSw); obtain ⟨q0, q1, q2⟩ := Bk.c3 hSw.1; obtain ⟨s0, s1, s2, s3⟩ := Bk.c4 hSw.2; go_simp; (try with_reducible rfl))
  (try simp only [Act.put, List.getElem_toArray, List.getElem_cons_succ, List.getElem_cons_zero, List.setIfInBounds_toArray, List.set_cons_zero, List.set_cons_succ])
  refine wpAnyH_take (i := 5) (v := ?_) rfl (by kernel_rfl) (by kernel_rfl) (by kernel_rfl) (fun _ _ _ h => h) (Or.inl ⟨by rfl, ?_⟩) (by assumption) ?_
  rotate_left 1
  focus (intro w hSw; (try dsimp only at hSw); obtain ⟨q0, q1, q2⟩ := Bk.c3 hSw.1; obtain ⟨s0, s1, s2, s3⟩ := Bk.c4 hSw.2; go_simp; (try with_reducible rfl))
  (try simp only [Act.put, List.getElem_toArray, List.getElem_cons_succ, List.getElem_cons_zero, List.setIfInBounds_toArray, List.set_cons_zero, List.set_cons_succ])
  refine wpAnyH_take (i := 6) (v := ?_) rfl (by kernel_rfl) (by kernel_rfl) (by kernel_rfl) (fun _ _ _ h => h) (Or.inl ⟨by rfl, ?_⟩) (by assumption) ?_
  rotate_left 1
  focus (intro w hSw; (try dsimp only at hSw); obtain ⟨q0, q1, q2⟩ := Bk.c3 hSw.1; obtain ⟨s0, s1, s2, s3⟩ := Bk.c4 hSw.2; go_simp; (try with_reducible rfl))
  (try simp only [Act.put, List.getElem_toArray, List.getElem_cons_succ, List.getElem_cons_zero, List.setIfInBounds_toArray, List.set_cons_zero, List.set_cons_succ])
  refine wpAnyH_take (i := 7) (v := ?_) rfl (by kernel_rfl) (by kernel_rfl) (by kernel_rfl) (fun _ _ _ h => h) (Or.inl ⟨by rfl, ?_⟩) (by assumption) ?_
  rotate_left 1
  focus (intro w hSw; (try dsimp only at hSw); obtain ⟨q0, q1, q2⟩ := Bk.c3 hSw.1; obtain ⟨s0, s1, s2, s3⟩ := Bk.c4 hSw.2; go_simp; (try with_reducible rfl))
  (try simp only [Act.put, List.getElem_toArray, List.getElem_cons_succ, List.getElem_cons_zero, List.setIfInBounds_toArray, List.set_cons_zero, List.set_cons_succ])
  refine wpAnyH_take (i := 8) (v := ?_) rfl (by kernel_rfl) (by kernel_rfl) (by kernel_rfl) (fun _ _ _ h => h) (Or.inl ⟨by rfl, ?_⟩) (by assumption) ?_
  rotate_left 1
  focus (intro w hSw; (try dsimp only at hSw); obtain ⟨q0, q1, q2⟩ := Bk.c3 hSw.1; obtain ⟨s0, s1, s2, s3⟩ := Bk.c4 hSw.2; go_simp; (try with_reducible rfl))
  (try simp only [Act.put, List.getElem_toArray, List.getElem_cons_succ, List.getElem_cons_zero, List.setIfInBounds_toArray, List.set_cons_zero, List.set_cons_succ])
  refine wpAnyH_take (i := 9) (v := ?_) rfl (by kernel_rfl) (by kernel_rfl) (by kernel_rfl) (fun _ _ _ h => h) (Or.inl ⟨by rfl, ?_⟩) (by assumption) ?_
  rotate_left 1
  focus (intro w hSw; (try dsimp only at hSw); obtain ⟨q0, q1, q2⟩ := Bk.c3 hSw.1; obtain ⟨s0, s1, s2, s3⟩ := Bk.c4 hSw.2; go_simp; (try with_reducible rfl))
  (try simp only [Act.put, List.getElem_toArray, List.getElem_cons_succ, List.getElem_cons_zero, List.setIfInBounds_toArray, List.set_cons_zero, List.set_cons_succ])
  refine wpAnyH_take (i := 10) (v := ?_) rfl (by kernel_rfl) (by kernel_rfl) (by kernel_rfl) (fun _ _ _ h => h) (Or.inl ⟨by rfl, ?_⟩) (by assumption) ?_
  rotate_left 1
  focus (intro w hSw; (try dsimp only at hSw); obtain ⟨q0, q1, q2⟩ := Bk.c3 hSw.1; obtain ⟨s0, s1, s2, s3⟩ := Bk.c4 hSw.2; go_simp; (try with_reducible rfl))
  (try simp only [Act.put, List.getElem_toArray, List.getElem_cons_succ, List.getElem_cons_zero, List.setIfInBounds_toArray, List.set_cons_zero, List.set_cons_succ])
  refine wpAnyH_take (i := 11) (v := ?_) rfl (by kernel_rfl) (by kernel_rfl) (by kernel_rfl) (fun _ _ _ h => h) (Or.inl ⟨by rfl, ?_⟩) (by assumption) ?_
  rotate_left 1
  focus (intro w hSw; (try dsimp only at hSw); obtain ⟨q0, q1, q2⟩ := Bk.c3 hSw.1; obtain ⟨s0, s1, s2, s3⟩ := Bk.c4 hSw.2; go_simp; (try with_reducible rfl))
  (try simp only [Act.put, List.getElem_toArray, List.getElem_cons_succ, List.getElem_cons_zero, List.setIfInBounds_toArray, List.set_cons_zero, List.set_cons_succ])
  refine wpAnyH_take (i := 12) (v := ?_) rfl (by kernel_rfl) (by kernel_rfl) (by kernel_rfl) (fun _ _ _ h => h) (Or.inl ⟨by rfl, ?_⟩) (by assumption) ?_
  rotate_left 1
  focus (intro w hSw; (try dsimp only at hSw); obtain ⟨q0, q1, q2⟩ := Bk.c3 hSw.1; obtain ⟨s0, s1, s2, s3⟩ := Bk.c4 hSw.2; go_simp; (try with_reducible rfl))
  (try simp only [Act.put, List.getElem_toArray, List.getElem_cons_succ, List.getElem_cons_zero, List.setIfInBounds_toArray, List.set_cons_zero, List.set_cons_succ])
  refine wpAnyH_take (i := 13) (v := ?_) rfl (by kernel_rfl) (by kernel_rfl) (by kernel_rfl) (fun _ _ _ h => h) (Or.inl ⟨by rfl, ?_⟩) (by assumption) ?_
  rotate_left 1
  focus (intro w hSw; (try dsimp only at hSw); go_simp; (try with_reducible rfl))
  (try simp only [Act.put, List.getElem_toArray, List.getElem_cons_succ, List.getElem_cons_zero, List.setIfInBounds_toArray, List.set_cons_zero, List.set_cons_succ])
  refine wpAnyH_take (i := 14) (v := ?_) rfl (by kernel_rfl) (by kernel_rfl) (by kernel_rfl) (fun _ _ _ h => h) (Or.inl ⟨by rfl, ?_⟩) (by assumption) ?_
  rotate_left 1
  focus (intro w hSw; (try dsimp only at hSw); go_simp; (try with_reducible rfl))
  (try simp only [Act.put, List.getElem_toArray, List.getElem_cons_succ, List.getElem_cons_zero, List.setIfInBounds_toArray, List.set_cons_zero, List.set_cons_succ])
  refine wpAnyH_ready (rs := [15]) (by kernel_rfl) (by simp) ?_
  refine AllReadyH.cons rfl (fun K hK => ?_) AllReadyH.nil
  rw [if_pos (by rfl)]
  go_simp
  refine hK.out _ _ ?_ (fun hHeld => ?_)
  focus (exact ⟨Bk.far (And.left (by assumption)) (p := ⟨a, 2, none⟩) (show c ≠ a from hca) _, Bk.far (And.right (by assumption)) (p := ⟨a, 2, none⟩) (show r ≠ a from hra) _⟩)
  clear hK K
  (try simp only [Act.put, List.getElem_toArray, List.getElem_cons_succ, List.getElem_cons_zero, List.setIfInBounds_toArray, List.set_cons_zero, List.set_cons_succ])
  refine wpAnyH_take (i := 16) (v := ?_) rfl (by kernel_rfl) (by kernel_rfl) (by kernel_rfl) (fun _ _ _ h => h) (Or.inl ⟨by rfl, ?_⟩) (by assumption) ?_
  rotate_left 1
  focus (intro w hSw; (try dsimp only at hSw); go_simp; (try with_reducible rfl))
  (try simp only [Act.put, List.getElem_toArray, List.getElem_cons_succ, List.getElem_cons_zero, List.setIfInBounds_toArray, List.set_cons_zero, List.set_cons_succ])
  refine wpAnyH_take (i := 17) (v := ?_) rfl (by kernel_rfl) (by kernel_rfl) (by kernel_rfl) (fun _ _ _ h => h) (Or.inl ⟨by rfl, ?_⟩) (by assumption) ?_
  rotate_left 1
  focus (intro w hSw; (try dsimp only at hSw); go_simp; (try with_reducible rfl))
  (try simp only [Act.put, List.getElem_toArray, List.getElem_cons_succ, List.getElem_cons_zero, List.setIfInBounds_toArray, List.set_cons_zero, List.set_cons_succ])
  refine wpAnyH_ready (rs := [18]) (by kernel_rfl) (by simp) ?_
  refine AllReadyH.cons rfl (fun K hK => ?_) AllReadyH.nil
  rw [if_pos (by rfl)]
  go_simp
  refine hK.out _ _ ?_ (fun hHeld => ?_)
  focus (exact ⟨Bk.far (And.left (by assumption)) (p := ⟨a, 3, none⟩) (show c ≠ a from hca) _, Bk.far (And.right (by assumption)) (p := ⟨a, 3, none⟩) (show r ≠ a from hra) _⟩)
  clear hK K
  (try simp only [Act.put, List.getElem_toArray, List.getElem_cons_succ, List.getElem_cons_zero, List.setIfInBounds_toArray, List.set_cons_zero, List.set_cons_succ])
  refine wpAnyH_done (by kernel_rfl) ?_ _
  have hd := h
  have hN : Nds ((w.setCell ⟨a, 2, none⟩ (.pointer (some ⟨nx r, 0, none⟩))).setCell ⟨a, 3, none⟩ (.pointer (some ⟨r, 0, none⟩))) (r :: a :: l) ky vl (updn nx a (nx r)) (updn bk a r) := fun x hx => by
    by_cases e : x = a
    · subst e
      rw [updn_same, updn_same]
      have := Bk.set (Bk.set (show w.heap[x]? = _ from hA) 2 (.pointer (some ⟨nx r, 0, none⟩))) 3 (.pointer (some ⟨r, 0, none⟩))
      simpa using this
    · rw [updn_ne _ _ e, updn_ne _ _ e]
      have hx' : x ∈ r :: l := by
        rcases List.mem_cons.1 hx with e2 | hx
        · exact e2 ▸ hrm
        · rcases List.mem_cons.1 hx with e2 | hx
          · exact absurd e2 e
          · exact List.mem_cons_of_mem _ hx
      exact Bk.far (Bk.far (hd x hx') (p := ⟨a, 2, none⟩) e _) (p := ⟨a, 3, none⟩) e _
  have hF := ((Frm.refl (fun k => k = a ∨ k = r ∨ k = nx r) w).setCell ⟨a, 2, none⟩ (fun _ => .inl rfl) (.pointer (some ⟨nx r, 0, none⟩))).setCell ⟨a, 3, none⟩ (fun _ => .inl rfl) (.pointer (some ⟨r, 0, none⟩))
  have hCC := Bk.far (Bk.far (show w.heap[c]? = _ from hc) (p := ⟨a, 2, none⟩) hca (.pointer (some ⟨nx r, 0, none⟩))) (p := ⟨a, 3, none⟩) hca (.pointer (some ⟨r, 0, none⟩))
  have hN : Nds ((w.setCell ⟨a, 2, none⟩ (.pointer (some ⟨nx r, 0, none⟩))).setCell ⟨a, 3, none⟩ (.pointer (some ⟨r, 0, none⟩))).drew (r :: a :: l) ky vl (updn nx a (nx r)) (updn bk a r) := hN.frm0 (Frm.refl (fun _ => False) _).drew
  have hF := hF.drew
  have hCC : ((w.setCell ⟨a, 2, none⟩ (.pointer (some ⟨nx r, 0, none⟩))).setCell ⟨a, 3, none⟩ (.pointer (some ⟨r, 0, none⟩))).drew.heap[c]? = some (.cells #[.int .i64 n, .pointer (some ⟨r, 0, none⟩), .map (some m)] 91 (0, 0)) := hCC
  generalize ((w.setCell ⟨a, 2, none⟩ (.pointer (some ⟨nx r, 0, none⟩))).setCell ⟨a, 3, none⟩ (.pointer (some ⟨r, 0, none⟩))).drew = w1 at *
  have hnr : nx r ≠ a := fun e => HA.out (e ▸ hxm)
  have hxm2 : nx r ∈ r :: a :: l := by
    rcases List.mem_cons.1 hxm with e | e
    · rw [e]; exact List.mem_cons_self ..
    · exact List.mem_cons_of_mem _ (List.mem_cons_of_mem _ e)
  have hrm2 : r ∈ r :: a :: l := List.mem_cons_self ..
  obtain ⟨k0, k1, k2⟩ := Bk.c3 hCC
  have r2 := (hN.c hrm2).2.2.1
  rw [updn_ne _ _ hra] at r2
  have r2f := hN.fz hrm2 2
  have x3 := (hN.c hxm2).2.2.2
  have x3f := hN.fz hxm2 3
  have hN2 := hN.setBk hxm2 a
  have hN3 := hN2.setNx hrm2 a
  have hcx : ¬ nx r = c := HCL.out _ hxm
  have HN3 := Lib.hid hN3
  have HF := Lib.hid hF
  have hcx2 : ¬ c = nx r := fun e => hcx e.symm
  clear hN hN2 hN3 hF hd hA a0 a1 a2 a3 fa2 fa3 hr h hc ha hcl hxm hxm2 hrm hrm2 hnr hAl hCC
  obtain ⟨X, hX⟩ : ∃ X, nx r = X := ⟨_, rfl⟩
  rw [hX] at r2 x3 x3f HN3 HF hcx hcx2
  try rw [hX]
  have HXX := Lib.hid hX
  clear hX
  go_wp2_with fail
  go_returns
  have e := HXX.out
  subst e
  exact ⟨rfl, HN3.out, (HF.out.setCell ⟨nx r, 3, none⟩ (fun _ => .inr (.inr rfl)) _).setCell ⟨r, 2, none⟩ (fun _ => .inr (.inl rfl)) _⟩
def ky0 : Nat → ByteArray := fun _ => ⟨#[]⟩
def mostI (n : Int) : Int := bring n 1 100
set_option maxHeartbeats 4000000 in
theorem new_any (n : Int) (w : World) : Calls Try.prog 25 #[.int .i64 n] w fun e w' => e = .returned (.pointer (some ⟨w.heap.size + 2, 0, none⟩)) ∧ At w' (w.heap.size + 1) w.heap.size (w.heap.size + 2) (mostI n) 0 [] ky0 ky0 (fun _ => w.heap.size) (fun _ => w.heap.size) ∧ Frm0 w w' := by
  obtain ⟨x1, hx1⟩ : ∃ x, (if n < 1 then 1 else n) = x := ⟨_, rfl⟩
  obtain ⟨y1, hy1⟩ : ∃ y, (if (100 : Int) < x1 then 100 else x1) = y := ⟨_, rfl⟩
  have e1 : y1 = mostI n := by unfold mostI bring; split at hx1 <;> split at hy1 <;> (try split) <;> omega
  have m1 : ∀ ats ty, Builtin.max_ ats ty #[.int .i64 n, .int .i64 1] = pure (.int .i64 x1) := fun ats ty => by subst hx1; simp only [Builtin.max_, List.foldlM_cons, List.foldlM_nil, Builtin.max2]; rfl
  have n1 : ∀ ats ty, Builtin.min_ ats ty #[.int .i64 x1, .int .i64 100] = pure (.int .i64 y1) := fun ats ty => by subst hy1; simp only [Builtin.min_, List.foldlM_cons, List.foldlM_nil, Builtin.min2]; rfl
  have hm2 := fun w => run_makeMap (P := Try.prog) 89 w
  rw [← e1]
  clear hx1 hy1 e1
  go_enter Try.func25, Try.ntmps25
  go_wp2_with fail
  refine st_tail 16 (by kernel_rfl) (by kernel_rfl) ?_
  simp only [List.take_succ_cons, List.take_zero, List.drop_succ_cons, List.drop_zero]
  repeat still_step
  refine wpStill_nil ?_
  go_wp2_with fail
  go_returns
  obtain ⟨O1, hO1⟩ : ∃ O, O = Obj.cells #[.string ⟨#[]⟩, .string ⟨#[]⟩, .pointer (some ⟨w.heap.size, 0, none⟩), .pointer (some ⟨w.heap.size, 0, none⟩)] 88 := ⟨_, rfl⟩
  obtain ⟨O3, hO3⟩ : ∃ O, O = Obj.cells #[.int .i64 y1, .pointer (some ⟨w.heap.size, 0, none⟩), .map (some (w.heap.size + 1))] 91 := ⟨_, rfl⟩
  have s1 : (w.alloc O1).heap.size = w.heap.size + 1 := by simp
  have s2 : ((w.alloc O1).alloc (.map #[] 0)).heap.size = w.heap.size + 2 := by simp
  have b0 := Bk.drew (Bk.alloc (Bk.alloc (Bk.new w O1) (.map #[] 0)) O3)
  have b2 := Bk.drew (Bk.new ((w.alloc O1).alloc (.map #[] 0)) O3)
  rw [s2] at b2
  have b1 := (Mp.new (w.alloc O1) Try.prog 9).frm0 (((Frm.refl (fun _ => False) ((w.alloc O1).alloc (.map #[] 0))).alloc O3).drew)
  rw [s1] at b1
  have hF := ((((Frm.refl (fun _ => False) w).alloc O1).alloc (.map #[] 0)).alloc O3).drew
  have HA : At (((w.alloc O1).alloc (.map #[] 0)).alloc O3).drew (w.heap.size + 1) w.heap.size (w.heap.size + 2) y1 0 [] ky0 ky0 (fun _ => w.heap.size) (fun _ => w.heap.size) :=
    ⟨by rw [b2, hO3], Rg.empty, fun x hx => by rw [List.mem_singleton.1 hx, b0, hO1]; rfl, ⟨_, b1, fun k v => by simp⟩, List.nodup_nil, by omega, fun x hx => by rw [List.mem_singleton.1 hx]; omega⟩
  subst hO1 hO3
  exact ⟨rfl, HA, hF⟩
end Lr
end Go.Proofs.Ythmhihmbciigdaa
