/- The index's reference: Get, Same. -/
import Derived.Test.YthggbohoedfkpaaIxj
namespace Go.Proofs.Ythggbohoedfkpaa
open Go.RowKit
set_option linter.unusedVariables false
set_option linter.unusedSimpArgs false
set_option maxRecDepth 100000
namespace Ix
section
variable {w w1 : World}
set_option maxHeartbeats 2000000 in
theorem rget_any (v : Value) (l : List En) (t : Int) (k : ByteArray) (w : World) (hs : Sl w v l.length (ecs l)) (hl : l.length ≤ 1000) :
    Calls Try.prog 31 #[v, .int .i64 t, .string k] w fun e_ w' => e_ = .returned (.tuple #[.agg (gt l (t, k.toList)).cells.toArray, .bool (found En.nm l (t, k.toList))]) ∧ Frm0 w w' := by
  have hz := Bk.new w (.cells #[.int .i64 0, .string ⟨#[]⟩, .int .i64 0, .int .i64 0, .int .i64 0, .int .i64 0, .string ⟨#[]⟩, .int .i64 0, .int .i64 0, .int .i64 0, .string ⟨#[]⟩, .string ⟨#[]⟩, .string ⟨#[]⟩, .string ⟨#[]⟩] 52)
  have hF := (Frm.refl (fun _ => False) w).alloc (.cells #[.int .i64 0, .string ⟨#[]⟩, .int .i64 0, .int .i64 0, .int .i64 0, .int .i64 0, .string ⟨#[]⟩, .int .i64 0, .int .i64 0, .int .i64 0, .string ⟨#[]⟩, .string ⟨#[]⟩, .string ⟨#[]⟩, .string ⟨#[]⟩] 52)
  have hs1 := hs.frm0 hF
  clear hs
  go_enter Try.func31, Try.ntmps31
  go_wp2_with fail
  generalize w.alloc (.cells #[.int .i64 0, .string ⟨#[]⟩, .int .i64 0, .int .i64 0, .int .i64 0, .int .i64 0, .string ⟨#[]⟩, .int .i64 0, .int .i64 0, .int .i64 0, .string ⟨#[]⟩, .string ⟨#[]⟩, .string ⟨#[]⟩, .string ⟨#[]⟩] 52) = W at *
  generalize hrb : w.heap.size = rb at *
  refine (rplace_any v l t k _ hs1 hl).mono ?_
  rintro e2 w2 ⟨rfl, hf2⟩
  have hs2 := hs1.frm0 hf2
  have hz2 := hf2.blk hz (fun h => h)
  have hF2 := hF.trans hf2
  clear hs1 hz hF hf2
  cases hfd : found En.nm l (t, k.toList)
  · have HFD := Lib.hid hfd
    clear hfd hs2
    go_wp2_with (refine wpList_store_blk rfl 52 (.tmp 6) (.tmp 19) rfl hz2 rfl rfl iE (us := #[.int .i64 0, .string ⟨#[]⟩, .int .i64 0, .int .i64 0, .int .i64 0, .int .i64 0, .string ⟨#[]⟩, .int .i64 0, .int .i64 0, .int .i64 0, .string ⟨#[]⟩, .string ⟨#[]⟩, .string ⟨#[]⟩, .string ⟨#[]⟩]) rfl rfl rfl ?_; intro w9 hb9 hf9)
    (try simp only [Exit.inBlock, Exit.then])
    refine ret_cell1 (l := [.int .i64 0, .string ⟨#[]⟩, .int .i64 0, .int .i64 0, .int .i64 0, .int .i64 0, .string ⟨#[]⟩, .int .i64 0, .int .i64 0, .int .i64 0, .string ⟨#[]⟩, .string ⟨#[]⟩, .string ⟨#[]⟩, .string ⟨#[]⟩]) rfl Try.underlying52 rfl iE hb9 rfl rfl rfl rfl ?_
    exact ⟨by unfold gt; rw [HFD.out]; rfl, hF2.then_ hf9 (fun i hi e => by omega)⟩
  · have hlt := found_lt En.nm hfd
    have HFD := Lib.hid hfd
    obtain ⟨pl, hplE⟩ : ∃ pl, place En.nm l (t, k.toList) = pl := ⟨_, rfl⟩
    have HPL := Lib.hid hplE
    rw [hplE] at hlt ⊢
    obtain ⟨A, c, rfl⟩ := hs2.form
    obtain ⟨g, o, rfl⟩ := sl_base hs2 (by omega)
    have hrg := sl_range hs2 rfl pl hlt
    obtain ⟨e, hee⟩ : ∃ e, l[pl] = e := ⟨_, rfl⟩
    rw [hee] at hrg
    have HEE := Lib.hid hee
    have hlt2 : (pl : Int) < (l.length : Int) := by omega
    have hge2 : (0 : Int) ≤ (pl : Int) := by omega
    clear hfd hplE hs2 hee
    go_wp2_with (first
      | (refine wpList_load_mid rfl 52 (.tmp 22) rfl g (o + pl * 14) rfl e.cells _ hrg Try.underlying52 rfl (by rw [iE]; rfl) ?_)
      | (refine wpList_store_blk rfl 52 (.tmp 6) (.tmp 23) rfl hz2 rfl rfl iE (us := e.cells.toArray) rfl rfl (List.all_eq_true.2 (en_one e)) ?_; intro w9 hb9 hf9))
    (try simp only [Exit.inBlock, Exit.then])
    refine ret_cell1 (l := e.cells) rfl Try.underlying52 rfl iE hb9 rfl rfl rfl rfl ?_
    refine ⟨?_, hF2.then_ hf9 (fun i hi e => by omega)⟩
    unfold gt
    rw [HFD.out, HPL.out, if_pos rfl, List.getElem?_eq_getElem hlt, HEE.out]
    rfl

theorem ne_en (e : En) (w : World) : (binOp .neq 52 (.agg #[.int .i64 e.tenant, .string e.key, .int .i64 e.state, .int .i64 e.epoch, .int .i64 e.token, .int .i64 e.point, .string e.print, .int .i64 e.lease, .int .i64 e.expiry, .int .i64 e.status, .string e.text, .string e.method, .string e.path, .string e.body]) (.agg #[.int .i64 e.tenant, .string e.key, .int .i64 e.state, .int .i64 e.epoch, .int .i64 e.token, .int .i64 e.point, .string e.print, .int .i64 e.lease, .int .i64 e.expiry, .int .i64 e.status, .string e.text, .string e.method, .string e.path, .string e.body])).run Try.prog w = .ok (.bool false) w := by
  rw [run_neq_struct]
  simp [go_sem]
set_option maxHeartbeats 2000000 in
/-- Two slices of the same entries. -/
theorem same_any (v u : Value) (l : List En) (w : World) (hs : Sl w v l.length (ecs l)) (hu : Sl w u l.length (ecs l)) (hl : l.length ≤ 1000) :
    Calls Try.prog 28 #[v, u] w fun e_ w' => e_ = .returned (.bool true) ∧ Frm0 w w' := by
  obtain ⟨A, c, rfl⟩ := hs.form
  obtain ⟨A2, c2, rfl⟩ := hu.form
  have HS := Lib.hid (fun w9 (hf : Frm0 w w9) => hs.frm0 hf)
  have HU := Lib.hid (fun w9 (hf : Frm0 w w9) => hu.frm0 hf)
  have b0 : ((l.length : Int) != (l.length : Int)) = false := by simp
  have b1 : (l.length != l.length) = false := by simp
  clear hs hu
  go_enter Try.func28, Try.ntmps28
  go_wp2_with fail
  go_loopw [5] (fun i wr => ∃ q : Nat, q ≤ l.length ∧ i = .int .i64 q ∧ Frm0 w wr) (fun i _ => l.length - (intOf i).toNat)
  case atStart => exact ⟨0, by omega, rfl, Frm.refl _ _⟩
  case round =>
    obtain ⟨q, hql, rfl, hFr⟩ := hrel
    by_cases hlt : q < l.length
    · obtain ⟨g, o, rfl⟩ := sl_base (HS.out w (Frm.refl _ _)) (by omega)
      obtain ⟨g2, o2, rfl⟩ := sl_base (HU.out w (Frm.refl _ _)) (by omega)
      obtain ⟨e, hee⟩ : ∃ e, l[q] = e := ⟨_, rfl⟩
      have h1 := fun (w9 : World) (hf : Frm0 wr w9) => sl_range (HS.out w9 (hFr.trans hf)) rfl q hlt
      have h2 := fun (w9 : World) (hf : Frm0 wr w9) => sl_range (HU.out w9 (hFr.trans hf)) rfl q hlt
      rw [hee] at h1 h2
      have HC1 := Lib.hid h1
      have HC2 := Lib.hid h2
      have hlt2 : (q : Int) < (l.length : Int) := by omega
      have hge2 : (0 : Int) ≤ (q : Int) := by omega
      have d1 : decide ((q : Int) < (l.length : Int)) = true := decide_eq_true hlt2
      have hw1 : IntKind.i64.wrap ((q : Int) + 1) = ((q + 1 : Nat) : Int) := by rw [IntKind.wrap_i64]; omega
      clear hee h1 h2
      go_upto_region 6 with (fail)
      refine wp_region_held_drew (S := fun w9 => Frm0 wr w9) (by kernel_rfl) ((Frm.refl (fun _ => False) _).drew) (fun hHeld => ?_)
      refine wpAnyH_take (i := 0) (v := ?_) rfl (by kernel_rfl) (by kernel_rfl) (by kernel_rfl) (fun _ _ _ h => h) (Or.inl ⟨by rfl, ?_⟩) (by assumption) ?_
      rotate_left 1
      focus (intro w hSw; (try dsimp only at hSw); go_simp; (try with_reducible rfl))
      (try simp only [Act.put, List.getElem_toArray, List.getElem_cons_succ, List.getElem_cons_zero, List.setIfInBounds_toArray, List.set_cons_zero, List.set_cons_succ])
      refine wpAnyH_take (i := 1) (v := ?_) rfl (by kernel_rfl) (by kernel_rfl) (by kernel_rfl) (fun _ _ _ h => h) (Or.inl ⟨by rfl, ?_⟩) (by assumption) ?_
      rotate_left 1
      focus (intro w hSw; (try dsimp only at hSw); go_simp; (try with_reducible rfl))
      (try simp only [Act.put, List.getElem_toArray, List.getElem_cons_succ, List.getElem_cons_zero, List.setIfInBounds_toArray, List.set_cons_zero, List.set_cons_succ])
      refine wpAnyH_take (i := 2) (v := ?_) rfl (by kernel_rfl) (by kernel_rfl) (by kernel_rfl) (fun _ _ _ h => h) (Or.inl ⟨by rfl, ?_⟩) (by assumption) ?_
      rotate_left 1
      focus (intro w hSw; (try dsimp only at hSw); go_simp; (try with_reducible rfl))
      (try simp only [Act.put, List.getElem_toArray, List.getElem_cons_succ, List.getElem_cons_zero, List.setIfInBounds_toArray, List.set_cons_zero, List.set_cons_succ])
      refine wpAnyH_take (i := 3) (v := .agg #[.int .i64 e.tenant, .string e.key, .int .i64 e.state, .int .i64 e.epoch, .int .i64 e.token, .int .i64 e.point, .string e.print, .int .i64 e.lease, .int .i64 e.expiry, .int .i64 e.status, .string e.text, .string e.method, .string e.path, .string e.body]) rfl (by kernel_rfl) (by kernel_rfl) (by kernel_rfl) (fun _ _ _ h => h) (yieldsIf_load_mid (by rfl) 52 (.tmp 19) rfl g (o + q * 14) rfl [.int .i64 e.tenant, .string e.key, .int .i64 e.state, .int .i64 e.epoch, .int .i64 e.token, .int .i64 e.point, .string e.print, .int .i64 e.lease, .int .i64 e.expiry, .int .i64 e.status, .string e.text, .string e.method, .string e.path, .string e.body] _ (fun w9 hSw => HC1.out w9 hSw) Try.underlying52 rfl (by rw [iE]; rfl)) (by assumption) ?_
      (try simp only [Act.put, List.getElem_toArray, List.getElem_cons_succ, List.getElem_cons_zero, List.setIfInBounds_toArray, List.set_cons_zero, List.set_cons_succ])
      refine wpAnyH_take (i := 4) (v := ?_) rfl (by kernel_rfl) (by kernel_rfl) (by kernel_rfl) (fun _ _ _ h => h) (Or.inl ⟨by rfl, ?_⟩) (by assumption) ?_
      rotate_left 1
      focus (intro w hSw; (try dsimp only at hSw); go_simp; (try with_reducible rfl))
      (try simp only [Act.put, List.getElem_toArray, List.getElem_cons_succ, List.getElem_cons_zero, List.setIfInBounds_toArray, List.set_cons_zero, List.set_cons_succ])
      refine wpAnyH_take (i := 5) (v := ?_) rfl (by kernel_rfl) (by kernel_rfl) (by kernel_rfl) (fun _ _ _ h => h) (Or.inl ⟨by rfl, ?_⟩) (by assumption) ?_
      rotate_left 1
      focus (intro w hSw; (try dsimp only at hSw); go_simp; (try with_reducible rfl))
      (try simp only [Act.put, List.getElem_toArray, List.getElem_cons_succ, List.getElem_cons_zero, List.setIfInBounds_toArray, List.set_cons_zero, List.set_cons_succ])
      refine wpAnyH_take (i := 6) (v := ?_) rfl (by kernel_rfl) (by kernel_rfl) (by kernel_rfl) (fun _ _ _ h => h) (Or.inl ⟨by rfl, ?_⟩) (by assumption) ?_
      rotate_left 1
      focus (intro w hSw; (try dsimp only at hSw); go_simp; (try with_reducible rfl))
      (try simp only [Act.put, List.getElem_toArray, List.getElem_cons_succ, List.getElem_cons_zero, List.setIfInBounds_toArray, List.set_cons_zero, List.set_cons_succ])
      refine wpAnyH_take (i := 7) (v := .agg #[.int .i64 e.tenant, .string e.key, .int .i64 e.state, .int .i64 e.epoch, .int .i64 e.token, .int .i64 e.point, .string e.print, .int .i64 e.lease, .int .i64 e.expiry, .int .i64 e.status, .string e.text, .string e.method, .string e.path, .string e.body]) rfl (by kernel_rfl) (by kernel_rfl) (by kernel_rfl) (fun _ _ _ h => h) (yieldsIf_load_mid (by rfl) 52 (.tmp 23) rfl g2 (o2 + q * 14) rfl [.int .i64 e.tenant, .string e.key, .int .i64 e.state, .int .i64 e.epoch, .int .i64 e.token, .int .i64 e.point, .string e.print, .int .i64 e.lease, .int .i64 e.expiry, .int .i64 e.status, .string e.text, .string e.method, .string e.path, .string e.body] _ (fun w9 hSw => HC2.out w9 hSw) Try.underlying52 rfl (by rw [iE]; rfl)) (by assumption) ?_
      (try simp only [Act.put, List.getElem_toArray, List.getElem_cons_succ, List.getElem_cons_zero, List.setIfInBounds_toArray, List.set_cons_zero, List.set_cons_succ])
      refine wpAnyH_take (i := 8) (v := .bool false) rfl (by kernel_rfl) (by kernel_rfl) (by kernel_rfl) (fun _ _ _ h => h) (Or.inl ⟨by rfl, ?_⟩) (by assumption) ?_
      focus (intro w9 hSw; go_simp; first | done | exact ne_en e w9)
      (try simp only [Act.put, List.getElem_toArray, List.getElem_cons_succ, List.getElem_cons_zero, List.setIfInBounds_toArray, List.set_cons_zero, List.set_cons_succ])
      refine wpAnyH_done (by kernel_rfl) ?_ _
      go_wp2
      go_roundw
      case rel => exact ⟨q + 1, by omega, by go_num, hFr.drew⟩
      case measure => simp [intOf]; omega
    · obtain rfl : q = l.length := by omega
      go_wp2
      go_returns
      exact ⟨rfl, hFr⟩

end
end Ix
end Go.Proofs.Ythggbohoedfkpaa
