/- The index's reference: Of, After. -/
import Derived.Test.YthggbohoedfkpaaIxm
namespace Go.Proofs.Ythggbohoedfkpaa
open Go.RowKit
set_option linter.unusedVariables false
set_option linter.unusedSimpArgs false
set_option maxRecDepth 100000
namespace Ix
theorem flt_step {α : Type} (P : α → Bool) (l : List α) (q : Nat) (h : q < l.length) : (l.take (q + 1)).filter P = (l.take q).filter P ++ (if P l[q] = true then [l[q]] else []) := by
  rw [List.take_add_one, List.getElem?_eq_getElem h, List.filter_append]
  congr 1
  show List.filter P [l[q]] = _
  rw [List.filter_cons]
  simp
section
variable {w w1 : World}
set_option maxHeartbeats 4000000 in
theorem rof_any (v : Value) (l : List En) (t : Int) (w : World) (hs : Sl w v l.length (ecs l)) (hll : l.length ≤ 90) :
    Calls Try.prog 35 #[v, .int .i64 t] w fun e_ w' => ∃ v', e_ = .returned v' ∧ w'.ownsRow w.heap.size 52 14 v' (l.filter (fun a => decide ((En.nm a).1 = t))).length (ecs (l.filter (fun a => decide ((En.nm a).1 = t)))) ∧ Frm0 w w' := by
  obtain ⟨A, c, rfl⟩ := hs.form
  have HS := Lib.hid (fun w9 (hf : Frm0 w w9) => hs.frm0 hf)
  clear hs
  go_enter Try.func35, Try.ntmps35
  go_wp2_with fail
  go_loopw [6, 5] (fun i o wr => ∃ q : Nat, q ≤ l.length ∧ i = .int .i64 q ∧ Hid (wr.ownsRow w.heap.size 52 14 o ((l.take q).filter (fun a => decide ((En.nm a).1 = t))).length (ecs ((l.take q).filter (fun a => decide ((En.nm a).1 = t))))) ∧ Frm0 w wr) (fun i o _ => l.length - (intOf i).toNat)
  case atStart => exact ⟨0, by omega, rfl, World.ownsRow_nil _ _ _ _, Frm.refl _ _⟩
  case round =>
    obtain ⟨q, hql, rfl, HO, hFr⟩ := hrel
    have hszr := hFr.size
    by_cases hlt : q < l.length
    · obtain ⟨g, o, rfl⟩ := sl_base (HS.out w (Frm.refl _ _)) (by omega)
      have hrg := sl_range (HS.out _ hFr) rfl q hlt
      obtain ⟨e, hee⟩ : ∃ e, l[q] = e := ⟨_, rfl⟩
      rw [hee] at hrg
      have hst := flt_step (fun a : En => decide ((En.nm a).1 = t)) l q hlt
      rw [hee] at hst
      have x0 : wr.cell? ⟨g, o + q * 14, none⟩ = some (.int .i64 e.tenant) := hrg 0 _ rfl
      have hlt2 : (q : Int) < (l.length : Int) := by omega
      have hge2 : (0 : Int) ≤ (q : Int) := by omega
      have d1 : decide ((q : Int) < (l.length : Int)) = true := decide_eq_true hlt2
      have hw1 : IntKind.i64.wrap ((q : Int) + 1) = ((q + 1 : Nat) : Int) := by rw [IntKind.wrap_i64]; omega
      have hfl : ((l.take q).filter (fun a => decide ((En.nm a).1 = t))).length ≤ 90 := Nat.le_trans (List.length_filter_le _ _) (by rw [List.length_take]; omega)
      obtain ⟨fl, hfe⟩ : ∃ fl, (l.take q).filter (fun a => decide ((En.nm a).1 = t)) = fl := ⟨_, rfl⟩
      rw [hfe] at hst hfl HO
      have HST := Lib.hid hst
      clear hee hst hfe
      by_cases he : e.tenant = t
      · have b1 : (e.tenant == t) = true := beq_iff_eq.2 he
        have HE := Lib.hid he
        clear he
        obtain ⟨A7, c7, hu7⟩ := owns_nil_form' HO.out
        subst hu7
        have hFW := (Frm.refl (fun _ => False) wr).alloc (.cells #[.int .i64 e.tenant, .string e.key, .int .i64 e.state, .int .i64 e.epoch, .int .i64 e.token, .int .i64 e.point, .string e.print, .int .i64 e.lease, .int .i64 e.expiry, .int .i64 e.status, .string e.text, .string e.method, .string e.path, .string e.body] 52)
        have HO2 := Lib.hid (owns_frm0 HO.out hFW)
        have HS2 := Lib.hid (Sl.new wr #[.int .i64 e.tenant, .string e.key, .int .i64 e.state, .int .i64 e.epoch, .int .i64 e.token, .int .i64 e.point, .string e.print, .int .i64 e.lease, .int .i64 e.expiry, .int .i64 e.status, .string e.text, .string e.method, .string e.path, .string e.body] 52 1 (by unfold maxLen; omega) (by omega))
        have HL2 := Lib.hid (en_one e)
        have HZ := Lib.hid (show w.heap.size ≤ (wr.alloc (.cells #[.int .i64 e.tenant, .string e.key, .int .i64 e.state, .int .i64 e.epoch, .int .i64 e.token, .int .i64 e.point, .string e.print, .int .i64 e.lease, .int .i64 e.expiry, .int .i64 e.status, .string e.text, .string e.method, .string e.path, .string e.body] 52)).heap.size by simp; omega)
        go_wp2_with (first
          | (refine wpList_load_mid rfl 52 (.tmp 23) rfl g (o + q * 14) rfl [.int .i64 e.tenant, .string e.key, .int .i64 e.state, .int .i64 e.epoch, .int .i64 e.token, .int .i64 e.point, .string e.print, .int .i64 e.lease, .int .i64 e.expiry, .int .i64 e.status, .string e.text, .string e.method, .string e.path, .string e.body] _ hrg Try.underlying52 rfl (by rw [iE]; rfl) ?_)
          | (refine wpList_append_sl rfl (.tmp 20) (.tmp 25) rfl EEn w.heap.size (.slice A7 fl.length c7) _ fl.length 1 (ecs fl) [.int .i64 e.tenant, .string e.key, .int .i64 e.state, .int .i64 e.epoch, .int .i64 e.token, .int .i64 e.point, .string e.print, .int .i64 e.lease, .int .i64 e.expiry, .int .i64 e.status, .string e.text, .string e.method, .string e.path, .string e.body] rfl rfl HO2.out HS2.out rfl HL2.out (by unfold maxLen; omega) (by omega) HZ.out ?_; intro v7 w7 ho7 hf7 hb7))
        go_roundw
        case rel =>
          refine ⟨q + 1, by omega, by go_num, ?_, ?_⟩
          · rw [HST.out, if_pos (decide_eq_true (show (En.nm e).1 = t from HE.out)), List.length_append, ecs_app]
            exact ho7
          · exact (hFr.trans hFW).then_ hf7 (fun k hk h => by
              have := HO2.out.lt k h
              omega)
        case measure => simp [intOf]; omega
      · have b1 : (e.tenant == t) = false := beq_eq_false_iff_ne.2 he
        have HE := Lib.hid he
        clear he
        go_wp2
        go_roundw
        case rel =>
          refine ⟨q + 1, by omega, by go_num, ?_, hFr⟩
          rw [HST.out, if_neg (by rw [decide_eq_false (show ¬ (En.nm e).1 = t from HE.out)]; decide), List.append_nil]
          exact HO.out
        case measure => simp [intOf]; omega
    · obtain rfl : q = l.length := by omega
      have d1 : decide ((l.length : Int) < (l.length : Int)) = false := decide_eq_false (by omega)
      rw [List.take_length] at HO
      go_wp2
      go_ret
      exact ⟨_, rfl, HO.out, hFr⟩

set_option maxHeartbeats 4000000 in
theorem rafter_any (v : Value) (l : List En) (t : Int) (k : ByteArray) (n : Int) (w : World) (hs : Sl w v l.length (ecs l)) (hll : l.length ≤ 90) :
    Calls Try.prog 33 #[v, .int .i64 t, .string k, .int .i64 n] w fun e_ w' => ∃ v', e_ = .returned v' ∧ w'.ownsRow w.heap.size 52 14 v' (aft En.nm l (t, k.toList) n.toNat).length (ecs (aft En.nm l (t, k.toList) n.toNat)) ∧ Frm0 w w' := by
  obtain ⟨A, c, rfl⟩ := hs.form
  have HS := Lib.hid (fun w9 (hf : Frm0 w w9) => hs.frm0 hf)
  clear hs
  go_enter Try.func33, Try.ntmps33
  go_wp2_with fail
  go_loopw [10, 9] (fun i o wr => ∃ q : Nat, q ≤ l.length ∧ i = .int .i64 q ∧ Hid (wr.ownsRow w.heap.size 52 14 o ((l.take q).filter (fun a => ahead (t, k.toList) (En.nm a))).length (ecs ((l.take q).filter (fun a => ahead (t, k.toList) (En.nm a))))) ∧ ((l.take q).filter (fun a => ahead (t, k.toList) (En.nm a))).length ≤ n.toNat ∧ Frm0 w wr) (fun i o _ => l.length - (intOf i).toNat)
  case atStart => exact ⟨0, by omega, rfl, World.ownsRow_nil _ _ _ _, by simp, Frm.refl _ _⟩
  case round =>
    obtain ⟨q, hql, rfl, HO, hlen, hFr⟩ := hrel
    have hszr := hFr.size
    have hfl : ((l.take q).filter (fun a => ahead (t, k.toList) (En.nm a))).length ≤ 90 := Nat.le_trans (List.length_filter_le _ _) (by rw [List.length_take]; omega)
    have hspl : l.filter (fun a => ahead (t, k.toList) (En.nm a)) = (l.take q).filter (fun a => ahead (t, k.toList) (En.nm a)) ++ (l.drop q).filter (fun a => ahead (t, k.toList) (En.nm a)) := by
      rw [← List.filter_append, List.take_append_drop]
    by_cases hlt : q < l.length
    · obtain ⟨g, o, rfl⟩ := sl_base (HS.out w (Frm.refl _ _)) (by omega)
      have hrg := sl_range (HS.out _ hFr) rfl q hlt
      obtain ⟨e, hee⟩ : ∃ e, l[q] = e := ⟨_, rfl⟩
      have hrg2 := fun (w9 : World) (hf : Frm0 wr w9) => sl_range (HS.out w9 (hFr.trans hf)) rfl q hlt
      rw [hee] at hrg hrg2
      have HC := Lib.hid (fun (w9 : World) (hf : Frm0 wr w9) => And.intro (show w9.cell? ⟨g, o + q * 14, none⟩ = some (.int .i64 e.tenant) from hrg2 w9 hf 0 _ rfl) (show w9.cell? ⟨g, o + q * 14 + 1, none⟩ = some (.string e.key) from hrg2 w9 hf 1 _ rfl))
      have hst := flt_step (fun a : En => ahead (t, k.toList) (En.nm a)) l q hlt
      rw [hee] at hst
      have hlt2 : (q : Int) < (l.length : Int) := by omega
      have hge2 : (0 : Int) ≤ (q : Int) := by omega
      have d1 : decide ((q : Int) < (l.length : Int)) = true := decide_eq_true hlt2
      have hw1 : IntKind.i64.wrap ((q : Int) + 1) = ((q + 1 : Nat) : Int) := by rw [IntKind.wrap_i64]; omega
      obtain ⟨fl, hfe⟩ : ∃ fl, (l.take q).filter (fun a => ahead (t, k.toList) (En.nm a)) = fl := ⟨_, rfl⟩
      rw [hfe] at hst hfl HO hlen hspl
      have HST := Lib.hid hst
      have HSP := Lib.hid hspl
      obtain ⟨A7, c7, hu7⟩ := owns_nil_form' HO.out
      subst hu7
      clear hee hst hfe hrg2 hspl
      by_cases hn : (fl.length : Int) < n
      · have d2 : decide ((fl.length : Int) < n) = true := decide_eq_true hn
        cases hah : ahead (t, k.toList) (e.tenant, e.key.toList)
        · have HAH := Lib.hid hah
          go_upto_region 5 with (fail)
          refine wp_region_held_drew (S := fun w9 => Frm0 wr w9) (by kernel_rfl) ((Frm.refl (fun _ => False) _).drew) (fun hHeld => ?_)
          refine wpAnyH_take (i := 0) (v := ?_) rfl (by kernel_rfl) (by kernel_rfl) (by kernel_rfl) (fun _ _ _ h => h) (Or.inl ⟨by rfl, ?_⟩) (by assumption) ?_
          rotate_left 1
          focus (intro w hSw; (try dsimp only at hSw); obtain ⟨c0, c1⟩ := HC.out _ hSw; go_simp; (try with_reducible rfl))
          (try simp only [Act.put, List.getElem_toArray, List.getElem_cons_succ, List.getElem_cons_zero, List.setIfInBounds_toArray, List.set_cons_zero, List.set_cons_succ])
          refine wpAnyH_take (i := 1) (v := ?_) rfl (by kernel_rfl) (by kernel_rfl) (by kernel_rfl) (fun _ _ _ h => h) (Or.inl ⟨by rfl, ?_⟩) (by assumption) ?_
          rotate_left 1
          focus (intro w hSw; (try dsimp only at hSw); obtain ⟨c0, c1⟩ := HC.out _ hSw; go_simp; (try with_reducible rfl))
          (try simp only [Act.put, List.getElem_toArray, List.getElem_cons_succ, List.getElem_cons_zero, List.setIfInBounds_toArray, List.set_cons_zero, List.set_cons_succ])
          refine wpAnyH_take (i := 2) (v := ?_) rfl (by kernel_rfl) (by kernel_rfl) (by kernel_rfl) (fun _ _ _ h => h) (Or.inl ⟨by rfl, ?_⟩) (by assumption) ?_
          rotate_left 1
          focus (intro w hSw; (try dsimp only at hSw); obtain ⟨c0, c1⟩ := HC.out _ hSw; go_simp; (try with_reducible rfl))
          (try simp only [Act.put, List.getElem_toArray, List.getElem_cons_succ, List.getElem_cons_zero, List.setIfInBounds_toArray, List.set_cons_zero, List.set_cons_succ])
          refine wpAnyH_take (i := 3) (v := ?_) rfl (by kernel_rfl) (by kernel_rfl) (by kernel_rfl) (fun _ _ _ h => h) (Or.inl ⟨by rfl, ?_⟩) (by assumption) ?_
          rotate_left 1
          focus (intro w hSw; (try dsimp only at hSw); obtain ⟨c0, c1⟩ := HC.out _ hSw; go_simp; (try with_reducible rfl))
          (try simp only [Act.put, List.getElem_toArray, List.getElem_cons_succ, List.getElem_cons_zero, List.setIfInBounds_toArray, List.set_cons_zero, List.set_cons_succ])
          refine wpAnyH_take (i := 4) (v := ?_) rfl (by kernel_rfl) (by kernel_rfl) (by kernel_rfl) (fun _ _ _ h => h) (Or.inl ⟨by rfl, ?_⟩) (by assumption) ?_
          rotate_left 1
          focus (intro w hSw; (try dsimp only at hSw); obtain ⟨c0, c1⟩ := HC.out _ hSw; go_simp; (try with_reducible rfl))
          (try simp only [Act.put, List.getElem_toArray, List.getElem_cons_succ, List.getElem_cons_zero, List.setIfInBounds_toArray, List.set_cons_zero, List.set_cons_succ])
          refine wpAnyH_take (i := 5) (v := ?_) rfl (by kernel_rfl) (by kernel_rfl) (by kernel_rfl) (fun _ _ _ h => h) (Or.inl ⟨by rfl, ?_⟩) (by assumption) ?_
          rotate_left 1
          focus (intro w hSw; (try dsimp only at hSw); obtain ⟨c0, c1⟩ := HC.out _ hSw; go_simp; (try with_reducible rfl))
          (try simp only [Act.put, List.getElem_toArray, List.getElem_cons_succ, List.getElem_cons_zero, List.setIfInBounds_toArray, List.set_cons_zero, List.set_cons_succ])
          refine wpAnyH_take (i := 6) (v := ?_) rfl (by kernel_rfl) (by kernel_rfl) (by kernel_rfl) (fun _ _ _ h => h) (Or.inl ⟨by rfl, ?_⟩) (by assumption) ?_
          rotate_left 1
          focus (intro w hSw; (try dsimp only at hSw); obtain ⟨c0, c1⟩ := HC.out _ hSw; go_simp; (try with_reducible rfl))
          (try simp only [Act.put, List.getElem_toArray, List.getElem_cons_succ, List.getElem_cons_zero, List.setIfInBounds_toArray, List.set_cons_zero, List.set_cons_succ])
          refine wpAnyH_take (i := 7) (v := ?_) rfl (by kernel_rfl) (by kernel_rfl) (by kernel_rfl) (fun _ _ _ h => h) (Or.inl ⟨by rfl, ?_⟩) (by assumption) ?_
          rotate_left 1
          focus (intro w hSw; (try dsimp only at hSw); obtain ⟨c0, c1⟩ := HC.out _ hSw; go_simp; (try with_reducible rfl))
          (try simp only [Act.put, List.getElem_toArray, List.getElem_cons_succ, List.getElem_cons_zero, List.setIfInBounds_toArray, List.set_cons_zero, List.set_cons_succ])
          refine wpAnyH_take (i := 8) (v := ?_) rfl (by kernel_rfl) (by kernel_rfl) (by kernel_rfl) (fun _ _ _ h => h) (Or.inl ⟨by rfl, ?_⟩) (by assumption) ?_
          rotate_left 1
          focus (intro w hSw; (try dsimp only at hSw); obtain ⟨c0, c1⟩ := HC.out _ hSw; go_simp; (try with_reducible rfl))
          (try simp only [Act.put, List.getElem_toArray, List.getElem_cons_succ, List.getElem_cons_zero, List.setIfInBounds_toArray, List.set_cons_zero, List.set_cons_succ])
          refine wpAnyH_take (i := 9) (v := ?_) rfl (by kernel_rfl) (by kernel_rfl) (by kernel_rfl) (fun _ _ _ h => h) (Or.inl ⟨by rfl, ?_⟩) (by assumption) ?_
          rotate_left 1
          focus (intro w hSw; (try dsimp only at hSw); obtain ⟨c0, c1⟩ := HC.out _ hSw; go_simp; (try with_reducible rfl))
          (try simp only [Act.put, List.getElem_toArray, List.getElem_cons_succ, List.getElem_cons_zero, List.setIfInBounds_toArray, List.set_cons_zero, List.set_cons_succ])
          refine wpAnyH_take (i := 10) (v := ?_) rfl (by kernel_rfl) (by kernel_rfl) (by kernel_rfl) (fun _ _ _ h => h) (Or.inl ⟨by rfl, ?_⟩) (by assumption) ?_
          rotate_left 1
          focus (intro w hSw; (try dsimp only at hSw); obtain ⟨c0, c1⟩ := HC.out _ hSw; go_simp; (try with_reducible rfl))
          (try simp only [Act.put, List.getElem_toArray, List.getElem_cons_succ, List.getElem_cons_zero, List.setIfInBounds_toArray, List.set_cons_zero, List.set_cons_succ])
          refine wpAnyH_take (i := 11) (v := ?_) rfl (by kernel_rfl) (by kernel_rfl) (by kernel_rfl) (fun _ _ _ h => h) (Or.inl ⟨by rfl, ?_⟩) (by assumption) ?_
          rotate_left 1
          focus (intro w hSw; (try dsimp only at hSw); obtain ⟨c0, c1⟩ := HC.out _ hSw; go_simp; (try with_reducible rfl))
          (try simp only [Act.put, List.getElem_toArray, List.getElem_cons_succ, List.getElem_cons_zero, List.setIfInBounds_toArray, List.set_cons_zero, List.set_cons_succ])
          refine wpAnyH_ready (rs := [12]) (by kernel_rfl) (by simp) ?_
          refine AllReadyH.cons rfl (fun K hK => ?_) AllReadyH.nil
          go_simp
          refine (rahead_any t e.tenant k e.key _).mono ?_
          rintro e5 w5 ⟨rfl, rfl⟩
          (try go_wp2_with fail)
          refine hK.out _ _ (by assumption) (fun hHeld => ?_)
          clear hK K
          (try simp only [Act.put, List.getElem_toArray, List.getElem_cons_succ, List.getElem_cons_zero, List.setIfInBounds_toArray, List.set_cons_zero, List.set_cons_succ])
          refine wpAnyH_done (by kernel_rfl) ?_ _
          clear hah
          go_wp2
          go_roundw
          case rel =>
            refine ⟨q + 1, by omega, by go_num, ?_, ?_, hFr.drew⟩
            · rw [HST.out, if_neg (by rw [show ahead (t, k.toList) (En.nm e) = false from HAH.out]; decide), List.append_nil]
              exact owns_drew' HO.out
            · rw [HST.out, if_neg (by rw [show ahead (t, k.toList) (En.nm e) = false from HAH.out]; decide), List.append_nil]
              exact hlen
          case measure => simp [intOf]; omega
        · have HAH := Lib.hid hah
          have hrd := hrg
          have hFW := ((Frm.refl (fun _ => False) wr).drew).alloc (.cells #[.int .i64 e.tenant, .string e.key, .int .i64 e.state, .int .i64 e.epoch, .int .i64 e.token, .int .i64 e.point, .string e.print, .int .i64 e.lease, .int .i64 e.expiry, .int .i64 e.status, .string e.text, .string e.method, .string e.path, .string e.body] 52)
          have HO2 := Lib.hid (owns_frm0 HO.out hFW)
          have HS2 := Lib.hid (Sl.new wr.drew #[.int .i64 e.tenant, .string e.key, .int .i64 e.state, .int .i64 e.epoch, .int .i64 e.token, .int .i64 e.point, .string e.print, .int .i64 e.lease, .int .i64 e.expiry, .int .i64 e.status, .string e.text, .string e.method, .string e.path, .string e.body] 52 1 (by unfold maxLen; omega) (by omega))
          have HL2 := Lib.hid (en_one e)
          have HZ := Lib.hid (show w.heap.size ≤ (wr.drew.alloc (.cells #[.int .i64 e.tenant, .string e.key, .int .i64 e.state, .int .i64 e.epoch, .int .i64 e.token, .int .i64 e.point, .string e.print, .int .i64 e.lease, .int .i64 e.expiry, .int .i64 e.status, .string e.text, .string e.method, .string e.path, .string e.body] 52)).heap.size from Nat.le_trans hszr hFW.size)
          go_upto_region 5 with (fail)
          refine wp_region_held_drew (S := fun w9 => Frm0 wr w9) (by kernel_rfl) ((Frm.refl (fun _ => False) _).drew) (fun hHeld => ?_)
          refine wpAnyH_take (i := 0) (v := ?_) rfl (by kernel_rfl) (by kernel_rfl) (by kernel_rfl) (fun _ _ _ h => h) (Or.inl ⟨by rfl, ?_⟩) (by assumption) ?_
          rotate_left 1
          focus (intro w hSw; (try dsimp only at hSw); obtain ⟨c0, c1⟩ := HC.out _ hSw; go_simp; (try with_reducible rfl))
          (try simp only [Act.put, List.getElem_toArray, List.getElem_cons_succ, List.getElem_cons_zero, List.setIfInBounds_toArray, List.set_cons_zero, List.set_cons_succ])
          refine wpAnyH_take (i := 1) (v := ?_) rfl (by kernel_rfl) (by kernel_rfl) (by kernel_rfl) (fun _ _ _ h => h) (Or.inl ⟨by rfl, ?_⟩) (by assumption) ?_
          rotate_left 1
          focus (intro w hSw; (try dsimp only at hSw); obtain ⟨c0, c1⟩ := HC.out _ hSw; go_simp; (try with_reducible rfl))
          (try simp only [Act.put, List.getElem_toArray, List.getElem_cons_succ, List.getElem_cons_zero, List.setIfInBounds_toArray, List.set_cons_zero, List.set_cons_succ])
          refine wpAnyH_take (i := 2) (v := ?_) rfl (by kernel_rfl) (by kernel_rfl) (by kernel_rfl) (fun _ _ _ h => h) (Or.inl ⟨by rfl, ?_⟩) (by assumption) ?_
          rotate_left 1
          focus (intro w hSw; (try dsimp only at hSw); obtain ⟨c0, c1⟩ := HC.out _ hSw; go_simp; (try with_reducible rfl))
          (try simp only [Act.put, List.getElem_toArray, List.getElem_cons_succ, List.getElem_cons_zero, List.setIfInBounds_toArray, List.set_cons_zero, List.set_cons_succ])
          refine wpAnyH_take (i := 3) (v := ?_) rfl (by kernel_rfl) (by kernel_rfl) (by kernel_rfl) (fun _ _ _ h => h) (Or.inl ⟨by rfl, ?_⟩) (by assumption) ?_
          rotate_left 1
          focus (intro w hSw; (try dsimp only at hSw); obtain ⟨c0, c1⟩ := HC.out _ hSw; go_simp; (try with_reducible rfl))
          (try simp only [Act.put, List.getElem_toArray, List.getElem_cons_succ, List.getElem_cons_zero, List.setIfInBounds_toArray, List.set_cons_zero, List.set_cons_succ])
          refine wpAnyH_take (i := 4) (v := ?_) rfl (by kernel_rfl) (by kernel_rfl) (by kernel_rfl) (fun _ _ _ h => h) (Or.inl ⟨by rfl, ?_⟩) (by assumption) ?_
          rotate_left 1
          focus (intro w hSw; (try dsimp only at hSw); obtain ⟨c0, c1⟩ := HC.out _ hSw; go_simp; (try with_reducible rfl))
          (try simp only [Act.put, List.getElem_toArray, List.getElem_cons_succ, List.getElem_cons_zero, List.setIfInBounds_toArray, List.set_cons_zero, List.set_cons_succ])
          refine wpAnyH_take (i := 5) (v := ?_) rfl (by kernel_rfl) (by kernel_rfl) (by kernel_rfl) (fun _ _ _ h => h) (Or.inl ⟨by rfl, ?_⟩) (by assumption) ?_
          rotate_left 1
          focus (intro w hSw; (try dsimp only at hSw); obtain ⟨c0, c1⟩ := HC.out _ hSw; go_simp; (try with_reducible rfl))
          (try simp only [Act.put, List.getElem_toArray, List.getElem_cons_succ, List.getElem_cons_zero, List.setIfInBounds_toArray, List.set_cons_zero, List.set_cons_succ])
          refine wpAnyH_take (i := 6) (v := ?_) rfl (by kernel_rfl) (by kernel_rfl) (by kernel_rfl) (fun _ _ _ h => h) (Or.inl ⟨by rfl, ?_⟩) (by assumption) ?_
          rotate_left 1
          focus (intro w hSw; (try dsimp only at hSw); obtain ⟨c0, c1⟩ := HC.out _ hSw; go_simp; (try with_reducible rfl))
          (try simp only [Act.put, List.getElem_toArray, List.getElem_cons_succ, List.getElem_cons_zero, List.setIfInBounds_toArray, List.set_cons_zero, List.set_cons_succ])
          refine wpAnyH_take (i := 7) (v := ?_) rfl (by kernel_rfl) (by kernel_rfl) (by kernel_rfl) (fun _ _ _ h => h) (Or.inl ⟨by rfl, ?_⟩) (by assumption) ?_
          rotate_left 1
          focus (intro w hSw; (try dsimp only at hSw); obtain ⟨c0, c1⟩ := HC.out _ hSw; go_simp; (try with_reducible rfl))
          (try simp only [Act.put, List.getElem_toArray, List.getElem_cons_succ, List.getElem_cons_zero, List.setIfInBounds_toArray, List.set_cons_zero, List.set_cons_succ])
          refine wpAnyH_take (i := 8) (v := ?_) rfl (by kernel_rfl) (by kernel_rfl) (by kernel_rfl) (fun _ _ _ h => h) (Or.inl ⟨by rfl, ?_⟩) (by assumption) ?_
          rotate_left 1
          focus (intro w hSw; (try dsimp only at hSw); obtain ⟨c0, c1⟩ := HC.out _ hSw; go_simp; (try with_reducible rfl))
          (try simp only [Act.put, List.getElem_toArray, List.getElem_cons_succ, List.getElem_cons_zero, List.setIfInBounds_toArray, List.set_cons_zero, List.set_cons_succ])
          refine wpAnyH_take (i := 9) (v := ?_) rfl (by kernel_rfl) (by kernel_rfl) (by kernel_rfl) (fun _ _ _ h => h) (Or.inl ⟨by rfl, ?_⟩) (by assumption) ?_
          rotate_left 1
          focus (intro w hSw; (try dsimp only at hSw); obtain ⟨c0, c1⟩ := HC.out _ hSw; go_simp; (try with_reducible rfl))
          (try simp only [Act.put, List.getElem_toArray, List.getElem_cons_succ, List.getElem_cons_zero, List.setIfInBounds_toArray, List.set_cons_zero, List.set_cons_succ])
          refine wpAnyH_take (i := 10) (v := ?_) rfl (by kernel_rfl) (by kernel_rfl) (by kernel_rfl) (fun _ _ _ h => h) (Or.inl ⟨by rfl, ?_⟩) (by assumption) ?_
          rotate_left 1
          focus (intro w hSw; (try dsimp only at hSw); obtain ⟨c0, c1⟩ := HC.out _ hSw; go_simp; (try with_reducible rfl))
          (try simp only [Act.put, List.getElem_toArray, List.getElem_cons_succ, List.getElem_cons_zero, List.setIfInBounds_toArray, List.set_cons_zero, List.set_cons_succ])
          refine wpAnyH_take (i := 11) (v := ?_) rfl (by kernel_rfl) (by kernel_rfl) (by kernel_rfl) (fun _ _ _ h => h) (Or.inl ⟨by rfl, ?_⟩) (by assumption) ?_
          rotate_left 1
          focus (intro w hSw; (try dsimp only at hSw); obtain ⟨c0, c1⟩ := HC.out _ hSw; go_simp; (try with_reducible rfl))
          (try simp only [Act.put, List.getElem_toArray, List.getElem_cons_succ, List.getElem_cons_zero, List.setIfInBounds_toArray, List.set_cons_zero, List.set_cons_succ])
          refine wpAnyH_ready (rs := [12]) (by kernel_rfl) (by simp) ?_
          refine AllReadyH.cons rfl (fun K hK => ?_) AllReadyH.nil
          go_simp
          refine (rahead_any t e.tenant k e.key _).mono ?_
          rintro e5 w5 ⟨rfl, rfl⟩
          (try go_wp2_with fail)
          refine hK.out _ _ (by assumption) (fun hHeld => ?_)
          clear hK K
          (try simp only [Act.put, List.getElem_toArray, List.getElem_cons_succ, List.getElem_cons_zero, List.setIfInBounds_toArray, List.set_cons_zero, List.set_cons_succ])
          refine wpAnyH_done (by kernel_rfl) ?_ _
          clear hah
          go_wp2_with (first
            | (refine wpList_load_mid rfl 52 (.tmp 39) rfl g (o + q * 14) rfl [.int .i64 e.tenant, .string e.key, .int .i64 e.state, .int .i64 e.epoch, .int .i64 e.token, .int .i64 e.point, .string e.print, .int .i64 e.lease, .int .i64 e.expiry, .int .i64 e.status, .string e.text, .string e.method, .string e.path, .string e.body] _ hrg Try.underlying52 rfl (by rw [iE]; rfl) ?_)
            | (refine wpList_append_sl rfl (.tmp 36) (.tmp 41) rfl EEn w.heap.size (.slice A7 fl.length c7) _ fl.length 1 (ecs fl) [.int .i64 e.tenant, .string e.key, .int .i64 e.state, .int .i64 e.epoch, .int .i64 e.token, .int .i64 e.point, .string e.print, .int .i64 e.lease, .int .i64 e.expiry, .int .i64 e.status, .string e.text, .string e.method, .string e.path, .string e.body] rfl rfl HO2.out HS2.out rfl HL2.out (by unfold maxLen; omega) (by omega) HZ.out ?_; intro v7 w7 ho7 hf7 hb7))
          go_roundw
          case rel =>
            have hs9 : (l.take (q + 1)).filter (fun a => ahead (t, k.toList) (En.nm a)) = fl ++ [e] := by
              rw [HST.out, if_pos (show ahead (t, k.toList) (En.nm e) = true from HAH.out)]
            refine ⟨q + 1, by omega, by go_num, ?_, ?_, ?_⟩
            · rw [hs9, List.length_append, ecs_app]
              exact ho7
            · rw [hs9, List.length_append, List.length_singleton]; omega
            · exact (hFr.trans hFW).then_ hf7 (fun k hk h => by
                have := HO2.out.lt k h
                omega)
          case measure => simp [intOf]; omega
      · have d2 : decide ((fl.length : Int) < n) = false := decide_eq_false hn
        go_wp2
        go_ret
        have hr : aft En.nm l (t, k.toList) n.toNat = fl := by
          unfold aft
          rw [HSP.out, List.take_left' (by omega)]
        exact ⟨_, rfl, by rw [hr]; exact HO.out, hFr⟩
    · obtain rfl : q = l.length := by omega
      have d1 : decide ((l.length : Int) < (l.length : Int)) = false := decide_eq_false (by omega)
      rw [List.take_length] at HO hlen
      have hr : aft En.nm l (t, k.toList) n.toNat = l.filter (fun a => ahead (t, k.toList) (En.nm a)) := by
        unfold aft
        rw [List.take_of_length_le hlen]
      have HR := Lib.hid hr
      clear hr hspl
      go_wp2
      go_ret
      exact ⟨_, rfl, by rw [HR.out]; exact HO.out, hFr⟩

end
end Ix
end Go.Proofs.Ythggbohoedfkpaa
