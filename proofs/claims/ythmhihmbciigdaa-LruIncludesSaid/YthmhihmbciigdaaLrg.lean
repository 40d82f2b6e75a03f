/- The cache: contracts of Put. -/
import Derived.Test.YthmhihmbciigdaaLre
import Derived.Deep.QuietTactic
import Derived.BigQuiet
namespace Go.Proofs.Ythmhihmbciigdaa
open Go.RowKit Go.Maps
set_option linter.unusedVariables false
set_option linter.unusedSimpArgs false
set_option maxRecDepth 100000
namespace Lr
section
variable {w w1 : World} {m r c N : Nat} {n : Int} {l p q : List Nat} {ky vl : Nat → ByteArray} {nx bk : Nat → Nat} {a : Nat} {S : Nat → Prop}
theorem At.setVal (h : At w m r c n N l ky vl nx bk) (ha : a ∈ l) (v : ByteArray) : At (w.setCell ⟨a, 1, none⟩ (.string v)) m r c n N l ky (updv vl a v) nx bk := by
  have ham : a ∈ r :: l := List.mem_cons_of_mem _ ha
  have hf : Frm (fun k => k = a) w (w.setCell ⟨a, 1, none⟩ (.string v)) := (Frm.refl _ w).set1 1 _
  exact ⟨hf.blk h.blk (fun e => (h.sep.2 a ham).1 e.symm), h.ring, h.nds.setVal ham v, h.km.frm hf (fun e => (h.sep.2 a ham).2 e.symm), h.keys, h.sep⟩
set_option maxHeartbeats 2000000 in
theorem put_yes (h : At w m r c n N (p ++ a :: q) ky vl nx bk) (hs : (ky a).size ≤ maxLen) (v : ByteArray) : Calls Try.prog 32 #[.pointer (some ⟨c, 0, none⟩), .string (ky a), .string v] w fun e w' => e = .returned (.tuple #[.string ⟨#[]⟩, .bool false]) ∧ Moved m r c N n (a :: (p ++ q)) ky (updv vl a v) w' ∧ Frm (fun k => k ∈ r :: (p ++ a :: q)) w w' := by
  have H := Lib.hid (find_yes h mem_mid hs)
  have ham0 : a ∈ r :: (p ++ a :: q) := List.mem_cons_of_mem _ mem_mid
  have c1 := (h.nds.c ham0).2.1
  have f1 := h.nds.fz ham0 1
  have HH := Lib.hid h
  clear h hs ham0
  go_enter Try.func32, Try.ntmps32
  go_wp2_with fail
  refine H.out.mono ?_
  rintro e w0 ⟨rfl, rfl⟩
  go_wp2_with fail
  have h := HH.out.setVal mem_mid v
  have hfs : Frm (fun k => k ∈ r :: (p ++ a :: q)) w (w.setCell ⟨a, 1, none⟩ (.string v)) := (Frm.refl _ w).setCell ⟨a, 1, none⟩ (fun _ => List.mem_cons_of_mem _ mem_mid) _
  clear c1 f1
  generalize w.setCell ⟨a, 1, none⟩ (.string v) = ws at *
  refine (out_any h.ring h.nds).mono ?_
  rintro e w1 ⟨rfl, hN1, hf1⟩
  have ham : a ∈ r :: (p ++ a :: q) := List.mem_cons_of_mem _ mem_mid
  have hxm := h.ring.nm a ham
  have hym := h.ring.bm a ham
  have hRg := h.ring.out
  have hc1 := hf1.blk h.blk (fun e => by
    rcases e with e | e
    · exact (h.sep.2 _ hxm).1 e.symm
    · exact (h.sep.2 _ hym).1 e.symm)
  have hsub : ∀ x ∈ r :: (p ++ q), x ∈ r :: (p ++ a :: q) := fun x hx => by
    rcases List.mem_cons.1 hx with e | e
    · exact e ▸ List.mem_cons_self ..
    · exact List.mem_cons_of_mem _ (mid_iff.2 (List.mem_cons_of_mem _ e))
  have hA1 := hN1 a ham
  have hfr1 : Frm (fun k => k ∈ r :: (p ++ a :: q)) ws w1 := hf1.mono (fun i _ e => e.elim (fun e => e ▸ hxm) (fun e => e ▸ hym))
  go_wp2_with fail
  refine (front_any hRg (hN1.sub hsub) hc1 h.ring.mid (fun e => (h.sep.2 a ham).1 e.symm) (fun x hx => (h.sep.2 x (hsub x hx)).1) hA1).mono ?_
  rintro e w2 ⟨rfl, hN2, hf2⟩
  have hxm2 := hRg.nm r (List.mem_cons_self ..)
  have hfr2 := hfr1.then_ hf2 (fun i _ e => by
    rcases e with e | e | e
    · exact e ▸ ham
    · exact e ▸ List.mem_cons_self ..
    · exact e ▸ hsub _ hxm2)
  have hAT : At w2 m r c n N (a :: (p ++ q)) ky (updv vl a v) _ _ := ⟨hf2.blk hc1 (fun e => by
      rcases e with e | e | e
      · exact (h.sep.2 a ham).1 e.symm
      · exact (h.sep.2 r (List.mem_cons_self ..)).1 e.symm
      · exact (h.sep.2 _ (hsub _ hxm2)).1 e.symm), hRg.front h.ring.mid, hN2, (h.km.frm hfr2 (fun e => (h.sep.2 m e).2 rfl)).perm (by rw [List.length_append, List.length_cons, List.length_cons, List.length_append]; omega) (fun x => mid_iff),
    ((List.Perm.map ky List.perm_middle).nodup_iff).1 h.keys, h.sep.1, fun x hx => h.sep.2 x (by
      rcases List.mem_cons.1 hx with e | e
      · exact e ▸ List.mem_cons_self ..
      · exact List.mem_cons_of_mem _ (mid_iff.2 e))⟩
  clear hN1 hf1 hc1 hA1 hN2 hf2 hfr1 hRg
  have HA := Lib.hid hAT
  clear h hAT ham hxm hym hsub hxm2
  go_wp2
  go_returns
  exact ⟨rfl, ⟨_, _, HA.out⟩, hfs.trans hfr2⟩
theorem Rg.lastR {z : Nat} (h : Rg nx bk r (p ++ [z])) : bk r = z := by
  have h2 := (Seg.app.1 h.seg).2
  have h3 : nx z = r := h2
  have := h.nb z (List.mem_cons_of_mem _ mem_mid)
  rwa [h3] at this
theorem Nds.upk (h : Nds w l ky vl nx bk) (ha : a ∉ l) (k v : ByteArray) : Nds w l (updv ky a k) (updv vl a v) nx bk := fun x hx => by
  have e : x ≠ a := fun e => ha (e ▸ hx)
  rw [updv_ne _ _ e, updv_ne _ _ e]
  exact h x hx
/-- What Put leaves where a key is new: its node in front, the last one dropped if there are too many. -/
def PutN (w : World) (m r c N : Nat) (n : Int) (l : List Nat) (ky2 vl2 : Nat → ByteArray) (A : Nat) (e : Ending) (w' : World) : Prop :=
  ((l.length : Int) + 1 ≤ n → e = .returned (.tuple #[.string ⟨#[]⟩, .bool false]) ∧ Moved m r c (N + 1) n (A :: l) ky2 vl2 w') ∧
      (n < (l.length : Int) + 1 → ∃ p z, A :: l = p ++ [z] ∧ e = .returned (.tuple #[.string (ky2 z), .bool true]) ∧ Moved m r c (N + 1) n p ky2 vl2 w') ∧ Frm (fun x => x = m ∨ x ∈ r :: l) w w'
set_option maxHeartbeats 8000000 in
theorem put_no (h : At w m r c n N l ky vl nx bk) {k v : ByteArray} (hn : ∀ x ∈ l, ky x ≠ k) (hs : k.size ≤ maxLen) (hks : ∀ x ∈ l, (ky x).size ≤ maxLen) (hN : N < 1000000) (hll : l.length ≤ 100) {A : Nat} (hAe : w.heap.size = A) :
    Calls Try.prog 32 #[.pointer (some ⟨c, 0, none⟩), .string k, .string v] w (PutN w m r c N n l (updv ky A k) (updv vl A v) A) := by
  have H := Lib.hid (find_no h hn hs)
  have HH := Lib.hid h
  have HS := Lib.hid hs
  have HKS := Lib.hid hks
  have HNK := Lib.hid hn
  have hal := (Frm.refl (fun _ => False) w).alloc (.cells #[.string k, .string v, .pointer none, .pointer none] 88)
  have hb := Bk.new w (.cells #[.string k, .string v, .pointer none, .pointer none] 88)
  obtain ⟨k0, k1, k2⟩ := Bk.c3 (hal.blk h.blk (fun h => h))
  clear h hn hs hks
  have HAE := Lib.hid hAe
  rw [hAe] at hb
  clear hAe
  go_enter Try.func32, Try.ntmps32
  go_wp2_with fail
  refine H.out.mono ?_
  rintro e w0 ⟨rfl, rfl⟩
  have hA0 := HH.out.frm0 hal
  have hll2 : ∀ x ∈ r :: l, x < A := fun x hx => by rw [← HAE.out]; exact HH.out.nds.lt hx
  have hcl : c < A := by rw [← HAE.out]; exact Bk.lt HH.out.blk
  have hml : m < A := by rw [← HAE.out]; obtain ⟨f, h1, _⟩ := HH.out.km; exact h1.lt
  obtain ⟨f, hM, hfk⟩ := hA0.km
  have hfn : (f (kl k)).isSome = false := by
    cases hf : f (kl k) with
    | none => rfl
    | some y => obtain ⟨x, hx, e, _⟩ := (hfk k y).1 hf; exact absurd e (HNK.out x hx)
  have HFN := Lib.hid hfn
  have HFK := Lib.hid hfk
  have HA0 := Lib.hid hA0
  have HLL2 := Lib.hid hll2
  clear hfn hfk hA0 hll2
  have hAe2 := HAE.out
  go_upto_region 11 with (refine wpList_put rfl (.tmp 34) (.tmp 35) (.tmp 36) rfl hM keyS uB (by unfold maxLen; omega) (.string k) (.pointer (some ⟨A, 0, none⟩)) (kl k) rfl rfl (by first | rfl | exact hAe2 ▸ rfl) (keyOf_str HS.out) ?_; intro w2 hM2 hf2)
  rw [if_neg (by rw [HFN.out]; simp)] at hM2
  have h := HA0.out
  have hb2 := hf2.blk hb (by omega)
  have hc2 := hf2.blk h.blk (fun e => h.sep.1 e.symm)
  have han : A ∉ r :: l := fun e => Nat.lt_irrefl _ (HLL2.out _ e)
  have hxA : ∀ x ∈ l, x ≠ A := fun x hx e => han (List.mem_cons_of_mem _ (e ▸ hx))
  have hN2 := (h.nds.frm hf2 (fun x hx => (h.sep.2 x hx).2)).upk han k v
  have hF2 := (hal.mono (T := fun x => x = m ∨ x ∈ r :: l) (fun _ _ h => h.elim)).then_ hf2 (fun i _ e => .inl e)
  have hky : updv ky A k A = k := updv_same _ _ _
  have hvl : updv vl A v A = v := updv_same _ _ _
  have hring := h.ring
  have hKM : ∀ (k' : ByteArray) (v' : Value), upd f (kl k) (some (.pointer (some ⟨A, 0, none⟩))) (kl k') = some v' ↔ ∃ x ∈ A :: l, updv ky A k x = k' ∧ v' = ptr x := fun k' v' => by
    unfold upd
    by_cases e : kl k' = kl k
    · rw [if_pos e]
      have e := kl_inj e
      subst e
      constructor
      · intro h2; exact ⟨A, List.mem_cons_self .., hky, (Option.some.inj h2).symm⟩
      · rintro ⟨x, hx, e1, e2⟩
        rcases List.mem_cons.1 hx with e3 | e3
        · rw [e2, e3]
        · rw [updv_ne _ _ (hxA _ e3)] at e1
          exact absurd e1 (HNK.out x e3)
    · rw [if_neg e]
      refine (HFK.out k' v').trans ⟨fun ⟨x, hx, e1, e2⟩ => ⟨x, List.mem_cons_of_mem _ hx, by rw [updv_ne _ _ (hxA _ hx)]; exact e1, e2⟩, fun ⟨x, hx, e1, e2⟩ => ?_⟩
      rcases List.mem_cons.1 hx with e3 | e3
      · rw [e3, hky] at e1; exact absurd (by rw [e1]) e
      · rw [updv_ne _ _ (hxA _ e3)] at e1
        exact ⟨x, e3, e1, e2⟩
  have hkeys : ((A :: l).map (updv ky A k)).Nodup := by
    have e : l.map (updv ky A k) = l.map ky := List.map_congr_left (fun x hx => updv_ne _ _ (hxA _ hx))
    rw [List.map_cons, List.nodup_cons, hky, e]
    exact ⟨fun hm => by obtain ⟨x, hx, e2⟩ := List.mem_map.1 hm; exact HNK.out x hx e2, HH.out.keys⟩
  have hsep := h.sep
  have hkz : ∀ x ∈ A :: l, (updv ky A k x).size ≤ maxLen := fun x hx => by
    rcases List.mem_cons.1 hx with e3 | e3
    · rw [e3, hky]; exact HS.out
    · rw [updv_ne _ _ (hxA _ e3)]; exact HKS.out x e3
  have hb2' : w2.heap[A]? = some (.cells #[.string (updv ky A k A), .string (updv vl A v A), .pointer none, .pointer none] 88 (0, 0)) := by rw [hky, hvl]; exact hb2
  try rw [hAe2]
  clear h hb hal hM k0 k1 k2 hb2 hky hvl hf2
  generalize updv ky A k = ky2 at *
  generalize updv vl A v = vl2 at *
  go_wp2_with fail
  refine (front_any hring hN2 hc2 han (by omega) (fun x hx => (hsep.2 x hx).1) hb2').mono ?_
  rintro e w3 ⟨rfl, hN3, hf3⟩
  have hrm : r ∈ r :: l := List.mem_cons_self ..
  have hxm := hring.nm r hrm
  have hR3 := hring.front han
  have hF3 := hF2.then_ hf3 (fun i hi e => by
    rcases e with e | e | e
    · have := HAE.out; omega
    · exact .inr (e ▸ hrm)
    · exact .inr (e ▸ hxm))
  have hc3 := hf3.blk hc2 (fun e => by
    rcases e with e | e | e
    · omega
    · exact (hsep.2 r hrm).1 e.symm
    · exact (hsep.2 _ hxm).1 e.symm)
  have hM3 := hM2.frm hf3 (fun e => by
    rcases e with e | e | e
    · omega
    · exact (hsep.2 r hrm).2 e.symm
    · exact (hsep.2 _ hxm).2 e.symm)
  have hAT : At w3 m r c n (N + 1) (A :: l) ky2 vl2 _ _ := ⟨hc3, hR3, hN3, ⟨_, hM3, hKM⟩, hkeys, hsep.1, fun x hx => by
    rcases List.mem_cons.1 hx with e | hx
    · exact e ▸ hsep.2 r hrm
    · rcases List.mem_cons.1 hx with e | hx
      · exact e ▸ ⟨by omega, by omega⟩
      · exact hsep.2 x (List.mem_cons_of_mem _ hx)⟩
  have hlen : ∀ k ty, (Builtin.len_ #[89] ty #[.map (some m)]).run Try.prog (w3.drewN k) = .ok (.int .i64 ((l.length + 1 : Nat) : Int)) (w3.drewN k) := fun k ty => (hM3.frm ((Frm.refl (fun _ => False) _).drewN k) (fun h => h)).len uB ty
  obtain ⟨k0, k1, k2⟩ := Bk.c3 hc3
  have HAT := Lib.hid hAT
  have HF3 := Lib.hid hF3
  have HKZ := Lib.hid hkz
  clear hN3 hf3 hR3 hF3 hM3 hAT hM2 hb2' hN2 hc2 hF2 hKM hkeys hkz hring hxm hrm hsep han hcl hml
  generalize hnx9 : updn (updn nx A (nx r)) r A = nx9 at *
  generalize hbk9 : updn (updn bk A r) (nx r) A = bk9 at *
  clear hnx9 hbk9
  go_wp2_with fail
  go_quiet (fail)
  by_cases hle : (l.length : Int) + 1 ≤ n
  · go_wp2
    go_returns
    exact ⟨fun _ => ⟨rfl, _, _, HAT.out.frm0 ((Frm.refl (fun _ => False) _).drewN _)⟩, fun h => by omega, HF3.out.drewN _⟩
  · obtain ⟨p, z, hpz⟩ : ∃ p z, A :: l = p ++ [z] := ⟨_, _, (List.dropLast_concat_getLast (List.cons_ne_nil A l)).symm⟩
    have h9 := HAT.out.frm0 ((Frm.refl (fun _ => False) _).drewN nq)
    rw [hpz] at h9
    have c1 := (h9.nds.c (List.mem_cons_self ..)).2.2.2
    rw [h9.ring.lastR] at c1
    have hz : z ∈ r :: (p ++ [z]) := List.mem_cons_of_mem _ mem_mid
    have c2 := (h9.nds.c hz).1
    have HD := Lib.hid (drop_yes h9 (HKZ.out z (hpz ▸ mem_mid)))
    clear h9
    go_wp2_with fail
    refine HD.out.mono ?_
    rintro e w4 ⟨rfl, hm4, hf4⟩
    go_wp2
    go_returns
    refine ⟨fun h => by omega, fun _ => ⟨p, z, hpz, rfl, ?_⟩, (HF3.out.drewN _).then_ hf4 (fun i hi e => ?_)⟩
    · simpa using hm4
    · rcases e with e | e
      · exact .inl e
      · rw [← hpz] at e
        rcases List.mem_cons.1 e with e | e
        · exact .inr (e ▸ List.mem_cons_self ..)
        · rcases List.mem_cons.1 e with e | e
          · exact absurd hi (by have := HAE.out; omega)
          · exact .inr (List.mem_cons_of_mem _ e)
end
end Lr
end Go.Proofs.Ythmhihmbciigdaa
