/- The cache: contracts of Peek, Get, Drop, Put. -/
import Derived.Test.YthmhihmbciigdaaLrd
namespace Go.Proofs.Ythmhihmbciigdaa
open Go.RowKit Go.Maps
set_option linter.unusedVariables false
set_option linter.unusedSimpArgs false
set_option maxRecDepth 100000
namespace Lr
section
variable {w w1 : World} {m r c N : Nat} {n : Int} {l p q : List Nat} {ky vl : Nat → ByteArray} {nx bk : Nat → Nat} {a : Nat} {S : Nat → Prop}
set_option maxHeartbeats 1000000 in
theorem peek_yes (h : At w m r c n N l ky vl nx bk) (ha : a ∈ l) (hs : (ky a).size ≤ maxLen) : Calls Try.prog 29 #[.pointer (some ⟨c, 0, none⟩), .string (ky a)] w fun e w' => e = .returned (.tuple #[.string (vl a), .bool true]) ∧ w = w' := by
  have H := Lib.hid (find_yes h ha hs)
  have c1 := (h.nds.c (List.mem_cons_of_mem r ha)).2.1
  clear h ha hs
  go_enter Try.func29, Try.ntmps29
  go_wp2_with fail
  refine H.out.mono ?_
  rintro e w1 ⟨rfl, rfl⟩
  go_wp2
  go_returns
  exact ⟨rfl, rfl⟩
theorem peek_of {k : ByteArray} {cv : Value} (H : Calls Try.prog 58 #[cv, .string k] w fun e w' => e = .returned (.pointer none) ∧ w = w') : Calls Try.prog 29 #[cv, .string k] w fun e w' => e = .returned (.tuple #[.string ⟨#[]⟩, .bool false]) ∧ w = w' := by
  have H := Lib.hid H
  go_enter Try.func29, Try.ntmps29
  go_wp2_with fail
  refine H.out.mono ?_
  rintro e w1 ⟨rfl, rfl⟩
  go_wp2
  go_returns
  exact ⟨rfl, rfl⟩
theorem get_of {k : ByteArray} {cv : Value} (H : Calls Try.prog 58 #[cv, .string k] w fun e w' => e = .returned (.pointer none) ∧ w = w') : Calls Try.prog 27 #[cv, .string k] w fun e w' => e = .returned (.tuple #[.string ⟨#[]⟩, .bool false]) ∧ w = w' := by
  have H := Lib.hid H
  go_enter Try.func27, Try.ntmps27
  go_wp2_with fail
  refine H.out.mono ?_
  rintro e w1 ⟨rfl, rfl⟩
  go_wp2
  go_returns
  exact ⟨rfl, rfl⟩
theorem drop_of {k : ByteArray} {cv : Value} (H : Calls Try.prog 58 #[cv, .string k] w fun e w' => e = .returned (.pointer none) ∧ w = w') : Calls Try.prog 30 #[cv, .string k] w fun e w' => e = .returned (.bool false) ∧ w = w' := by
  have H := Lib.hid H
  go_enter Try.func30, Try.ntmps30
  go_wp2_with fail
  refine H.out.mono ?_
  rintro e w1 ⟨rfl, rfl⟩
  go_wp2
  go_ret
  exact ⟨rfl, rfl⟩
theorem put_nil (k v : ByteArray) (w : World) : Calls Try.prog 32 #[.pointer none, .string k, .string v] w fun e w' => e = .returned (.tuple #[.string ⟨#[]⟩, .bool false]) ∧ w = w' := by
  go_enter Try.func32, Try.ntmps32
  go_wp2
  go_returns
  exact ⟨rfl, rfl⟩
/-- A key's node stands in front. -/
def Moved (m r c N : Nat) (n : Int) (l : List Nat) (ky vl : Nat → ByteArray) (w' : World) : Prop := ∃ nx bk, At w' m r c n N l ky vl nx bk
set_option maxHeartbeats 2000000 in
theorem get_yes (h : At w m r c n N (p ++ a :: q) ky vl nx bk) (hs : (ky a).size ≤ maxLen) : Calls Try.prog 27 #[.pointer (some ⟨c, 0, none⟩), .string (ky a)] w fun e w' => e = .returned (.tuple #[.string (vl a), .bool true]) ∧ Moved m r c N n (a :: (p ++ q)) ky vl w' ∧ Frm (fun k => k ∈ r :: (p ++ a :: q)) w w' := by
  have H := Lib.hid (find_yes h mem_mid hs)
  have HH := Lib.hid h
  clear h hs
  go_enter Try.func27, Try.ntmps27
  go_wp2_with fail
  refine H.out.mono ?_
  rintro e w0 ⟨rfl, rfl⟩
  go_wp2_with fail
  have h := HH.out
  refine (out_any h.ring h.nds).mono ?_
  rintro e w1 ⟨rfl, hN1, hf1⟩
  have ham : a ∈ r :: (p ++ a :: q) := List.mem_cons_of_mem _ mem_mid
  have hxm := h.ring.nm a ham
  have hym := h.ring.bm a ham
  have hRg := h.ring.out
  have hc1 := hf1.blk h.blk (fun e => by
    rcases e with e | e
    · exact (h.sep.2 _ hxm).1 e.symm
    · exact (h.sep.2 _ hym).1 e.symm)
  have hsub : ∀ x ∈ r :: (p ++ q), x ∈ r :: (p ++ a :: q) := fun x hx => by
    rcases List.mem_cons.1 hx with e | e
    · exact e ▸ List.mem_cons_self ..
    · exact List.mem_cons_of_mem _ (mid_iff.2 (List.mem_cons_of_mem _ e))
  have hA1 := hN1 a ham
  have hfr1 : Frm (fun k => k ∈ r :: (p ++ a :: q)) w w1 := hf1.mono (fun i _ e => e.elim (fun e => e ▸ hxm) (fun e => e ▸ hym))
  go_wp2_with fail
  refine (front_any hRg (hN1.sub hsub) hc1 h.ring.mid (fun e => (h.sep.2 a ham).1 e.symm) (fun x hx => (h.sep.2 x (hsub x hx)).1) hA1).mono ?_
  rintro e w2 ⟨rfl, hN2, hf2⟩
  have hxm2 := hRg.nm r (List.mem_cons_self ..)
  have hfr2 := hfr1.then_ hf2 (fun i _ e => by
    rcases e with e | e | e
    · exact e ▸ ham
    · exact e ▸ List.mem_cons_self ..
    · exact e ▸ hsub _ hxm2)
  have hAT : At w2 m r c n N (a :: (p ++ q)) ky vl _ _ := ⟨hf2.blk hc1 (fun e => by
      rcases e with e | e | e
      · exact (h.sep.2 a ham).1 e.symm
      · exact (h.sep.2 r (List.mem_cons_self ..)).1 e.symm
      · exact (h.sep.2 _ (hsub _ hxm2)).1 e.symm), hRg.front h.ring.mid, hN2, (h.km.frm hfr2 (fun e => (h.sep.2 m e).2 rfl)).perm (by rw [List.length_append, List.length_cons, List.length_cons, List.length_append]; omega) (fun x => mid_iff),
    ((List.Perm.map ky List.perm_middle).nodup_iff).1 h.keys, h.sep.1, fun x hx => h.sep.2 x (by
      rcases List.mem_cons.1 hx with e | e
      · exact e ▸ List.mem_cons_self ..
      · exact List.mem_cons_of_mem _ (mid_iff.2 e))⟩
  clear hN1 hf1 hc1 hA1 hN2 hf2 hfr1 hRg
  have c1 := (hAT.nds.c (List.mem_cons_of_mem r (List.mem_cons_self ..))).2.1
  have HA := Lib.hid hAT
  clear h hAT ham hxm hym hsub hxm2
  go_wp2
  go_returns
  exact ⟨rfl, ⟨_, _, HA.out⟩, hfr2⟩
set_option maxHeartbeats 2000000 in
theorem drop_yes (h : At w m r c n N (p ++ a :: q) ky vl nx bk) (hs : (ky a).size ≤ maxLen) : Calls Try.prog 30 #[.pointer (some ⟨c, 0, none⟩), .string (ky a)] w fun e w' => e = .returned (.bool true) ∧ Moved m r c N n (p ++ q) ky vl w' ∧ Frm (fun k => k = m ∨ k ∈ r :: (p ++ a :: q)) w w' := by
  have H := Lib.hid (find_yes h mem_mid hs)
  have HH := Lib.hid h
  have HS := Lib.hid hs
  clear h hs
  go_enter Try.func30, Try.ntmps30
  go_wp2_with fail
  refine H.out.mono ?_
  rintro e w0 ⟨rfl, rfl⟩
  go_wp2_with fail
  have h := HH.out
  refine (out_any h.ring h.nds).mono ?_
  rintro e w1 ⟨rfl, hN1, hf1⟩
  have ham : a ∈ r :: (p ++ a :: q) := List.mem_cons_of_mem _ mem_mid
  have hxm := h.ring.nm a ham
  have hym := h.ring.bm a ham
  have hc1 := hf1.blk h.blk (fun e => by
    rcases e with e | e
    · exact (h.sep.2 _ hxm).1 e.symm
    · exact (h.sep.2 _ hym).1 e.symm)
  have hsub : ∀ x ∈ r :: (p ++ q), x ∈ r :: (p ++ a :: q) := fun x hx => by
    rcases List.mem_cons.1 hx with e | e
    · exact e ▸ List.mem_cons_self ..
    · exact List.mem_cons_of_mem _ (mid_iff.2 (List.mem_cons_of_mem _ e))
  have hfr1 : Frm (fun k => k ∈ r :: (p ++ a :: q)) w w1 := hf1.mono (fun i _ e => e.elim (fun e => e ▸ hxm) (fun e => e ▸ hym))
  obtain ⟨f, hM, hfk⟩ := h.km.frm hfr1 (fun e => (h.sep.2 m e).2 rfl)
  obtain ⟨k0, k1, k2⟩ := Bk.c3 hc1
  have hfa : (f (kl (ky a))).isSome = true := by rw [(hfk _ _).2 ⟨a, mem_mid, rfl, rfl⟩]; rfl
  have HFK := Lib.hid hfk
  have HFA := Lib.hid hfa
  have HSUB := Lib.hid hsub
  have HN1 := Lib.hid hN1
  have HC1 := Lib.hid hc1
  clear hfk hfa hsub h hxm hym ham hN1 hc1 hf1
  go_wp2_with (refine wpList_drop rfl (.tmp 16) (.tmp 17) rfl hM keyS uB (.string (ky a)) (kl (ky a)) rfl rfl (keyOf_str HS.out) ?_; intro w2 hM2 hf2)
  go_ret
  have h := HH.out
  rw [if_pos HFA.out] at hM2
  have hmid := nd_mid (l := []) h.keys
  have hl : (p ++ a :: q).length - 1 = (p ++ q).length := by rw [List.length_append, List.length_append, List.length_cons]; omega
  rw [hl] at hM2
  have hmr : ∀ x ∈ r :: (p ++ a :: q), ¬ x = m := fun x hx => (h.sep.2 x hx).2
  refine ⟨rfl, ⟨_, _, hf2.blk HC1.out (fun e => h.sep.1 e.symm), h.ring.out, (HN1.out.sub HSUB.out).frm hf2 (fun x hx => hmr x (HSUB.out x hx)), ⟨_, hM2, fun k v => ?_⟩, hmid.2, h.sep.1, fun x hx => h.sep.2 x (HSUB.out x hx)⟩, (hfr1.mono (fun _ _ e => .inr e)).then_ hf2 (fun i _ e => .inl e)⟩
  unfold upd
  by_cases e : kl k = kl (ky a)
  · rw [if_pos e]
    constructor
    · intro h2; cases h2
    · rintro ⟨x, hx, hxk, _⟩
      exact absurd (hxk.trans (kl_inj e)) (hmid.1 x hx)
  · rw [if_neg e]
    refine (HFK.out k v).trans ⟨fun ⟨x, hx, e1, e2⟩ => ?_, fun ⟨x, hx, e1, e2⟩ => ⟨x, mid_iff.2 (List.mem_cons_of_mem _ hx), e1, e2⟩⟩
    rcases List.mem_cons.1 (mid_iff.1 hx) with e3 | e3
    · exact absurd (by rw [← e1, e3]) e
    · exact ⟨x, e3, e1, e2⟩
end
end Lr
end Go.Proofs.Ythmhihmbciigdaa
