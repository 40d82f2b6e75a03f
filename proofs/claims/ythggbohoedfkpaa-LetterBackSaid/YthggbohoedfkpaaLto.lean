/- Letters: what the reference reads. -/
import Derived.Test.YthggbohoedfkpaaLtl
namespace Go.Proofs.Ythggbohoedfkpaa
open Go.RowKit Pk
set_option linter.unusedVariables false
set_option linter.unusedSimpArgs false
set_option maxRecDepth 100000
namespace Lt
section
variable {P : Program} {ops : Array Oper} {rest : List Oper} {o : Oper} {a : Act} {w : World} {Q : Exit → Act → World → Prop}
/-- A struct loaded from the block that is its own, where a guard lets it. -/
theorem wpList_load_blk_g (hw : Region.wanted o (yielded ops a.tmps) = true) (ty : TypeId) (x : Operand) (ho : o.op = .load ty x) {b : Nat} {t : TypeId} {l : List Value} {d : TypeDesc} (h : w.heap[b]? = some (.cells l.toArray t (0, 0)))
    (hx : a.eval x = .pointer (some ⟨b, 0, none⟩)) (hu : P.underlying ty = some d) (hd : d.isRow = true) {n : Nat} (hi : (P.info? ty).map (·.size) = some n) (hl : l.length = n)
    (hK : wpList P ops Q rest (a.put o.dst (.agg l.toArray)) w) : wpList P ops Q (o :: rest) a w :=
  wpList_step fun _ hk => by rw [if_pos hw]; exact wp_load_mid ty x ho b 0 hx l d (Bk.range h l rfl) hu hd (by rw [hi, hl]) (hk _ _ hK)
end
def rN (st : ByteArray × Bool) : Nat × (ByteArray × Bool) := match gn st.1 with
  | some (n, t) => if st.2 then (n, (st.1, true)) else (n, (t, false))
  | none => (0, (st.1, true))
def rR (n : Nat) (st : ByteArray × Bool) : ByteArray × (ByteArray × Bool) := if st.2 = true ∨ st.1.size < n then (⟨#[]⟩, (st.1, true)) else (st.1.extract 0 n, (st.1.extract n st.1.size, false))
def rT (st : ByteArray × Bool) : ByteArray × (ByteArray × Bool) := rR (rN st).1 (rN st).2
/-- What the reference reads from. -/
structure RS (w : World) (rb : Nat) (st : ByteArray × Bool) : Prop where
  dk : w.heap[rb]? = some (.cells #[.string st.1, .bool st.2] 99 (0, 0))
  small : st.1.size ≤ 10000
section
variable {w w1 : World} {rb : Nat} {st st' : ByteArray × Bool} {S : Nat → Prop}
theorem RS.frm (h : RS w rb st) (hf : Frm S w w1) (hs : ¬ S rb) : RS w1 rb st := ⟨hf.blk h.dk hs, h.small⟩
theorem rraw_any (n : Nat) (h : RS w rb st) {x : ByteArray} (he : rR n st = (x, st')) :
    Calls Try.prog 67 #[.pointer (some ⟨rb, 0, none⟩), .int .i64 n] w fun e w' => e = .returned (.string x) ∧ RS w' rb st' ∧ Frm (fun k => k = rb) w w' := by
  obtain ⟨s, b⟩ := st
  obtain ⟨d0, d1⟩ := Bk.c2 h.dk
  have f0 := Bk.frozen h.dk 0
  have f1 := Bk.frozen h.dk 1
  have hz := h.small
  simp only at hz d0 d1
  unfold rR at he
  simp only at he
  have hfin : ∀ v, RS (w.setCell ⟨rb, 0, none⟩ (.string v)) rb (v, b) ∨ 10000 < v.size := fun v => by
    by_cases hv : v.size ≤ 10000
    · exact .inl ⟨Bk.set h.dk 0 _, hv⟩
    · exact .inr (by omega)
  have hbad : RS (w.setCell ⟨rb, 1, none⟩ (.bool true)) rb (s, true) := ⟨Bk.set h.dk 1 _, hz⟩
  have HF := Lib.hid hfin
  have HB := Lib.hid hbad
  have HE := Lib.hid he
  clear hfin hbad he h
  cases b
  · by_cases hn : s.size < n
    · have dn : decide ((s.size : Int) < (n : Int)) = true := decide_eq_true (by omega)
      have he := HE.out
      rw [if_pos (.inr hn)] at he
      simp only [Prod.mk.injEq] at he
      obtain ⟨rfl, rfl⟩ := he
      go_enter Try.func67, Try.ntmps67
      go_wp2
      go_ret
      exact ⟨rfl, HB.out, (Frm.refl _ w).set1 1 _⟩
    · have dn : decide ((s.size : Int) < (n : Int)) = false := decide_eq_false (by omega)
      have he := HE.out
      rw [if_neg (by rintro (h | h); cases h; exact hn h)] at he
      simp only [Prod.mk.injEq] at he
      obtain ⟨rfl, rfl⟩ := he
      have hn2 : n ≤ s.size := by omega
      have hn3 : (n : Int) ≤ (s.size : Int) := by omega
      have hn0 : (0 : Int) ≤ (n : Int) := by omega
      go_enter Try.func67, Try.ntmps67
      go_wp2
      go_ret
      refine ⟨rfl, ?_, (Frm.refl _ w).set1 0 _⟩
      rcases HF.out (s.extract n s.size) with h | h
      · exact h
      · rw [ByteArray.size_extract] at h; omega
  · have he := HE.out
    rw [if_pos (.inl rfl)] at he
    simp only [Prod.mk.injEq] at he
    obtain ⟨rfl, rfl⟩ := he
    go_enter Try.func67, Try.ntmps67
    go_wp2
    go_ret
    exact ⟨rfl, HB.out, (Frm.refl _ w).set1 1 _⟩
theorem rR_bad {n : Nat} {st : ByteArray × Bool} (h : st.2 = true) : rR n st = (⟨#[]⟩, (st.1, true)) := by unfold rR; rw [if_pos (.inl h)]
theorem rrnum_any (h : RS w rb st) {x : Nat} (he : rN st = (x, st')) :
    Calls Try.prog 50 #[.pointer (some ⟨rb, 0, none⟩)] w fun e w' => e = .returned (.int .i64 x) ∧ RS w' rb st' ∧ Frm (fun k => k = rb) w w' := by
  obtain ⟨s, b⟩ := st
  obtain ⟨d0, d1⟩ := Bk.c2 h.dk
  have f1 := Bk.frozen h.dk 1
  have hlt := Bk.lt h.dk
  have hz := h.small
  simp only at hz d0 d1
  unfold rN at he
  simp only at he
  have HF := Lib.hid (rfirst_any s w (by omega))
  have HH := Lib.hid h
  clear h
  cases hg : gn s with
  | none =>
    rw [hg] at he
    simp only [Prod.mk.injEq] at he
    obtain ⟨rfl, rfl⟩ := he
    have hfk := fk_none hg
    have hF := HF.out
    rw [hfk] at hF
    have HF := Lib.hid hF
    clear hF hg hfk
    go_enter Try.func50, Try.ntmps50
    go_wp2_with fail
    refine HF.out.mono ?_
    rintro e w1 ⟨rfl, hf1⟩
    have hR1 := HH.out.frm hf1 (fun h => h)
    obtain ⟨d0, d1⟩ := Bk.c2 hR1.dk
    have f1 := Bk.frozen hR1.dk 1
    go_wp2_with fail
    have hR2 : RS (w1.setCell ⟨rb, 1, none⟩ (.bool true)) rb (s, true) := ⟨Bk.set hR1.dk 1 _, hz⟩
    refine (rraw_any 0 hR2 (rR_bad rfl)).mono ?_
    rintro e w2 ⟨rfl, hR3, hf3⟩
    go_wp2
    go_ret
    exact ⟨rfl, hR3, (hf1.of0.then_ ((Frm.refl (fun k => k = rb) w1).set1 1 (.bool true)) (fun i _ e => e)).trans hf3⟩
  | some p =>
    obtain ⟨n, t⟩ := p
    rw [hg] at he
    simp only at he
    have hts := gn_size hg
    obtain ⟨k, hk⟩ : ∃ k, s.size - t.size = k := ⟨_, rfl⟩
    have hfk := fk_some hg hk
    have hF := HF.out
    rw [hfk] at hF
    have HF := Lib.hid hF
    have q : ((k : Int) == 0) = false := beq_eq_false_iff_ne.2 (by omega)
    have q2 : (k == 0) = false := beq_eq_false_iff_ne.2 (by omega)
    have q3 : ¬ (k : Int) = 0 := by omega
    have q4 : ¬ k = 0 := by omega
    have HR : ∃ x', x = n ∧ rR k (s, b) = (x', st') := by
      cases b
      · simp only [Bool.false_eq_true, if_false, Prod.mk.injEq] at he
        obtain ⟨rfl, rfl⟩ := he
        refine ⟨s.extract 0 k, rfl, ?_⟩
        unfold rR
        rw [if_neg (by rintro (h | h); cases h; first | omega | (simp only at h; omega))]
        simp only
        rw [← hk, ← hts.2]
      · simp only [if_true, Prod.mk.injEq] at he
        obtain ⟨rfl, rfl⟩ := he
        exact ⟨⟨#[]⟩, rfl, rR_bad rfl⟩
    obtain ⟨x', rfl, HR⟩ := HR
    have HR := Lib.hid HR
    clear hF hg hfk he hts hk
    go_enter Try.func50, Try.ntmps50
    go_wp2_with fail
    refine HF.out.mono ?_
    rintro e w1 ⟨rfl, hf1⟩
    have hR1 := HH.out.frm hf1 (fun h => h)
    go_wp2_with fail
    refine (rraw_any k hR1 HR.out).mono ?_
    rintro e w2 ⟨rfl, hR3, hf3⟩
    go_wp2
    go_ret
    exact ⟨rfl, hR3, (hf1.of0).trans hf3⟩
theorem rrtext_any (h : RS w rb st) {x : ByteArray} (he : rT st = (x, st')) :
    Calls Try.prog 51 #[.pointer (some ⟨rb, 0, none⟩)] w fun e w' => e = .returned (.string x) ∧ RS w' rb st' ∧ Frm (fun k => k = rb) w w' := by
  rcases hn : rN st with ⟨n, st1⟩
  unfold rT at he
  rw [hn] at he
  go_enter Try.func51, Try.ntmps51
  go_wp2_with fail
  refine (rrnum_any h hn).mono ?_
  rintro e w1 ⟨rfl, hR1, hf1⟩
  go_wp2_with fail
  refine (rraw_any n hR1 he).mono ?_
  rintro e w2 ⟨rfl, hR2, hf2⟩
  go_wp2
  go_ret
  exact ⟨rfl, hR2, hf1.trans hf2⟩
end
def Fl.rdec : Fl → ByteArray × Bool → V × (ByteArray × Bool)
  | .n m, o => (.i ((rN o).1 : Nat), (rN o).2)
  | .t m, o => (.s (rT o).1, (rT o).2)
def rdecs : List Fl → ByteArray × Bool → List V × (ByteArray × Bool)
  | [], o => ([], o)
  | f :: r, o => ((f.rdec o).1 :: (rdecs r (f.rdec o).2).1, (rdecs r (f.rdec o).2).2)
theorem rdec_lay {f : Fl} {v : V} (h : f.fit v = true) (hm : f.most ≤ 4611686018427387904) (s t : ByteArray) (he : bytes s = v.enc ++ bytes t) : f.rdec (s, false) = (v, (t, false)) := by
  cases f with
  | n m =>
    cases v with
    | s x => cases h
    | i x =>
      simp only [Fl.fit, nf, Bool.and_eq_true, decide_eq_true_eq] at h
      simp only [Fl.most] at hm
      have hg := gn_lay (n := x.toNat) (by omega) t he
      have e : ((x.toNat : Nat) : Int) = x := by omega
      simp [Fl.rdec, rN, hg, e]
  | t m =>
    cases v with
    | i x => cases h
    | s x =>
      simp only [Fl.fit, tf, decide_eq_true_eq] at h
      simp only [Fl.most] at hm
      have hg := gn_lay (n := x.size) (by omega) (x ++ t) (s := s) (by rw [he, bytes_append]; simp [V.enc, tx])
      have hz : x.size ≤ (x ++ t).size := by rw [ByteArray.size_append]; omega
      have e1 : (x ++ t).extract 0 x.size = x := by
        refine bytes_inj ?_
        rw [bytes_extract, bytes_append, List.drop_zero, Nat.sub_zero, ← bytes_len x, List.take_left]
      have e2 : (x ++ t).extract x.size (x ++ t).size = t := by
        refine bytes_inj ?_
        rw [bytes_extract, bytes_append, ← bytes_len x, List.drop_left, List.take_of_length_le]
        rw [bytes_len, bytes_len, ByteArray.size_append]; omega
      have hr : rN (s, false) = (x.size, (x ++ t, false)) := by simp [rN, hg]
      simp only [Fl.rdec, rT, hr, rR]
      rw [if_neg (by rintro (h | h); cases h; first | omega | (simp only at h; omega))]
      simp only [e1, e2]
theorem rdecs_lay : ∀ (fs : List Fl) (vs : List V) (s t : ByteArray), fits fs vs = true → (∀ f ∈ fs, f.most ≤ 4611686018427387904) → bytes s = encs vs ++ bytes t → rdecs fs (s, false) = (vs, (t, false))
  | [], [], s, t, _, _, h => by
    have : s = t := bytes_inj (by simpa [encs] using h)
    rw [this]; rfl
  | [], _ :: _, s, t, h, _, _ => by cases h
  | _ :: _, [], s, t, h, _, _ => by cases h
  | f :: fs, v :: vs, s, t, h, hm, he => by
    simp only [fits, Bool.and_eq_true] at h
    have e : encs (v :: vs) = v.enc ++ encs vs := rfl
    rw [e, List.append_assoc] at he
    have hu : bytes (txt (encs vs ++ bytes t)) = encs vs ++ bytes t := bytes_txt (fun x hx => by
      rcases List.mem_append.1 hx with h | h
      · exact encs_lt vs x h
      · exact bytes_lt t x h)
    have h1 := rdec_lay h.1 (hm f (List.mem_cons_self ..)) s (txt (encs vs ++ bytes t)) (by rw [hu]; exact he)
    have h2 := rdecs_lay fs vs (txt (encs vs ++ bytes t)) t h.2 (fun g hg => hm g (List.mem_cons_of_mem _ hg)) hu
    simp only [rdecs, h1, h2]
theorem rread_pck {l : Ltr} (h : Fit l) : rdecs (.n 1 :: .n 4 :: sch l.kind) (pck l, false) = (.i 1 :: .i l.kind :: vls l.kind l, (⟨#[]⟩, false)) := by
  obtain ⟨h1, h2⟩ := (chk_fits l).1 h.2
  refine rdecs_lay _ _ _ ⟨#[]⟩ ?_ ?_ ?_
  · simp only [fits, Fl.fit, nf, h2]
    simp [h1.2]; omega
  · intro f hf
    rcases List.mem_cons.1 hf with rfl | hf
    · decide
    · rcases List.mem_cons.1 hf with rfl | hf
      · decide
      · exact sch_most f hf
  · rw [bytes_pck, lay_encs, bytes_nil]
    simp [encs, V.enc, nl]
theorem pck_inj {a b : Ltr} (ha : Fit a) (hb : Fit b) (h : pck a = pck b) : a = b := by
  have h1 := read_pck ha
  have h2 := read_pck hb
  rw [← h] at h2
  have hkk : a.kind = b.kind := by
    simp only [decs, Prod.mk.injEq, List.cons.injEq] at h1 h2
    have := h1.1.2.1.symm.trans h2.1.2.1
    simpa using this
  rw [← hkk, h1] at h2
  simp only [Prod.mk.injEq, List.cons.injEq] at h2
  exact alone_same ha.1 hb.1 hkk ((chk_fits a).1 ha.2).1 h2.1.2.2
theorem rspec_some {s : ByteArray} {l : Ltr} (h : Fit l) (hs : pck l = s) : OSpec s (some l) := by
  intro l'
  constructor
  · intro e; cases e; exact ⟨h, hs.symm⟩
  · rintro ⟨h1, h2⟩
    rw [pck_inj h h1 (hs.trans h2)]
theorem rspec_none {s s' : ByteArray} {bad : Bool} {one k kk : Int} {vs : List V} {l : Ltr} (h : rdecs (.n 1 :: .n 4 :: sch kk) (s, false) = (.i one :: .i k :: vs, (s', bad))) (hkk : k = 1 ∨ k = 2 ∨ k = 3 → kk = k) (hk4 : ¬ (k = 1 ∨ k = 2 ∨ k = 3) → kk = 4)
    (hl : l.kind = k) (hv : vls kk l = vs) (ha : 1 ≤ k ∧ k ≤ 4 → l = alone l) (hc : bad = true ∨ one ≠ 1 ∨ ¬ Fit l ∨ pck l ≠ s) : OSpec s none := by
  intro l'
  constructor
  · intro e; cases e
  · rintro ⟨hf, rfl⟩
    exfalso
    have h5 := rread_pck hf
    have h6 := ((chk_fits l').1 hf.2).1
    have e1 : one = 1 ∧ k = l'.kind := by
      have g := h
      simp only [rdecs, Prod.mk.injEq, List.cons.injEq] at g h5
      have a := g.1.1.symm.trans h5.1.1
      have b := g.1.2.1.symm.trans h5.1.2.1
      simp only [V.i.injEq] at a b
      exact ⟨a, b⟩
    obtain ⟨rfl, rfl⟩ := e1
    have e2 : kk = l'.kind := by
      by_cases hq : l'.kind = 1 ∨ l'.kind = 2 ∨ l'.kind = 3
      · exact hkk hq
      · rw [hk4 hq]; omega
    subst e2
    rw [h5] at h
    simp only [Prod.mk.injEq, List.cons.injEq, true_and] at h
    obtain ⟨h7, h8, h9⟩ := h
    have e3 : l = l' := alone_same (ha h6) hf.1 hl (by rw [hl]; exact h6) (by rw [hl, hv, h7])
    subst e3
    rcases hc with hc | hc | hc | hc
    · rw [← h9] at hc; cases hc
    · exact hc rfl
    · exact hc hf
    · exact hc rfl
end Lt
end Go.Proofs.Ythggbohoedfkpaa
