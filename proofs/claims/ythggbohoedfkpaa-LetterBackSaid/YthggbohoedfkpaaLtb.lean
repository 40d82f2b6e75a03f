/- Letters: the desk that packs: a number, a text. -/
import Derived.Test.YthggbohoedfkpaaLta
import Derived.Test.YthggbohoedfkpaaPkk
namespace Go.Proofs.Ythggbohoedfkpaa
open Go.RowKit Pk
set_option linter.unusedVariables false
set_option linter.unusedSimpArgs false
set_option maxRecDepth 100000
namespace Lt
abbrev TD : TypeId := 87
/-- A desk at d that packs into pb: the bytes are L if all went well. -/
structure PS (w : World) (d pb K : Nat) (ok : Bool) (L : List Nat) : Prop where
  dk : w.heap[d]? = some (.cells #[.pointer (some ⟨pb, 0, none⟩), .pointer none, .bool ok] 87 (0, 0))
  pk : ∃ v L' bad, At w pb v L' bad ∧ L'.length ≤ K ∧ (ok = true → L' = L ∧ bad = false)
theorem own_not {w : World} {base g : Nat} {e t : TypeId} {size n : Nat} {v : Value} {xs : List Value} {cs : Array Value} (h : w.ownsRow base e size v n xs) (hg : w.heap[g]? = some (.cells cs t (0, 0))) (ht : t ≠ e) : v.ownBlock ≠ some g := by
  intro hk
  rcases h.2 with ⟨rfl, _⟩ | ⟨g', cap, cur, rfl, hb, hg', _⟩
  · cases hk
  · have e1 : g' = g := Option.some.inj hk
    subst e1
    rw [hg] at hg'
    injection hg' with h2
    injection h2 with _ h3
    exact ht h3
section
variable {w w1 : World} {d pb K lb off : Nat} {ok : Bool} {L : List Nat}
theorem num9 (n : Nat) (hn : n ≤ 4611686018427387904) : (numB n).length ≤ 9 := (num_len hn).2
set_option maxHeartbeats 4000000 in
theorem dnum_p (n most : Int) (h : PS w d pb K ok L) (hd : pb < d) (hc : w.cell? ⟨lb, off, none⟩ = some (.int .i64 n)) (hlb : lb < pb) (hK : K ≤ 10000) (hm : most ≤ 4611686018427387904) :
    Calls Try.prog 59 #[.pointer (some ⟨d, 0, none⟩), .pointer (some ⟨lb, off, none⟩), .int .i64 most] w fun e w' =>
      e = .returned (.tuple #[]) ∧ PS w' d pb (K + 9) (ok && (decide (0 ≤ n) && decide (n ≤ most))) (L ++ numB n.toNat) ∧ Frm (fun k => pb ≤ k) w w' := by
  obtain ⟨d0, d1, d2⟩ := Bk.c3 h.dk
  have fd2 := Bk.frozen h.dk 2
  obtain ⟨v, L', bad, hA, hL', hok⟩ := h.pk
  have hFs : ∀ b, Frm (fun k => k = d) w (w.setCell ⟨d, 2, none⟩ (.bool b)) := fun b => (Frm.refl _ w).set1 2 _
  have hdks : ∀ b, (w.setCell ⟨d, 2, none⟩ (.bool b)).heap[d]? = some (.cells #[.pointer (some ⟨pb, 0, none⟩), .pointer none, .bool b] 87 (0, 0)) := fun b => by
    have := Bk.set h.dk 2 (.bool b)
    simpa using this
  have hne := own_not hA.row h.dk (by decide)
  have hA2s := fun b => hA.frm (hFs b) (by omega) (fun k hk e => hne (e ▸ hk))
  have hc2s := fun b => (hFs b).cell hc (show ¬ lb = d by omega)
  clear h
  go_enter Try.func59, Try.ntmps59
  cases ok
  · have hbe : (false && (decide (0 ≤ n) && decide (n ≤ most))) = false := rfl
    by_cases hr : n < 0 ∨ 4611686018427387904 < n
    · have hF := hFs false
      have hdk := hdks false
      have hA2 := hA2s false
      have hc2 := hc2s false
      clear hFs hdks hA2s hc2s
      go_upto_region 3 with (fail)
      generalize w.setCell ⟨d, 2, none⟩ (.bool false) = w2 at *
      obtain ⟨e0, e1, e2⟩ := Bk.c3 hdk
      refine st_tail 7 (by kernel_rfl) (by kernel_rfl) ?_
      simp only [List.take_succ_cons, List.take_zero, List.drop_succ_cons, List.drop_zero]
      repeat still_step
      refine wpStill_nil ?_
      go_wp2_with fail
      refine (num_bad n pb v L' bad _ (hA2.frm0 (Frm.refl _ w2).drew) (by omega)).mono ?_
      rintro e w3 ⟨rfl, hA3, hf3⟩
      have hf3' := ((Frm.refl (fun k => k = pb) w2).drew).trans hf3
      have hdk3 := hf3'.blk hdk (fun e => by omega)
      have hF3 : Frm (fun k => pb ≤ k) w w3 := (hF.mono (T := fun k => pb ≤ k) (fun i _ e => by omega)).then_ hf3' (fun i hi e => by omega)
      go_wp2
      go_returns
      refine ⟨rfl, ⟨hbe.symm ▸ hdk3, _, _, _, hA3, by omega, fun hb => by rw [hbe] at hb; cases hb⟩, hF3⟩
    · have hF := hFs false
      have hdk := hdks false
      have hA2 := hA2s false
      have hc2 := hc2s false
      clear hFs hdks hA2s hc2s
      go_upto_region 3 with (fail)
      generalize w.setCell ⟨d, 2, none⟩ (.bool false) = w2 at *
      obtain ⟨e0, e1, e2⟩ := Bk.c3 hdk
      refine st_tail 7 (by kernel_rfl) (by kernel_rfl) ?_
      simp only [List.take_succ_cons, List.take_zero, List.drop_succ_cons, List.drop_zero]
      repeat still_step
      refine wpStill_nil ?_
      go_wp2_with fail
      obtain ⟨m, rfl⟩ : ∃ m : Nat, n = m := ⟨n.toNat, by omega⟩
      refine (num_any m pb v L' bad _ (hA2.frm0 (Frm.refl _ w2).drew) (by omega) (by omega)).mono ?_
      rintro e w3 ⟨v3, rfl, hA3, _, hf3⟩
      have hf3' := ((Frm.refl (fun k => k = pb ∨ v.ownBlock = some k) w2).drew).trans hf3
      have hdk3 := hf3'.blk hdk (fun e => e.elim (fun e => by omega) (fun e => hne e))
      have hF3 : Frm (fun k => pb ≤ k) w w3 := (hF.mono (T := fun k => pb ≤ k) (fun i _ e => by omega)).then_ hf3' (fun i hi e => by
        rcases e with e | e
        · omega
        · have := hA.own i e; omega)
      go_wp2
      go_returns
      refine ⟨rfl, ⟨hbe.symm ▸ hdk3, _, _, _, hA3, by rw [List.length_append]; have := num9 m (by omega); omega, fun hb => by rw [hbe] at hb; cases hb⟩, hF3⟩
  · by_cases h0 : 0 ≤ n
    · by_cases h1 : n ≤ most
      · have hbe : (true && (decide (0 ≤ n) && decide (n ≤ most))) = true := by simp [h0, h1]
        have hF := hFs true
        have hdk := hdks true
        have hA2 := hA2s true
        have hc2 := hc2s true
        clear hFs hdks hA2s hc2s
        go_upto_region 3 with (fail)
        generalize w.setCell ⟨d, 2, none⟩ (.bool true) = w2 at *
        obtain ⟨e0, e1, e2⟩ := Bk.c3 hdk
        refine st_tail 7 (by kernel_rfl) (by kernel_rfl) ?_
        simp only [List.take_succ_cons, List.take_zero, List.drop_succ_cons, List.drop_zero]
        repeat still_step
        refine wpStill_nil ?_
        go_wp2_with fail
        obtain ⟨m, rfl⟩ : ∃ m : Nat, n = m := ⟨n.toNat, by omega⟩
        refine (num_any m pb v L' bad _ (hA2.frm0 (Frm.refl _ w2).drew) (by omega) (by omega)).mono ?_
        rintro e w3 ⟨v3, rfl, hA3, _, hf3⟩
        have hf3' := ((Frm.refl (fun k => k = pb ∨ v.ownBlock = some k) w2).drew).trans hf3
        have hdk3 := hf3'.blk hdk (fun e => e.elim (fun e => by omega) (fun e => hne e))
        have hF3 : Frm (fun k => pb ≤ k) w w3 := (hF.mono (T := fun k => pb ≤ k) (fun i _ e => by omega)).then_ hf3' (fun i hi e => by
          rcases e with e | e
          · omega
          · have := hA.own i e; omega)
        go_wp2
        go_returns
        refine ⟨rfl, ⟨hbe.symm ▸ hdk3, _, _, _, hA3, by rw [List.length_append]; have := num9 m (by omega); omega, fun hb => ⟨by rw [(hok (by first | rfl | trivial)).1]; rfl, (hok (by first | rfl | trivial)).2⟩⟩, hF3⟩
      · have hbe : (true && (decide (0 ≤ n) && decide (n ≤ most))) = false := by simp [h1]
        by_cases hr : n < 0 ∨ 4611686018427387904 < n
        · have hF := hFs false
          have hdk := hdks false
          have hA2 := hA2s false
          have hc2 := hc2s false
          clear hFs hdks hA2s hc2s
          go_upto_region 3 with (fail)
          generalize w.setCell ⟨d, 2, none⟩ (.bool false) = w2 at *
          obtain ⟨e0, e1, e2⟩ := Bk.c3 hdk
          refine st_tail 7 (by kernel_rfl) (by kernel_rfl) ?_
          simp only [List.take_succ_cons, List.take_zero, List.drop_succ_cons, List.drop_zero]
          repeat still_step
          refine wpStill_nil ?_
          go_wp2_with fail
          refine (num_bad n pb v L' bad _ (hA2.frm0 (Frm.refl _ w2).drew) (by omega)).mono ?_
          rintro e w3 ⟨rfl, hA3, hf3⟩
          have hf3' := ((Frm.refl (fun k => k = pb) w2).drew).trans hf3
          have hdk3 := hf3'.blk hdk (fun e => by omega)
          have hF3 : Frm (fun k => pb ≤ k) w w3 := (hF.mono (T := fun k => pb ≤ k) (fun i _ e => by omega)).then_ hf3' (fun i hi e => by omega)
          go_wp2
          go_returns
          refine ⟨rfl, ⟨hbe.symm ▸ hdk3, _, _, _, hA3, by omega, fun hb => by rw [hbe] at hb; cases hb⟩, hF3⟩
        · have hF := hFs false
          have hdk := hdks false
          have hA2 := hA2s false
          have hc2 := hc2s false
          clear hFs hdks hA2s hc2s
          go_upto_region 3 with (fail)
          generalize w.setCell ⟨d, 2, none⟩ (.bool false) = w2 at *
          obtain ⟨e0, e1, e2⟩ := Bk.c3 hdk
          refine st_tail 7 (by kernel_rfl) (by kernel_rfl) ?_
          simp only [List.take_succ_cons, List.take_zero, List.drop_succ_cons, List.drop_zero]
          repeat still_step
          refine wpStill_nil ?_
          go_wp2_with fail
          obtain ⟨m, rfl⟩ : ∃ m : Nat, n = m := ⟨n.toNat, by omega⟩
          refine (num_any m pb v L' bad _ (hA2.frm0 (Frm.refl _ w2).drew) (by omega) (by omega)).mono ?_
          rintro e w3 ⟨v3, rfl, hA3, _, hf3⟩
          have hf3' := ((Frm.refl (fun k => k = pb ∨ v.ownBlock = some k) w2).drew).trans hf3
          have hdk3 := hf3'.blk hdk (fun e => e.elim (fun e => by omega) (fun e => hne e))
          have hF3 : Frm (fun k => pb ≤ k) w w3 := (hF.mono (T := fun k => pb ≤ k) (fun i _ e => by omega)).then_ hf3' (fun i hi e => by
            rcases e with e | e
            · omega
            · have := hA.own i e; omega)
          go_wp2
          go_returns
          refine ⟨rfl, ⟨hbe.symm ▸ hdk3, _, _, _, hA3, by rw [List.length_append]; have := num9 m (by omega); omega, fun hb => by rw [hbe] at hb; cases hb⟩, hF3⟩
    · have hbe : (true && (decide (0 ≤ n) && decide (n ≤ most))) = false := by simp [h0]
      have hF := hFs false
      have hdk := hdks false
      have hA2 := hA2s false
      have hc2 := hc2s false
      clear hFs hdks hA2s hc2s
      go_upto_region 3 with (fail)
      generalize w.setCell ⟨d, 2, none⟩ (.bool false) = w2 at *
      obtain ⟨e0, e1, e2⟩ := Bk.c3 hdk
      refine st_tail 7 (by kernel_rfl) (by kernel_rfl) ?_
      simp only [List.take_succ_cons, List.take_zero, List.drop_succ_cons, List.drop_zero]
      repeat still_step
      refine wpStill_nil ?_
      go_wp2_with fail
      refine (num_bad n pb v L' bad _ (hA2.frm0 (Frm.refl _ w2).drew) (by omega)).mono ?_
      rintro e w3 ⟨rfl, hA3, hf3⟩
      have hf3' := ((Frm.refl (fun k => k = pb) w2).drew).trans hf3
      have hdk3 := hf3'.blk hdk (fun e => by omega)
      have hF3 : Frm (fun k => pb ≤ k) w w3 := (hF.mono (T := fun k => pb ≤ k) (fun i _ e => by omega)).then_ hf3' (fun i hi e => by omega)
      go_wp2
      go_returns
      refine ⟨rfl, ⟨hbe.symm ▸ hdk3, _, _, _, hA3, by omega, fun hb => by rw [hbe] at hb; cases hb⟩, hF3⟩
set_option maxHeartbeats 4000000 in
theorem dtext_p (s : ByteArray) (most : Int) (h : PS w d pb K ok L) (hd : pb < d) (hc : w.cell? ⟨lb, off, none⟩ = some (.string s)) (hlb : lb < pb) (hK : K ≤ 10000) (hs : s.size ≤ 1000) :
    Calls Try.prog 60 #[.pointer (some ⟨d, 0, none⟩), .pointer (some ⟨lb, off, none⟩), .int .i64 most] w fun e w' =>
      e = .returned (.tuple #[]) ∧ PS w' d pb (K + 1009) (ok && decide ((s.size : Int) ≤ most)) (L ++ (numB s.size ++ bytes s)) ∧ Frm (fun k => pb ≤ k) w w' := by
  obtain ⟨d0, d1, d2⟩ := Bk.c3 h.dk
  have fd2 := Bk.frozen h.dk 2
  obtain ⟨v, L', bad, hA, hL', hok⟩ := h.pk
  have hFs : ∀ b, Frm (fun k => k = d) w (w.setCell ⟨d, 2, none⟩ (.bool b)) := fun b => (Frm.refl _ w).set1 2 _
  have hdks : ∀ b, (w.setCell ⟨d, 2, none⟩ (.bool b)).heap[d]? = some (.cells #[.pointer (some ⟨pb, 0, none⟩), .pointer none, .bool b] 87 (0, 0)) := fun b => by
    have := Bk.set h.dk 2 (.bool b)
    simpa using this
  have hne := own_not hA.row h.dk (by decide)
  have hA2s := fun b => hA.frm (hFs b) (by omega) (fun k hk e => hne (e ▸ hk))
  have hc2s := fun b => (hFs b).cell hc (show ¬ lb = d by omega)
  clear h
  go_enter Try.func60, Try.ntmps60
  cases ok
  · have hbe : (false && decide ((s.size : Int) ≤ most)) = false := rfl
    have hF := hFs false
    have hdk := hdks false
    have hA2 := hA2s false
    have hc2 := hc2s false
    clear hFs hdks hA2s hc2s
    go_upto_region 3 with (fail)
    generalize w.setCell ⟨d, 2, none⟩ (.bool false) = w2 at *
    obtain ⟨e0, e1, e2⟩ := Bk.c3 hdk
    refine st_tail 7 (by kernel_rfl) (by kernel_rfl) ?_
    simp only [List.take_succ_cons, List.take_zero, List.drop_succ_cons, List.drop_zero]
    repeat still_step
    refine wpStill_nil ?_
    go_wp2_with fail
    refine (text_fine s pb v L' bad _ (hA2.frm0 (Frm.refl _ w2).drew) (by omega) (by omega)).mono ?_
    rintro e w3 ⟨v3, rfl, hA3, hf3⟩
    have hf3' := ((Frm.refl (fun k => k = pb ∨ v.ownBlock = some k) w2).drew).trans hf3
    have hdk3 := hf3'.blk hdk (fun e => e.elim (fun e => by omega) (fun e => hne e))
    have hF3 : Frm (fun k => pb ≤ k) w w3 := (hF.mono (T := fun k => pb ≤ k) (fun i _ e => by omega)).then_ hf3' (fun i hi e => by
      rcases e with e | e
      · omega
      · have := hA.own i e; omega)
    go_wp2
    go_returns
    refine ⟨rfl, ⟨hbe.symm ▸ hdk3, _, _, _, hA3, by rw [List.length_append, List.length_append, bytes_len]; have := num9 s.size (by omega); omega, fun hb => by rw [hbe] at hb; cases hb⟩, hF3⟩
  · by_cases h1 : (s.size : Int) ≤ most
    · have hbe : (true && decide ((s.size : Int) ≤ most)) = true := by simp [h1]
      have hF := hFs true
      have hdk := hdks true
      have hA2 := hA2s true
      have hc2 := hc2s true
      clear hFs hdks hA2s hc2s
      go_upto_region 3 with (fail)
      generalize w.setCell ⟨d, 2, none⟩ (.bool true) = w2 at *
      obtain ⟨e0, e1, e2⟩ := Bk.c3 hdk
      refine st_tail 7 (by kernel_rfl) (by kernel_rfl) ?_
      simp only [List.take_succ_cons, List.take_zero, List.drop_succ_cons, List.drop_zero]
      repeat still_step
      refine wpStill_nil ?_
      go_wp2_with fail
      refine (text_fine s pb v L' bad _ (hA2.frm0 (Frm.refl _ w2).drew) (by omega) (by omega)).mono ?_
      rintro e w3 ⟨v3, rfl, hA3, hf3⟩
      have hf3' := ((Frm.refl (fun k => k = pb ∨ v.ownBlock = some k) w2).drew).trans hf3
      have hdk3 := hf3'.blk hdk (fun e => e.elim (fun e => by omega) (fun e => hne e))
      have hF3 : Frm (fun k => pb ≤ k) w w3 := (hF.mono (T := fun k => pb ≤ k) (fun i _ e => by omega)).then_ hf3' (fun i hi e => by
        rcases e with e | e
        · omega
        · have := hA.own i e; omega)
      go_wp2
      go_returns
      refine ⟨rfl, ⟨hbe.symm ▸ hdk3, _, _, _, hA3, by rw [List.length_append, List.length_append, bytes_len]; have := num9 s.size (by omega); omega, fun hb => ⟨by rw [(hok (by first | rfl | trivial)).1]; simp, (hok (by first | rfl | trivial)).2⟩⟩, hF3⟩
    · have hbe : (true && decide ((s.size : Int) ≤ most)) = false := by simp [h1]
      have hF := hFs false
      have hdk := hdks false
      have hA2 := hA2s false
      have hc2 := hc2s false
      clear hFs hdks hA2s hc2s
      go_upto_region 3 with (fail)
      generalize w.setCell ⟨d, 2, none⟩ (.bool false) = w2 at *
      obtain ⟨e0, e1, e2⟩ := Bk.c3 hdk
      refine st_tail 7 (by kernel_rfl) (by kernel_rfl) ?_
      simp only [List.take_succ_cons, List.take_zero, List.drop_succ_cons, List.drop_zero]
      repeat still_step
      refine wpStill_nil ?_
      go_wp2_with fail
      refine (text_fine s pb v L' bad _ (hA2.frm0 (Frm.refl _ w2).drew) (by omega) (by omega)).mono ?_
      rintro e w3 ⟨v3, rfl, hA3, hf3⟩
      have hf3' := ((Frm.refl (fun k => k = pb ∨ v.ownBlock = some k) w2).drew).trans hf3
      have hdk3 := hf3'.blk hdk (fun e => e.elim (fun e => by omega) (fun e => hne e))
      have hF3 : Frm (fun k => pb ≤ k) w w3 := (hF.mono (T := fun k => pb ≤ k) (fun i _ e => by omega)).then_ hf3' (fun i hi e => by
        rcases e with e | e
        · omega
        · have := hA.own i e; omega)
      go_wp2
      go_returns
      refine ⟨rfl, ⟨hbe.symm ▸ hdk3, _, _, _, hA3, by rw [List.length_append, List.length_append, bytes_len]; have := num9 s.size (by omega); omega, fun hb => by rw [hbe] at hb; cases hb⟩, hF3⟩
end
end Lt
end Go.Proofs.Ythggbohoedfkpaa
