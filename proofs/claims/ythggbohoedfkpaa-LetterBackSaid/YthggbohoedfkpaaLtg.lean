/- Letters: a letter of any kind through the desk that packs. -/
import Derived.Test.YthggbohoedfkpaaLtf
namespace Go.Proofs.Ythggbohoedfkpaa
open Go.RowKit Pk
set_option linter.unusedVariables false
set_option linter.unusedSimpArgs false
set_option maxRecDepth 100000
namespace Lt
/-- The checks of a letter of its kind. -/
def chk (ok : Bool) (l : Ltr) : Bool := if l.kind = 1 then ok && nf (l.rq.client) 1073741824 && nf (l.rq.serial) 1073741824 && nf (l.rq.tenant) 1073741824 && tf (l.rq.key) 60 && tf (l.rq.method) 60 && tf (l.rq.path) 100 && tf (l.rq.body) 200 else if l.kind = 2 then ok && nf (l.an.client) 1073741824 && nf (l.an.serial) 1073741824 && nf (l.an.status) 999 && tf (l.an.text) 40 && nf (l.an.after) 1099511627776 && nf (l.an.epoch) 1073741824 else if l.kind = 3 then ok && nf (l.cl.tenant) 1073741824 && tf (l.cl.key) 24 && nf (l.cl.epoch) 1073741824 && nf (l.cl.phase) 5 && nf (l.cl.token) 1073741824 && tf (l.cl.name) 12 && tf (l.cl.body) 40 else if l.kind = 4 then ok && nf (l.rp.tenant) 1073741824 && tf (l.rp.key) 24 && nf (l.rp.epoch) 1073741824 && nf (l.rp.phase) 5 && nf (l.rp.token) 1073741824 && nf (l.rp.code) 3 else false
/-- The bytes of a letter of its kind, behind L. -/
def lay (L : List Nat) (l : Ltr) : List Nat := if l.kind = 1 then L ++ nl (l.rq.client) ++ nl (l.rq.serial) ++ nl (l.rq.tenant) ++ tx (l.rq.key) ++ tx (l.rq.method) ++ tx (l.rq.path) ++ tx (l.rq.body) else if l.kind = 2 then L ++ nl (l.an.client) ++ nl (l.an.serial) ++ nl (l.an.status) ++ tx (l.an.text) ++ nl (l.an.after) ++ nl (l.an.epoch) else if l.kind = 3 then L ++ nl (l.cl.tenant) ++ tx (l.cl.key) ++ nl (l.cl.epoch) ++ nl (l.cl.phase) ++ nl (l.cl.token) ++ tx (l.cl.name) ++ tx (l.cl.body) else if l.kind = 4 then L ++ nl (l.rp.tenant) ++ tx (l.rp.key) ++ nl (l.rp.epoch) ++ nl (l.rp.phase) ++ nl (l.rp.token) ++ nl (l.rp.code) else L
/-- Texts that are no longer than a thousand bytes. -/
structure Sm (l : Ltr) : Prop where
  rqkey : l.rq.key.size ≤ 1000
  rqmethod : l.rq.method.size ≤ 1000
  rqpath : l.rq.path.size ≤ 1000
  rqbody : l.rq.body.size ≤ 1000
  antext : l.an.text.size ≤ 1000
  clkey : l.cl.key.size ≤ 1000
  clname : l.cl.name.size ≤ 1000
  clbody : l.cl.body.size ≤ 1000
  rpkey : l.rp.key.size ≤ 1000
theorem PS.mono {w : World} {d pb K K' : Nat} {ok : Bool} {L : List Nat} (h : PS w d pb K ok L) (hk : K ≤ K') : PS w d pb K' ok L := by
  obtain ⟨v, L', bad, hA, h1, h2⟩ := h.pk
  exact ⟨h.dk, v, L', bad, hA, by omega, h2⟩
section
variable {w w1 : World} {d pb K lb off : Nat} {ok : Bool} {L : List Nat} {S : Nat → Prop}
set_option maxHeartbeats 2000000 in
theorem letter_q0 {v : Value} {L' : List Nat} {bad : Bool} (l : Ltr) (k1 : ¬ l.kind = 1) (k2 : ¬ l.kind = 2) (k3 : ¬ l.kind = 3) (k4 : ¬ l.kind = 4) (hdk : w.heap[d]? = some (.cells #[.pointer (some ⟨pb, 0, none⟩), .pointer none, .bool ok] 87 (0, 0))) (hA : At w pb v L' bad) (hL' : L'.length ≤ K) (hb : w.heap[lb]? = some (.cells l.cells.toArray 31 (0, 0))) (hd : pb < d) (hlb : lb < pb) :
    Calls Try.prog 41 #[.pointer (some ⟨d, 0, none⟩), .pointer (some ⟨lb, 0, none⟩)] w fun e w' =>
      e = .returned (.tuple #[]) ∧ PS w' d pb K false L ∧ Frm (fun k => pb ≤ k) w w' := by
  have x0 : w.cell? ⟨lb, 0, none⟩ = some (.int .i64 l.kind) := by rw [Bk.cell hb]; rfl
  have q1 : (l.kind == 1) = false := beq_eq_false_iff_ne.2 k1
  have q2 : (l.kind == 2) = false := beq_eq_false_iff_ne.2 k2
  have q3 : (l.kind == 3) = false := beq_eq_false_iff_ne.2 k3
  have q4 : (l.kind == 4) = false := beq_eq_false_iff_ne.2 k4
  have fd2 := Bk.frozen hdk 2
  obtain ⟨d0, d1, d2⟩ := Bk.c3 hdk
  have HH := Lib.hid hdk
  have HA := Lib.hid hA
  have HB := Lib.hid hb
  clear hdk hA hb k1 k2 k3 k4
  go_enter Try.func41, Try.ntmps41
  go_upto_region 0 with (fail)
  go_quiet (fail)
  go_wp2
  go_returns
  have h := ((Frm.refl (fun _ => False) w).drewN nq).blk HH.out (fun h => h)
  have hA := HA.out.frm0 ((Frm.refl _ w).drewN nq)
  have hF : Frm (fun k => k = d) (w.drewN nq) ((w.drewN nq).setCell ⟨d, 2, none⟩ (.bool false)) := (Frm.refl _ _).set1 2 _
  have hne := own_not hA.row h (by decide)
  refine ⟨rfl, ⟨?_, v, L', bad, hA.frm hF (by omega) (fun k hk e => hne (e ▸ hk)), hL', fun h => by cases h⟩, (((Frm.refl _ w).drewN nq).then_ hF (fun i _ e => by omega))⟩
  have := Bk.set h 2 (.bool false)
  simpa using this

set_option maxHeartbeats 2000000 in
theorem letter_any (l : Ltr) (v : Value) (L' : List Nat) (bad : Bool) (hdk : w.heap[d]? = some (.cells #[.pointer (some ⟨pb, 0, none⟩), .pointer none, .bool ok] 87 (0, 0))) (hA : At w pb v L' bad) (hL' : L'.length ≤ K)
    (hk : 1 ≤ l.kind → l.kind ≤ 4 → L' = L ∧ bad = false) (hb : w.heap[lb]? = some (.cells l.cells.toArray 31 (0, 0))) (hd : pb < d) (hlb : lb < pb) (hK : K ≤ 1000) (hz : Sm l) :
    Calls Try.prog 41 #[.pointer (some ⟨d, 0, none⟩), .pointer (some ⟨lb, 0, none⟩)] w fun e w' =>
      e = .returned (.tuple #[]) ∧ PS w' d pb 6000 (chk ok l) (lay L l) ∧ Frm (fun k => pb ≤ k) w w' := by
  by_cases k0 : 1 ≤ l.kind ∧ l.kind ≤ 4
  · obtain ⟨rfl, rfl⟩ := hk k0.1 k0.2
    have h : PS w d pb K ok L' := ⟨hdk, v, L', false, hA, hL', fun _ => ⟨rfl, rfl⟩⟩
    clear hk hdk hA
    rcases (by omega : l.kind = 1 ∨ l.kind = 2 ∨ l.kind = 3 ∨ l.kind = 4) with k1 | k2 | k3 | k4
    · refine (letter_p1 (K := K) (ok := ok) (L := L') l k1 h hb hd hlb hK hz.rqkey hz.rqmethod hz.rqpath hz.rqbody).mono ?_
      rintro e w1 ⟨rfl, h1, hf⟩
      refine ⟨rfl, ?_, hf⟩
      have e1 : chk ok l = (ok && nf (l.rq.client) 1073741824 && nf (l.rq.serial) 1073741824 && nf (l.rq.tenant) 1073741824 && tf (l.rq.key) 60 && tf (l.rq.method) 60 && tf (l.rq.path) 100 && tf (l.rq.body) 200) := by unfold chk;  rw [if_pos k1]
      have e2 : lay L' l = (L' ++ nl (l.rq.client) ++ nl (l.rq.serial) ++ nl (l.rq.tenant) ++ tx (l.rq.key) ++ tx (l.rq.method) ++ tx (l.rq.path) ++ tx (l.rq.body)) := by unfold lay;  rw [if_pos k1]
      rw [e1, e2]
      exact h1.mono (by omega)
    · refine (letter_p2 (K := K) (ok := ok) (L := L') l k2 h hb hd hlb hK hz.antext).mono ?_
      rintro e w1 ⟨rfl, h1, hf⟩
      refine ⟨rfl, ?_, hf⟩
      have e1 : chk ok l = (ok && nf (l.an.client) 1073741824 && nf (l.an.serial) 1073741824 && nf (l.an.status) 999 && tf (l.an.text) 40 && nf (l.an.after) 1099511627776 && nf (l.an.epoch) 1073741824) := by unfold chk; rw [if_neg (by omega)]; rw [if_pos k2]
      have e2 : lay L' l = (L' ++ nl (l.an.client) ++ nl (l.an.serial) ++ nl (l.an.status) ++ tx (l.an.text) ++ nl (l.an.after) ++ nl (l.an.epoch)) := by unfold lay; rw [if_neg (by omega)]; rw [if_pos k2]
      rw [e1, e2]
      exact h1.mono (by omega)
    · refine (letter_p3 (K := K) (ok := ok) (L := L') l k3 h hb hd hlb hK hz.clkey hz.clname hz.clbody).mono ?_
      rintro e w1 ⟨rfl, h1, hf⟩
      refine ⟨rfl, ?_, hf⟩
      have e1 : chk ok l = (ok && nf (l.cl.tenant) 1073741824 && tf (l.cl.key) 24 && nf (l.cl.epoch) 1073741824 && nf (l.cl.phase) 5 && nf (l.cl.token) 1073741824 && tf (l.cl.name) 12 && tf (l.cl.body) 40) := by unfold chk; rw [if_neg (by omega)]; rw [if_neg (by omega)]; rw [if_pos k3]
      have e2 : lay L' l = (L' ++ nl (l.cl.tenant) ++ tx (l.cl.key) ++ nl (l.cl.epoch) ++ nl (l.cl.phase) ++ nl (l.cl.token) ++ tx (l.cl.name) ++ tx (l.cl.body)) := by unfold lay; rw [if_neg (by omega)]; rw [if_neg (by omega)]; rw [if_pos k3]
      rw [e1, e2]
      exact h1.mono (by omega)
    · refine (letter_p4 (K := K) (ok := ok) (L := L') l k4 h hb hd hlb hK hz.rpkey).mono ?_
      rintro e w1 ⟨rfl, h1, hf⟩
      refine ⟨rfl, ?_, hf⟩
      have e1 : chk ok l = (ok && nf (l.rp.tenant) 1073741824 && tf (l.rp.key) 24 && nf (l.rp.epoch) 1073741824 && nf (l.rp.phase) 5 && nf (l.rp.token) 1073741824 && nf (l.rp.code) 3) := by unfold chk; rw [if_neg (by omega)]; rw [if_neg (by omega)]; rw [if_neg (by omega)]; rw [if_pos k4]
      have e2 : lay L' l = (L' ++ nl (l.rp.tenant) ++ tx (l.rp.key) ++ nl (l.rp.epoch) ++ nl (l.rp.phase) ++ nl (l.rp.token) ++ nl (l.rp.code)) := by unfold lay; rw [if_neg (by omega)]; rw [if_neg (by omega)]; rw [if_neg (by omega)]; rw [if_pos k4]
      rw [e1, e2]
      exact h1.mono (by omega)
  · have e1 : chk ok l = false := by unfold chk; rw [if_neg (by omega), if_neg (by omega), if_neg (by omega), if_neg (by omega)]
    rw [e1]
    refine (letter_q0 (L := lay L l) l (by omega) (by omega) (by omega) (by omega) hdk hA hL' hb hd hlb).mono ?_
    rintro e w1 ⟨rfl, h1, hf⟩
    exact ⟨rfl, h1.mono (by omega), hf⟩
end
end Lt
end Go.Proofs.Ythggbohoedfkpaa
