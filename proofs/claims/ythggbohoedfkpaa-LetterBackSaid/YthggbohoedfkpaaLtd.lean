/- Letters: a letter of no kind; alone. -/
import Derived.Test.YthggbohoedfkpaaLtc
namespace Go.Proofs.Ythggbohoedfkpaa
open Go.RowKit Pk
set_option linter.unusedVariables false
set_option linter.unusedSimpArgs false
set_option maxRecDepth 100000
namespace Lt
section
variable {w w1 : World} {d pb K lb off : Nat} {ok : Bool} {L : List Nat} {S : Nat → Prop}
set_option maxHeartbeats 2000000 in
theorem letter_p0 (l : Ltr) (k1 : ¬ l.kind = 1) (k2 : ¬ l.kind = 2) (k3 : ¬ l.kind = 3) (k4 : ¬ l.kind = 4) (h : PS w d pb K ok L) (hb : w.heap[lb]? = some (.cells l.cells.toArray 31 (0, 0))) (hd : pb < d) (hlb : lb < pb) :
    Calls Try.prog 41 #[.pointer (some ⟨d, 0, none⟩), .pointer (some ⟨lb, 0, none⟩)] w fun e w' =>
      e = .returned (.tuple #[]) ∧ PS w' d pb K false L ∧ Frm (fun k => pb ≤ k) w w' := by
  have x0 : w.cell? ⟨lb, 0, none⟩ = some (.int .i64 l.kind) := by rw [Bk.cell hb]; rfl
  have q1 : (l.kind == 1) = false := beq_eq_false_iff_ne.2 k1
  have q2 : (l.kind == 2) = false := beq_eq_false_iff_ne.2 k2
  have q3 : (l.kind == 3) = false := beq_eq_false_iff_ne.2 k3
  have q4 : (l.kind == 4) = false := beq_eq_false_iff_ne.2 k4
  have fd2 := Bk.frozen h.dk 2
  obtain ⟨d0, d1, d2⟩ := Bk.c3 h.dk
  have HH := Lib.hid h
  have HB := Lib.hid hb
  clear h hb k1 k2 k3 k4
  go_enter Try.func41, Try.ntmps41
  go_upto_region 0 with (fail)
  go_quiet (fail)
  go_wp2
  go_returns
  have h := HH.out.drewN nq
  have hF : Frm (fun k => k = d) (w.drewN nq) ((w.drewN nq).setCell ⟨d, 2, none⟩ (.bool false)) := (Frm.refl _ _).set1 2 _
  obtain ⟨v, L', bad, hA, h1, h2⟩ := h.pk
  have hne := own_not hA.row h.dk (by decide)
  refine ⟨rfl, ⟨?_, v, L', bad, hA.frm hF (by omega) (fun k hk e => hne (e ▸ hk)), h1, fun h => by cases h⟩, (((Frm.refl _ w).drewN nq).then_ hF (fun i _ e => by omega))⟩
  have := Bk.set h.dk 2 (.bool false)
  simpa using this
end
end Lt
end Go.Proofs.Ythggbohoedfkpaa
