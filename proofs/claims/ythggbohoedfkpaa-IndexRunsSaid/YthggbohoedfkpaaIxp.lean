/- The index's reference: Put and Drop, on any row of the caller's own. -/
import Derived.Test.YthggbohoedfkpaaIxo
namespace Go.Proofs.Ythggbohoedfkpaa
open Go.RowKit
set_option linter.unusedVariables false
set_option linter.unusedSimpArgs false
namespace Ix
section
variable {w w1 : World}
theorem rput_any (base : Nat) (v : Value) (l : List En) (e : En) (w : World) (h : w.ownsRow base 52 14 v l.length (ecs l)) (hl : l.length ≤ 90) :
    Calls Try.prog 29 #[v, .agg e.cells.toArray] w fun e_ w' => ∃ v', e_ = .returned v' ∧ w'.ownsRow w.heap.size 52 14 v' (put En.nm l e).length (ecs (put En.nm l e)) ∧ Frm0 w w' := by
  rcases h.2 with ⟨rfl, h0⟩ | ⟨g, cap, cur, rfl, _⟩
  · obtain rfl := List.eq_nil_of_length_eq_zero h0
    have h2 : put En.nm [] e = [e] := by simp [put, place, found]
    rw [h2]
    refine (rput_nil e w).mono ?_
    rintro e_ w' ⟨v', rfl, ho, hf⟩
    refine ⟨v', rfl, ?_, hf⟩
    have h3 : ecs [e] = e.cells := by simp [ecs]
    rw [h3]
    exact ho
  · exact rput_some g 0 l.length cap l e w rfl (Sl.of_own h) hl
theorem rdrop_any (base : Nat) (v : Value) (l : List En) (t : Int) (k : ByteArray) (w : World) (h : w.ownsRow base 52 14 v l.length (ecs l)) (hl : l.length ≤ 90) :
    Calls Try.prog 36 #[v, .int .i64 t, .string k] w fun e_ w' => ∃ v', e_ = .returned v' ∧ w'.ownsRow w.heap.size 52 14 v' (drp En.nm l (t, k.toList)).length (ecs (drp En.nm l (t, k.toList))) ∧ Frm0 w w' := by
  rcases h.2 with ⟨rfl, h0⟩ | ⟨g, cap, cur, rfl, _⟩
  · obtain rfl := List.eq_nil_of_length_eq_zero h0
    have h2 : drp En.nm ([] : List En) (t, k.toList) = [] := rfl
    rw [h2]
    exact rdrop_nil t k w
  · exact rdrop_some g 0 l.length cap l t k w rfl (Sl.of_own h) hl
end
end Ix
end Go.Proofs.Ythggbohoedfkpaa
