/- What a client tells, behind what it hears: plain lemmas. -/
import Derived.Test.YteokiiolchpndaaClj
namespace Go.Proofs.Yteokiiolchpndaa
open Go.RowKit Go.ChangeShapes
set_option linter.unusedVariables false
set_option linter.unusedSimpArgs false
theorem vAt_range {vs : List Vw} {s : Int} {p : Vw} (h : vAt vs s = some p) : 1 ≤ s ∧ s ≤ vs.length ∧ vs[(s - 1).toNat]? = some p := by
  unfold vAt at h
  split at h
  · rename_i hc; exact ⟨hc.1, hc.2, h⟩
  · cases h
theorem vHeard_len (id : Int) (vs : List Vw) (y : An) : (vHeard id vs y).length = vs.length := by
  unfold vHeard
  split
  · rw [List.length_modify]
  · rfl
/-- What hearing does, case by case. -/
inductive Hr (id : Int) (vs : List Vw) (y : An) : Prop
  | other (h1 : y.client ≠ id) (h2 : vHear id vs y = false)
  | none_ (h1 : y.client = id) (h2 : vAsked vs y.serial = none) (h3 : vTold vs y.serial = none) (h4 : vHear id vs y = false)
  | again (z : An) (r : Rq) (h1 : y.client = id) (h2 : vAsked vs y.serial = some r) (h3 : vTold vs y.serial = some z) (h4 : vHear id vs y = false)
  | ok (r : Rq) (h1 : y.client = id) (h2 : vAsked vs y.serial = some r) (h3 : vTold vs y.serial = none) (h4 : vHear id vs y = true)
theorem hr (id : Int) (vs : List Vw) (y : An) : Hr id vs y := by
  by_cases hc : y.client = id
  · cases ha : vAt vs y.serial with
    | none =>
      have e1 : vAsked vs y.serial = none := by unfold vAsked; rw [ha]; rfl
      exact .none_ hc e1 (by unfold vTold; rw [ha]; rfl) (by unfold vHear; rw [e1]; simp)
    | some p =>
      obtain ⟨r, t⟩ := p
      have e1 : vAsked vs y.serial = some r := by unfold vAsked; rw [ha]; rfl
      cases t with
      | none =>
        have e2 : vTold vs y.serial = none := by unfold vTold; rw [ha]; rfl
        exact .ok r hc e1 e2 (by unfold vHear; rw [e1, e2, decide_eq_true hc]; rfl)
      | some z =>
        have e2 : vTold vs y.serial = some z := by unfold vTold; rw [ha]; rfl
        exact .again z r hc e1 e2 (by unfold vHear; rw [e1, e2]; simp)
  · exact .other hc (by unfold vHear; rw [decide_eq_false hc]; rfl)
theorem heard_no {id : Int} {vs : List Vw} {y : An} (h : vHear id vs y = false) : vHeard id vs y = vs := by unfold vHeard; rw [h]; rfl
theorem heard_ok {id : Int} {vs : List Vw} {y : An} (h : vHear id vs y = true) : vTold (vHeard id vs y) y.serial = some y := by
  have hk : (vAsked vs y.serial).isSome = true := by
    unfold vHear at h
    simp only [Bool.and_eq_true] at h
    exact h.2.1
  unfold vAsked at hk
  cases ha : vAt vs y.serial with
  | none => rw [ha] at hk; cases hk
  | some p =>
    obtain ⟨h1, h2, h3⟩ := vAt_range ha
    unfold vTold vAt vHeard
    rw [if_pos h, List.length_modify, if_pos ⟨h1, h2⟩, List.getElem?_modify, h3]
    simp
end Go.Proofs.Yteokiiolchpndaa
