/- The client as a list of requests and answers: contracts of Told, Asked, Hear, Open, Final, Again. -/
import Derived.Test.YteokiiolchpndaaCle
namespace Go.Proofs.Yteokiiolchpndaa
open Go.RowKit
set_option linter.unusedVariables false
set_option linter.unusedSimpArgs false

abbrev Vw := Rq × Option An
def Ln.vw (x : Ln) : Vw := (x.r, x.a.map (·.2))
def vw (ls : List Ln) : List Vw := ls.map Ln.vw
theorem vw_len (ls : List Ln) : (vw ls).length = ls.length := by simp [vw]
/-- The line of a serial. -/
def vAt (vs : List Vw) (s : Int) : Option Vw := if 1 ≤ s ∧ s ≤ vs.length then vs[(s - 1).toNat]? else none
def vTold (vs : List Vw) (s : Int) : Option An := (vAt vs s).bind (·.2)
def vAsked (vs : List Vw) (s : Int) : Option Rq := (vAt vs s).map (·.1)
def vHear (id : Int) (vs : List Vw) (y : An) : Bool := decide (y.client = id) && ((vAsked vs y.serial).isSome && (vTold vs y.serial).isNone)
def vHeard (id : Int) (vs : List Vw) (y : An) : List Vw := if vHear id vs y then vs.modify (y.serial - 1).toNat (fun p => (p.1, some y)) else vs
def fin (y : An) : Bool := decide (y.status ≠ 409 ∧ y.status ≠ 503)
def vAgain (vs : List Vw) (s at_ now : Int) : Option Rq := match vTold vs s with
  | none => none
  | some y => if fin y = true ∨ y.after < 1 ∨ pst now (plus at_ y.after) = false then none else vAsked vs s
theorem vAt_nat {vs : List Vw} {k : Nat} (h : k < vs.length) : vAt vs ((k : Int) + 1) = some vs[k] := by
  unfold vAt
  rw [if_pos (by omega), show ((k : Int) + 1 - 1).toNat = k by omega, List.getElem?_eq_getElem h]
theorem vAt_no {vs : List Vw} {s : Int} (h : ¬ (1 ≤ s ∧ s ≤ vs.length)) : vAt vs s = none := by unfold vAt; rw [if_neg h]
theorem ser_nat {n : Nat} {s : Int} (h : 1 ≤ s ∧ s ≤ n) : ∃ k : Nat, s = (k : Int) + 1 ∧ k < n := ⟨(s - 1).toNat, by omega, by omega⟩
section
variable {w : World} {cb : Nat} {id : Int} {v : Value} {ls : List Ln}
theorem told_any (h : Cl w cb id v ls) (hl : ls.length ≤ 1000000) (s : Int) :
    Calls Try.prog 45 #[.pointer (some ⟨cb, 0, none⟩), .int .i64 s] w fun e w' => e = .returned (.tuple #[anV ((vTold (vw ls) s).getD an0), .bool (vTold (vw ls) s).isSome]) ∧ Frm0 w w' := by
  by_cases hs : 1 ≤ s ∧ s ≤ ls.length
  · obtain ⟨k, rfl, hk⟩ := ser_nat hs
    have HS := says_yes h hl k hk _ rfl
    unfold vTold
    rw [vAt_nat (by rw [vw_len]; exact hk)]
    have e : (vw ls)[k]'(by rw [vw_len]; exact hk) = (ls[k]).vw := by simp [vw]
    rw [e]
    unfold Ln.vw
    cases ha : (ls[k]).a with
    | none => exact told_no HS ha
    | some p =>
      obtain ⟨g, y⟩ := p
      exact told_yes HS ha (h.ans _ (List.getElem_mem hk) g y ha).2.2
  · unfold vTold
    rw [vAt_no (by rw [vw_len]; exact hs)]
    exact told_no (says_no h s hs) rfl
theorem told_nil (s : Int) (w : World) : Calls Try.prog 45 #[.pointer none, .int .i64 s] w fun e w' => e = .returned (.tuple #[anV an0, .bool false]) ∧ Frm0 w w' := told_no (says_nil w s) rfl
theorem asked_any (h : Cl w cb id v ls) (hl : ls.length ≤ 1000000) (s : Int) :
    Calls Try.prog 44 #[.pointer (some ⟨cb, 0, none⟩), .int .i64 s] w fun e w' => e = .returned (.tuple #[rqV ((vAsked (vw ls) s).getD rq0), .bool (vAsked (vw ls) s).isSome]) ∧ Frm0 w w' := by
  by_cases hs : 1 ≤ s ∧ s ≤ ls.length
  · obtain ⟨k, rfl, hk⟩ := ser_nat hs
    have HS := says_yes h hl k hk _ rfl
    unfold vAsked
    rw [vAt_nat (by rw [vw_len]; exact hk)]
    have e : (vw ls)[k]'(by rw [vw_len]; exact hk) = (ls[k]).vw := by simp [vw]
    rw [e]
    exact asked_of HS
  · unfold vAsked
    rw [vAt_no (by rw [vw_len]; exact hs)]
    exact asked_of (says_no h s hs)
theorem asked_nil (s : Int) (w : World) : Calls Try.prog 44 #[.pointer none, .int .i64 s] w fun e w' => e = .returned (.tuple #[rqV rq0, .bool false]) ∧ Frm0 w w' := asked_of (says_nil w s)
theorem hear_nil (y : An) (w : World) : Calls Try.prog 39 #[.pointer none, anV y] w fun e w' => e = .returned (.bool false) ∧ Frm0 w w' := hear_out y (says_nil w _)
theorem vw_set (ls : List Ln) (k : Nat) (hk : k < ls.length) (b : Nat) (y : An) : vw (ls.set k ⟨(ls[k]).r, some (b, y)⟩) = (vw ls).modify k (fun p => (p.1, some y)) := by
  unfold vw
  apply List.ext_getElem?
  intro j
  rw [List.getElem?_map, List.getElem?_set, List.getElem?_modify, List.getElem?_map]
  by_cases e : k = j
  · subst e
    rw [if_pos rfl, if_pos hk, List.getElem?_eq_getElem hk]
    simp [Ln.vw]
  · rw [if_neg e]
    cases ls[j]? <;> simp [e]
theorem hear_any (y : An) (h : Cl w cb id v ls) (hl : ls.length ≤ 1000000) :
    Calls Try.prog 39 #[.pointer (some ⟨cb, 0, none⟩), anV y] w fun e w' => ∃ ls', e = .returned (.bool (vHear id (vw ls) y)) ∧ Cl w' cb id v ls' ∧ vw ls' = vHeard id (vw ls) y ∧ ls'.length = ls.length ∧ (∀ k, Ln.own ls' k → Ln.own ls k ∨ w.heap.size ≤ k) ∧ Frm (fun j => v.ownBlock = some j) w w' := by
  have keep : vHear id (vw ls) y = false → ∀ w', Frm0 w w' → ∃ ls', Cl w' cb id v ls' ∧ vw ls' = vHeard id (vw ls) y ∧ ls'.length = ls.length ∧ (∀ k, Ln.own ls' k → Ln.own ls k ∨ w.heap.size ≤ k) ∧ Frm (fun j => v.ownBlock = some j) w w' := fun e w' hf =>
    ⟨ls, h.frm0 hf, by unfold vHeard; rw [e]; rfl, rfl, fun k hk => .inl hk, hf.of0⟩
  by_cases hs : 1 ≤ y.serial ∧ y.serial ≤ ls.length
  · obtain ⟨k, hk1, hk⟩ := ser_nat hs
    have HS := says_yes h hl k hk _ hk1
    have e0 : (vw ls)[k]'(by rw [vw_len]; exact hk) = (ls[k]).vw := by simp [vw]
    have e1 : vAsked (vw ls) y.serial = some (ls[k]).r := by unfold vAsked; rw [hk1, vAt_nat (by rw [vw_len]; exact hk), e0]; rfl
    have e2 : vTold (vw ls) y.serial = (ls[k]).a.map (·.2) := by unfold vTold; rw [hk1, vAt_nat (by rw [vw_len]; exact hk), e0]; rfl
    by_cases hc : y.client = id
    · cases ha : (ls[k]).a with
      | none =>
        have e : vHear id (vw ls) y = true := by unfold vHear; rw [e1, e2, ha, decide_eq_true hc]; rfl
        refine (hear_yes y h hl k hk hk1 hc ha).mono ?_
        rintro e' w' ⟨rfl, h', hf⟩
        refine ⟨_, by rw [e], h', ?_, by simp, ?_, hf⟩
        · unfold vHeard
          rw [e, if_pos rfl, vw_set ls k hk, show (y.serial - 1).toNat = k by omega]
        · rintro j ⟨x, hx, a, hxa⟩
          rcases List.mem_or_eq_of_mem_set hx with hx | rfl
          · exact .inl ⟨x, hx, a, hxa⟩
          · simp only [Option.some.injEq, Prod.mk.injEq] at hxa
            exact .inr (by omega)
      | some p =>
        obtain ⟨g, z⟩ := p
        have e : vHear id (vw ls) y = false := by unfold vHear; rw [e1, e2, ha]; simp
        refine (hear_not y h HS (.inr ⟨hc, g, z, ha⟩)).mono ?_
        rintro e' w' ⟨rfl, hf⟩
        obtain ⟨ls', hh⟩ := keep e w' hf
        exact ⟨ls', by rw [e], hh⟩
    · have e : vHear id (vw ls) y = false := by unfold vHear; rw [decide_eq_false hc]; rfl
      refine (hear_not y h HS (.inl hc)).mono ?_
      rintro e' w' ⟨rfl, hf⟩
      obtain ⟨ls', hh⟩ := keep e w' hf
      exact ⟨ls', by rw [e], hh⟩
  · have e : vHear id (vw ls) y = false := by
      unfold vHear vAsked
      rw [vAt_no (by rw [vw_len]; exact hs)]
      simp
    refine (hear_out y (says_no h _ hs)).mono ?_
    rintro e' w' ⟨rfl, hf⟩
    obtain ⟨ls', hh⟩ := keep e w' hf
    exact ⟨ls', by rw [e], hh⟩
end
theorem final_any (y : An) (w : World) : Calls Try.prog 48 #[anV y] w fun e w' => e = .returned (.bool (fin y)) ∧ Frm0 w w' := by
  obtain ⟨z0, z1, z2, z3, z4, z5⟩ := y
  have hcs : ((z2 == 409) = true ∧ (z2 != 409) = false ∧ fin ⟨z0, z1, z2, z3, z4, z5⟩ = false) ∨ ((z2 == 409) = false ∧ (z2 != 409) = true ∧ (z2 != 503) = fin ⟨z0, z1, z2, z3, z4, z5⟩) := by
    unfold fin
    by_cases h1 : z2 = 409
    · subst h1; exact .inl ⟨rfl, rfl, rfl⟩
    · refine .inr ⟨beq_eq_false_iff_ne.2 h1, by simp [h1], ?_⟩
      by_cases h2 : z2 = 503
      · subst h2; rfl
      · simp [h1, h2]
  generalize fin ⟨z0, z1, z2, z3, z4, z5⟩ = q at *
  unfold anV
  simp only
  rcases hcs with ⟨d1, d2, rfl⟩ | ⟨d1, d2, d3⟩
  all_goals
    go_enter Try.func48, Try.ntmps48
    go_wp2
    go_ret
    exact ⟨rfl, (Frm.refl _ _).alloc _⟩
end Go.Proofs.Yteokiiolchpndaa
