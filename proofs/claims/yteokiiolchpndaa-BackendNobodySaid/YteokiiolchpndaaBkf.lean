/- Plain laws of the backend's answer. -/
import Derived.Test.YteokiiolchpndaaBkd
namespace Go.Proofs.Yteokiiolchpndaa
open Go.RowKit Go.ChangeShapes Go.WideShapes Go.Maps
set_option linter.unusedVariables false
set_option linter.unusedSimpArgs false
namespace Bk25
theorem At.more {w : World} {b N : Nat} {v : Value} {s : St} (h : At w b v s N) {M : Nat} (hm : N ≤ M) : At w b v s M := ⟨h.blk, h.lm.more hm, h.dm.more hm, h.row, h.late⟩
/-- What a code says of a life behind it. -/
def Fen (s : St) (d : Ca) (y : Int) : Prop := (y = 1 ∨ y = 2) → ∃ tok sp, find s.ls d.tenant d.key d.epoch = some (tok, sp) ∧ d.token ≤ tok ∧ (y = 2 → d.token < tok ∨ sp = true)
theorem fen_zero (s : St) (d : Ca) : Fen s d 0 := fun h => by rcases h with h | h <;> cases h
theorem find_self (ls : List Lf) (t : Int) (k : ByteArray) (e tok : Int) (sp : Bool) : find (putL ls t k e tok sp) t k e = some (tok, sp) := by rw [find_put, if_pos ⟨rfl, rfl, rfl⟩]
theorem fen_later {s : St} {d : Ca} {y : Int} (h : Fen s d y) (n : Int) : Fen ⟨s.ls, s.ef, n⟩ d y := h
/-- Lives behind a call: as they were, or with the call's laid. -/
theorem call_ls (s : St) (c : Ca) : (stale s c ∧ call s c = (s, 3)) ∨ (¬ stale s c ∧ ∃ sp, (call s c).1.ls = putL s.ls c.tenant c.key c.epoch c.token sp ∧ ((call s c).2 = 1 ∨ ((call s c).2 = 2 ∧ sp = true))) := by
  unfold call
  by_cases h : stale s c
  · exact .inl ⟨h, if_pos h⟩
  · refine .inr ⟨h, ?_⟩
    rw [if_neg h]
    split
    · exact ⟨false, rfl, .inl rfl⟩
    · split
      · exact ⟨true, rfl, .inr ⟨rfl, rfl⟩⟩
      · exact ⟨false, rfl, .inl rfl⟩
theorem fen_new (s : St) (c : Ca) : Fen (call s c).1 c (call s c).2 := by
  rcases call_ls s c with ⟨_, h⟩ | ⟨_, sp, h1, h2⟩
  · rw [h]
    intro h'
    rcases h' with h' | h' <;> cases h'
  · intro h'
    refine ⟨c.token, sp, by rw [h1, find_self], Int.le_refl _, fun h3 => ?_⟩
    rcases h2 with h2 | ⟨_, h2⟩
    · rw [h2] at h3; cases h3
    · exact .inr h2
theorem fen_old {s : St} {d : Ca} {y : Int} (h : Fen s d y) (c : Ca) : Fen (call s c).1 d y := by
  rcases call_ls s c with ⟨_, h0⟩ | ⟨hns, sp, h1, _⟩
  · rw [h0]; exact h
  · intro hy
    obtain ⟨tok, sp0, hf, hle, h2⟩ := h hy
    rw [h1, find_put]
    by_cases he : c.tenant = d.tenant ∧ c.key = d.key ∧ c.epoch = d.epoch
    · rw [if_pos he]
      have hnst : ¬ (c.token < tok ∨ (tok = c.token ∧ sp0 = true)) := by
        intro hst
        apply hns
        unfold stale
        rw [he.1, he.2.1, he.2.2, hf]
        exact hst
      refine ⟨c.token, sp, rfl, by omega, fun h3 => .inl ?_⟩
      rcases h2 h3 with h4 | h4
      · omega
      · have : tok ≠ c.token := fun e => hnst (.inr ⟨e, h4⟩)
        omega
    · rw [if_neg he]
      exact ⟨tok, sp0, hf, hle, h2⟩
/-- Where a call has an effect, no code said otherwise. -/
theorem fen_grow {s : St} {d c : Ca} {y : Int} (h : Fen s d y) (hg : (call s c).1.ef.length ≠ s.ef.length) (he : d.tenant = c.tenant ∧ d.key = c.key ∧ d.epoch = c.epoch) : ¬ ((y = 1 ∧ c.token < d.token) ∨ (y = 2 ∧ c.token ≤ d.token)) := by
  intro hy
  have hns : ¬ stale s c := fun hst => hg (by unfold call; rw [if_pos hst])
  obtain ⟨tok, sp, hf, hle, h2⟩ := h (hy.imp (fun h => h.1) (fun h => h.1))
  rw [he.1, he.2.1, he.2.2] at hf
  have hnst : ¬ (c.token < tok ∨ (tok = c.token ∧ sp = true)) := by
    intro hst
    apply hns
    unfold stale
    rw [hf]
    exact hst
  rcases hy with ⟨_, hy⟩ | ⟨hy, hy2⟩
  · omega
  · rcases h2 hy with h3 | h3
    · omega
    · have : tok ≠ c.token := fun e => hnst (.inr ⟨e, h3⟩)
      omega
theorem call_code (s : St) (c : Ca) : (call s c).2 = 1 ∨ (call s c).2 = 2 ∨ (call s c).2 = 3 := by
  rcases call_ls s c with ⟨_, h⟩ | ⟨_, sp, _, h⟩
  · rw [h]; exact .inr (.inr rfl)
  · rcases h with h | ⟨h, _⟩
    · exact .inl h
    · exact .inr (.inl h)
/-- The effects behind a call: as they were, or with the call's behind them. -/
theorem call_ef (s : St) (c : Ca) : ((call s c).1.ef = s.ef ∧ ((call s c).2 = 1 → met s.ef c.tenant c.key c.epoch c.phase = true)) ∨ ((call s c).1.ef = s.ef ++ [c] ∧ (call s c).2 = 1 ∧ met s.ef c.tenant c.key c.epoch c.phase = false) := by
  unfold call
  split
  · exact .inl ⟨rfl, fun h => by cases h⟩
  · split
    · next h => exact .inl ⟨rfl, fun _ => h⟩
    · next h =>
      split
      · exact .inl ⟨rfl, fun h => by cases h⟩
      · exact .inr ⟨rfl, rfl, by simpa using h⟩
theorem met_app (l : List Ca) (c : Ca) : met (l ++ [c]) c.tenant c.key c.epoch c.phase = true := by unfold met; rw [List.any_append]; simp
end Bk25
end Go.Proofs.Yteokiiolchpndaa
