/- All frames of any bytes: the model of Split. -/
import Derived.Test.YthmhihmbciigdaaFrc
namespace Go.Proofs.Ythmhihmbciigdaa
open Go.RowKit
set_option linter.unusedVariables false
set_option linter.unusedSimpArgs false

/-- From a place on: contents, where it ends, what is told. -/
def splitN : Nat → ByteArray → Nat → List ByteArray × Nat × Nat
  | 0, _, at_ => ([], at_, 0)
  | f + 1, s, at_ =>
    if at_ < s.size then
      (if (fst (s.extract at_ s.size)).2.2 = 0 then
        ((fst (s.extract at_ s.size)).1 :: (splitN f s (at_ + (fst (s.extract at_ s.size)).2.1)).1, (splitN f s (at_ + (fst (s.extract at_ s.size)).2.1)).2)
      else ([], at_, (fst (s.extract at_ s.size)).2.2))
    else ([], at_, 0)
theorem fst_some {s : ByteArray} (h : (fst s).2.2 = 0) : (fst s).2.1 = sz s + 10 ∧ (fst s).2.1 ≤ s.size := by
  unfold fst at h ⊢
  split at h
  · exact absurd h (by decide : ¬ (3 : Nat) = 0)
  · split at h
    · exact absurd h (by decide : ¬ (4 : Nat) = 0)
    · split at h
      · exact absurd h (by decide : ¬ (5 : Nat) = 0)
      · split at h
        · exact absurd h (by decide : ¬ (3 : Nat) = 0)
        · split at h
          · exact absurd h (by decide : ¬ (4 : Nat) = 0)
          · rename_i h1 h2 h3 h4 h5
            rw [if_neg h1, if_neg h2, if_neg h3, if_neg h4, if_neg h5]
            exact ⟨rfl, by simp only; omega⟩
end Go.Proofs.Ythmhihmbciigdaa
