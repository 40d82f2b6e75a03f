/- Check sums: the laws CrcAny and CrcTexts are walked; what is sealed is opened, with its own sum alone. -/
import Derived.Test.YthmhihmbciigdaaCrc
import Derived.Deep.RegionHeld3
namespace Go.Proofs.Ythmhihmbciigdaa
open Go.RowKit CrcMath
set_option linter.unusedVariables false

theorem four_size (n : Nat) : (four n).size = 4 := rfl
theorem sealed_size (s : ByteArray) : (sealed s).size = s.size + 4 := by unfold sealed; rw [ByteArray.size_append, four_size]
theorem extract_app (a b : ByteArray) : (a ++ b).extract 0 a.size = a := by
  rw [ByteArray.extract_append]
  simp
theorem sealed_head (s : ByteArray) : (sealed s).extract 0 ((sealed s).size - 4) = s := by
  rw [sealed_size, Nat.add_sub_cancel]
  exact extract_app _ _
theorem open_sealed (s : ByteArray) (w : World) (hs : s.size ≤ 4294967200) :
    Calls Try.prog 56 #[.string (sealed s)] w fun e w' => e = .returned (.tuple #[.string s, .bool true]) ∧ Frm0 w w' := by
  have h := open_yes (sealed s) w (by rw [sealed_size]; omega) (by rw [sealed_size]; omega) (by rw [sealed_head])
  rwa [sealed_head] at h

end Go.Proofs.Ythmhihmbciigdaa
