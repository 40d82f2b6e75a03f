/- The walks of FrameRot and FrameLong, at a byte as the row has it. -/
import Derived.Test.YthmhihmbciigdaaFrm
namespace Go.Proofs.Ythmhihmbciigdaa
open Go.RowKit Go.WideShapes
theorem frot_u8 (l : List ByteArray) (at_ b : Int) (v : Value) (w : World) (hs : Sl w v l.length (strs l)) (hsz : ∀ x ∈ l, x.size ≤ 9223372036854775807) (hb : 0 ≤ b ∧ b ≤ 255) :
    Calls Try.prog 7 #[v, .int .i64 at_, .int .u8 b] w fun e w' => e = .returned (.bool true) ∧ Below w.heap.size w w' := by
  obtain ⟨m, rfl⟩ := Int.eq_ofNat_of_zero_le hb.1
  exact frot_walk l at_ m v w hs hsz (by omega)
theorem flong_u8 (n b : Int) (w : World) (hb : 0 ≤ b ∧ b ≤ 255) :
    Calls Try.prog 4 #[.int .i64 n, .int .u8 b] w fun e w' => e = .returned (.bool true) ∧ Below w.heap.size w w' := by
  obtain ⟨m, rfl⟩ := Int.eq_ofNat_of_zero_le hb.1
  exact flong_walk n m w (by omega)
end Go.Proofs.Ythmhihmbciigdaa
