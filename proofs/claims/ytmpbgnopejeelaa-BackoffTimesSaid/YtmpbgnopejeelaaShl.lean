/- The reference's Sum is the program's; the walk of ShaUnlike. -/
import Derived.Test.YtmpbgnopejeelaaShk
namespace Go.Proofs.Ytmpbgnopejeelaa
open Go.RowKit
set_option linter.unusedVariables false
set_option linter.unusedSimpArgs false
set_option maxRecDepth 100000
namespace Sh
theorem rsum_any (s : ByteArray) (hs : s.size ≤ 100000) (w : World) : Calls Try.prog 32 #[.string s] w fun e w' => e = .returned (.string (dig (bytes s))) ∧ Frm0 w w' := by
  have hb : ∀ b ∈ bytes s ++ pad s.size, b < 256 := fun b h => (List.mem_append.1 h).elim (bytes_lt s b) (pad_lt _ b)
  have hl : (bytes s ++ pad s.size).length = s.size + (pad s.size).length := by rw [List.length_append, bytes_len]
  have hp := pad_all s.size
  have hpl := pad_len s.size
  have hz : padz s.size < 64 := by unfold padz; omega
  have hT : (txt (bytes s ++ pad s.size)).size = 64 * ((s.size + (pad s.size).length) / 64) := by rw [txt_size, hl]; omega
  have h := rsum' KK KK_len (fun _ => rfl) table_any s (txt (bytes s ++ pad s.size)) _ hT (by rw [txt_size, hl]; omega) (padded_any s hs) w
  have e : dig (bytes s) = txt (outB (blocks V0 (bytes (txt (bytes s ++ pad s.size))) ((s.size + (pad s.size).length) / 64))) := by
    unfold dig digB
    rw [bytes_txt hb, bytes_len, hl]
  rw [e]
  exact h
end Sh
end Go.Proofs.Ytmpbgnopejeelaa
