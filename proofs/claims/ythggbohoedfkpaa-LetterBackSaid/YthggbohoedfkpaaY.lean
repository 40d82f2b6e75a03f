/- The bytes of a text, as numbers. -/
import Derived.Test.YthggbohoedfkpaaL
import Derived.Laws.BytesArg
namespace Go.Proofs.Ythggbohoedfkpaa
open Go.RowKit
def bytes (s : ByteArray) : List Nat := s.data.toList.map UInt8.toNat
theorem bytes_len (s : ByteArray) : (bytes s).length = s.size := by unfold bytes; rw [List.length_map, Array.length_toList]; rfl
theorem bytes_lt (s : ByteArray) : ∀ b ∈ bytes s, b < 256 := by
  intro b hb
  obtain ⟨u, _, rfl⟩ := List.mem_map.1 hb
  exact u.toNat_lt
theorem bytes_append (a b : ByteArray) : bytes (a ++ b) = bytes a ++ bytes b := by
  unfold bytes
  rw [ByteArray.data_append, Array.toList_append, List.map_append]
theorem bytes_inj {a b : ByteArray} (h : bytes a = bytes b) : a = b := by
  unfold bytes at h
  have h2 : a.data.toList = b.data.toList := by
    refine List.map_inj_right (fun x y e => ?_) |>.1 h
    exact UInt8.toNat_inj.1 e
  cases a; cases b
  simp only at h2
  congr 1
  exact Array.toList_inj.1 h2
theorem bytes_extract (s : ByteArray) (i j : Nat) : bytes (s.extract i j) = ((bytes s).drop i).take (j - i) := by
  unfold bytes
  rw [ByteArray.data_extract, Array.toList_extract, List.extract_eq_take_drop]
  simp
end Go.Proofs.Ythggbohoedfkpaa
