/- Bytes in a block: texts turned to bytes, written, and turned back. -/
import Derived.Test.YthggbohoedfkpaaM
import Derived.Test.YthggbohoedfkpaaY
import Derived.Lib.ConvBytes
namespace Go.Proofs.Ythggbohoedfkpaa
open Go.RowKit
set_option linter.unusedVariables false
set_option linter.unusedSimpArgs false

/-- Bytes in a block: they may be read, and written. -/
structure Bts (w : World) (g : Nat) (l : List Nat) : Prop where
  lt : g < w.heap.size
  cell : ∀ j, j < l.length → w.cell? ⟨g, j, none⟩ = some (.int .u8 (l.getD j 0 : Nat))
  free : ∀ j, j < l.length → w.frozen? ⟨g, j, none⟩ = false
theorem Bts.new (w : World) (s : ByteArray) : Bts (Lib.bytesWorld w 5 s) w.heap.size (bytes s) := by
  refine ⟨by rw [Lib.bytesWorld_size]; omega, fun j hj => ?_, fun j hj => ?_⟩
  · rw [bytes_len] at hj
    rw [Lib.bytesWorld_cell w _ s j hj]
    congr 2
    unfold bytes
    have hj' : j < s.data.toList.length := by rw [Array.length_toList]; exact hj
    rw [List.getD_eq_getElem?_getD, List.getD_eq_getElem?_getD, List.getElem?_map, List.getElem?_eq_getElem hj']
    rfl
  · rw [bytes_len] at hj
    have := Lib.bytesWorld_at_new w 5 s
    have hz : j < (Lib.bytesCells w 5 s).size := by
      unfold Lib.bytesCells
      rw [Array.size_append, Array.size_map]
      have : s.data.size = s.size := rfl
      omega
    unfold World.frozen?
    simp only [this]
    rw [Bool.and_eq_false_iff]
    left
    simp; omega
theorem Bts.drewN {w : World} {g : Nat} {l : List Nat} (h : Bts w g l) (n : Nat) : Bts (w.drewN n) g l := ⟨h.lt, h.cell, h.free⟩
theorem Bts.drew {w : World} {g : Nat} {l : List Nat} (h : Bts w g l) : Bts w.drew g l := ⟨h.lt, h.cell, h.free⟩
theorem Bts.frm {S : Nat → Prop} {w w1 : World} {g : Nat} {l : List Nat} (h : Bts w g l) (hf : Frm S w w1) (hs : ¬ S g) : Bts w1 g l :=
  ⟨Nat.lt_of_lt_of_le h.lt hf.size, fun j hj => hf.cell (h.cell j hj) hs, fun j hj => (World.frozen?_of_block (hf.block g h.lt hs)).trans (h.free j hj)⟩
theorem Bts.set {w : World} {g : Nat} {l : List Nat} (h : Bts w g l) (i v : Nat) (hi : i < l.length) : Bts (w.setCell ⟨g, i, none⟩ (.int .u8 (v : Nat))) g (l.set i v) := by
  refine ⟨by simpa [World.setCell] using h.lt, fun j hj => ?_, fun j hj => ?_⟩
  · simp only [List.length_set] at hj
    by_cases e : j = i
    · subst e
      rw [World.cell?_setCell_same _ _ _ (h.cell j hj)]
      simp [hj]
    · rw [World.cell?_setCell_other _ _ _ _ (by simp [e]), h.cell j hj]
      simp [Ne.symm e]
  · simp only [List.length_set] at hj
    rw [World.frozen?_setCell]
    exact h.free j hj

theorem frm_bytes (w : World) (e : TypeId) (s : ByteArray) : Frm0 w (Lib.bytesWorld w e s) :=
  ⟨rfl, rfl, rfl, by rw [Lib.bytesWorld_size]; omega, fun k hk _ => Lib.bytesWorld_at_old w e s k hk⟩
/-- The text of such bytes. -/
def txt (l : List Nat) : ByteArray := strOfNums (l.map (fun n : Nat => (n : Int)))
theorem txt_size (l : List Nat) : (txt l).size = l.length := by unfold txt; rw [strOfNums_size, List.length_map]
theorem bytes_txt {l : List Nat} (h : ∀ b ∈ l, b < 256) : bytes (txt l) = l := by
  unfold txt bytes
  rw [strOfNums_data]
  simp only [List.map_map]
  conv => rhs; rw [← List.map_id l]
  refine List.map_congr_left fun b hb => ?_
  have := h b hb
  simp [Nat.mod_eq_of_lt this]
theorem Bts.conv {w : World} {g n : Nat} {l : List Nat} (h : Bts w g l) (hn : l.length = n) (cap : Nat) : (convert 81 9 (.slice (some ⟨g, 0, none⟩) n cap)).run Try.prog w = .ok (.string (txt l)) w := by
  exact run_convert_bytes_arg (P := Try.prog) w 81 5 Try.underlying81 Try.underlying5 g 0 n cap (l.map (fun n : Nat => (n : Int))) (by rw [List.length_map, hn]) (fun i hi => by
        rw [Nat.zero_add, h.cell i (by omega)]
        simp [List.getElem?_eq_getElem (show i < l.length by omega)]) 9 Try.underlying9
end Go.Proofs.Ythggbohoedfkpaa
