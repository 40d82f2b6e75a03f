/- Frames: contracts of frame.Size, frame.Make, and of the reference's four, Make. -/
import Derived.Test.YthmhihmbciigdaaCrcl
namespace Go.Proofs.Ythmhihmbciigdaa
open Go.RowKit
set_option linter.unusedVariables false
set_option linter.unusedSimpArgs false

def hd (n : Nat) : ByteArray := strOfNums [(n : Int) / 256, (n : Int) % 256]
theorem hd_size (n : Nat) : (hd n).size = 2 := rfl
def mkF (s : ByteArray) : ByteArray := sealed (hd s.size) ++ sealed s
theorem conv2 (x0 x1 : Int) (w : World) : (convert 35 9 (.slice (some ⟨w.heap.size, 0, none⟩) 2 2)).run Try.prog (w.alloc (.cells #[.int .u8 x0, .int .u8 x1] 5)) = .ok (.string (strOfNums [x0, x1])) (w.alloc (.cells #[.int .u8 x0, .int .u8 x1] 5)) := by
  refine run_convert_bytes_arg _ 35 5 Try.underlying35 Try.underlying5 _ 0 2 2 [x0, x1] rfl (fun i hi => ?_) 9 Try.underlying9
  rw [Nat.zero_add, Bk.cell (Bk.new w _)]
  match i, hi with
  | 0, _ => rfl
  | 1, _ => rfl

theorem fsize_ok (n : Nat) (w : World) (hn : n ≤ 2000) : Calls Try.prog 16 #[.int .i64 n] w fun e w' => e = .returned (.int .i64 ((n : Int) + 10)) ∧ w = w' := by
  have hd1 : decide ((n : Int) < 0) = false := by simp
  have hd2 : decide (2000 < (n : Int)) = false := by simp; omega
  go_enter Try.func16, Try.ntmps16
  go_wp2
  go_ret
  exact ⟨rfl, rfl⟩
theorem fsize_no (n : Int) (w : World) (hn : n < 0 ∨ 2000 < n) : Calls Try.prog 16 #[.int .i64 n] w fun e w' => e = .returned (.int .i64 0) ∧ w = w' := by
  rcases hn with hn | hn
  · go_enter Try.func16, Try.ntmps16
    go_wp2
    go_ret
    exact ⟨rfl, rfl⟩
  · have hd1 : decide (n < 0) = false := decide_eq_false (by omega)
    have hd2 : decide (2000 < n) = true := decide_eq_true hn
    go_enter Try.func16, Try.ntmps16
    go_wp2
    go_ret
    exact ⟨rfl, rfl⟩

theorem fmake_ok (s : ByteArray) (w : World) (hs : s.size ≤ 2000) : Calls Try.prog 15 #[.string s] w fun e w' => e = .returned (.tuple #[.string (mkF s), .int .i64 0]) ∧ Frm0 w w' := by
  have hcv := conv2
  have HM := Lib.hid (show mkF s = sealed (hd s.size) ++ sealed s from rfl)
  have HD := Lib.hid (show hd s.size = strOfNums [(s.size : Int) / 256, (s.size : Int) % 256] from rfl)
  have HS1 := Lib.hid (fun w => seal_crc (hd s.size) w (by rw [hd_size]; omega))
  have HS2 := Lib.hid (fun w => seal_crc s w (by omega))
  have hz1 : (sealed (hd s.size)).size = 6 := by rw [sealed_size, hd_size]
  have hz2 : (sealed s).size = s.size + 4 := sealed_size s
  generalize sealed (hd s.size) = A1 at *
  generalize sealed s = A2 at *
  rw [HD.out] at HS1
  go_enter Try.func15, Try.ntmps15
  go_wp2_with fail
  refine (HS1.out _).mono ?_
  rintro e w1 ⟨rfl, hf1⟩
  go_wp2_with fail
  refine (HS2.out _).mono ?_
  rintro e w2 ⟨rfl, hf2⟩
  go_wp2
  go_ret2
  exact ⟨by rw [HM.out]; rfl, (((Frm.refl _ _).alloc _).trans hf1).trans hf2⟩
theorem fmake_no (s : ByteArray) (w : World) (hs : 2000 < s.size) : Calls Try.prog 15 #[.string s] w fun e w' => e = .returned (.tuple #[.string ⟨#[]⟩, .int .i64 5]) ∧ w = w' := by
  go_enter Try.func15, Try.ntmps15
  go_wp2
  go_ret2
  exact ⟨rfl, rfl⟩

theorem four_any (s : ByteArray) (w : World) (hs : s.size ≤ 4294967296) :
    Calls Try.prog 57 #[.string s] w fun e w' => e = .returned (.string (four (crcOf (bytes s)))) ∧ Frm0 w w' := by
  have hl := crcOf_lt s
  generalize hn : crcOf (bytes s) = n at *
  have HN := Lib.hid hn
  clear hn
  have HOF := Lib.hid (show ∀ w : World, s.size ≤ 9223372036854775807 → Calls Try.prog 64 #[.string s] w fun e w' => e = .returned (.int .u32 (n : Nat)) ∧ w = w' from fun w h => HN.out ▸ rof_any s w h)
  have hcv := conv4
  go_enter Try.func57, Try.ntmps57
  go_wp2_with (go_at_call 64; refine (HOF.out _ (by omega)).mono ?_; rintro e w' ⟨rfl, rfl⟩)
  go_ret
  exact ⟨rfl, (Frm.refl _ _).alloc _⟩

theorem rfmake_any (s : ByteArray) (w : World) (hs : s.size ≤ 2000) : Calls Try.prog 20 #[.string s] w fun e w' => e = .returned (.string (mkF s)) ∧ Frm0 w w' := by
  have hcv := conv2
  have HM := Lib.hid (show mkF s = hd s.size ++ four (crcOf (bytes (hd s.size))) ++ s ++ four (crcOf (bytes s)) by unfold mkF sealed; rw [ByteArray.append_assoc, ByteArray.append_assoc, ByteArray.append_assoc])
  have HD := Lib.hid (show hd s.size = strOfNums [(s.size : Int) / 256, (s.size : Int) % 256] from rfl)
  have HS1 := Lib.hid (fun w => four_any (hd s.size) w (by rw [hd_size]; omega))
  have HS2 := Lib.hid (fun w => four_any s w (by omega))
  have hz1 : (four (crcOf (bytes (hd s.size)))).size = 4 := four_size _
  have hz2 : (four (crcOf (bytes s))).size = 4 := four_size _
  have hz3 : (strOfNums [(s.size : Int) / 256, (s.size : Int) % 256]).size = 2 := rfl
  generalize four (crcOf (bytes (hd s.size))) = A1 at *
  generalize four (crcOf (bytes s)) = A2 at *
  rw [HD.out] at HS1
  have htd : (s.size : Int).tdiv 256 = (s.size : Int) / 256 := Int.tdiv_eq_ediv_of_nonneg (by omega)
  have htm : (s.size : Int).tmod 256 = (s.size : Int) % 256 := Int.tmod_eq_emod_of_nonneg (by omega)
  go_enter Try.func20, Try.ntmps20
  go_wp2_with fail
  refine (HS1.out _).mono ?_
  rintro e w1 ⟨rfl, hf1⟩
  go_wp2_with fail
  refine (HS2.out _).mono ?_
  rintro e w2 ⟨rfl, hf2⟩
  go_wp2
  go_ret
  exact ⟨by rw [HM.out, HD.out]; rfl, (((Frm.refl _ _).alloc _).trans hf1).trans hf2⟩

/-- What the first frame of any bytes is. -/
def sz (s : ByteArray) : Nat := (s.data.toList.getD 0 0).toNat * 256 + (s.data.toList.getD 1 0).toNat
def fst (s : ByteArray) : ByteArray × Nat × Nat :=
  if s.size < 6 then (⟨#[]⟩, 0, 3)
  else if sealed (s.extract 0 2) ≠ s.extract 0 6 then (⟨#[]⟩, 0, 4)
  else if 2000 < sz s then (⟨#[]⟩, 0, 5)
  else if s.size < sz s + 10 then (⟨#[]⟩, 0, 3)
  else if sealed (s.extract 6 (sz s + 6)) ≠ s.extract 6 (sz s + 10) then (⟨#[]⟩, 0, 4)
  else (s.extract 6 (sz s + 6), sz s + 10, 0)
end Go.Proofs.Ythmhihmbciigdaa
