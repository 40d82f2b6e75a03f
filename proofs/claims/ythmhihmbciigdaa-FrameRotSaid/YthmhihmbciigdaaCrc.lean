/- What crc and its reference answer: contracts of byteMore, Next, Of, Seal, Open, and of the reference's Of and Seal, for every text. -/
import Derived.Test.YthmhihmbciigdaaProg
import Derived.Test.YthmhihmbciigdaaL
import Derived.Test.YthmhihmbciigdaaY
import Derived.Test.YthmhihmbciigdaaCrcm
import Derived.Laws.BitsAllLaws
import Derived.Laws.BytesArg
namespace Go.Proofs.Ythmhihmbciigdaa
open Go.RowKit CrcMath
set_option linter.unusedVariables false

theorem and_one (x : Nat) (h : x < 4294967296) : bits .and .u32 (x : Int) 1 = ((x % 2 : Nat) : Int) := by
  have := (bits_nat .u32 32 (by decide) (fun n h0 h1 => by rw [IntKind.wrap_u32]; omega) x 1 (by omega) (by omega)).1
  rw [show ((1 : Nat) : Int) = 1 from rfl] at this
  rw [this, Nat.and_one_is_mod]

theorem Tn_step (k x : Nat) : Tn (k + 1) x = T (Tn k x) := Tn_add k 1 x
theorem step_odd {x : Nat} (hx : x < 4294967296) (h : (bits .and .u32 (x : Int) 1 == 1) = true) : bits .xor .u32 ((x : Int) / 2) 3988292384 = ((T x : Nat) : Int) := by
  rw [and_one x hx] at h
  have h1 : x % 2 = 1 := by
    have := beq_iff_eq.1 h
    omega
  have e : ((x : Int) / 2) = ((x / 2 : Nat) : Int) := by omega
  unfold T
  rw [if_pos h1, e]
  exact u32_xor_nat (x / 2) poly (by omega) (by unfold poly; omega)
theorem step_even {x : Nat} (hx : x < 4294967296) (h : (bits .and .u32 (x : Int) 1 == 1) = false) : ((x : Int) / 2) = ((T x : Nat) : Int) := by
  rw [and_one x hx] at h
  have h1 : ¬ x % 2 = 1 := by
    have := beq_eq_false_iff_ne.1 h
    omega
  unfold T
  rw [if_neg h1]
  omega
theorem bytes_step (n : Nat) (s : ByteArray) (k : Nat) (h : k < s.size) : run n ((bytes s).take (k + 1)) = B (run n ((bytes s).take k)) (s[k]).toNat := by
  rw [List.take_add_one, List.getElem?_eq_getElem (by rw [bytes_len]; exact h), run_append]
  simp [bytes, run]
  rfl
theorem run_lt {n : Nat} (hn : n < 4294967296) : ∀ {l : List Nat}, (∀ b ∈ l, b < 256) → run n l < 4294967296 := by
  intro l
  induction l generalizing n with
  | nil => intro _; exact hn
  | cons b l ih =>
    intro h
    have hb := h b (by simp)
    exact ih (n := B n b) (Tn_lt (n := 8) (Nat.xor_lt_two_pow (n := 32) hn (by omega))) (fun x hx => h x (by simp [hx]))
def inv32 (n : Nat) : Nat := 4294967295 - n
theorem inv32_lt (n : Nat) : inv32 n < 4294967296 := by unfold inv32; omega
theorem inv32_inv {n : Nat} (h : n < 4294967296) : inv32 (inv32 n) = n := by unfold inv32; omega
theorem xor_ones (n : Nat) (h : n < 4294967296) : 4294967295 ^^^ n = inv32 n := by
  have e : (BitVec.allOnes 32 ^^^ BitVec.ofNat 32 n).toNat = (~~~ BitVec.ofNat 32 n).toNat := by rw [BitVec.allOnes_xor]
  rw [BitVec.toNat_xor, BitVec.toNat_not, BitVec.toNat_allOnes, BitVec.toNat_ofNat, Nat.mod_eq_of_lt (by omega)] at e
  unfold inv32
  exact e
theorem not32 (n : Nat) (h : n < 4294967296) : bits .xor .u32 IntKind.u32.max (n : Int) = ((inv32 n : Nat) : Int) := by
  have := u32_xor_nat 4294967295 n (by omega) h
  rw [xor_ones n h] at this
  exact this
/-- The sum of a text behind what has a sum. -/
def crcNext (n : Nat) (l : List Nat) : Nat := inv32 (run (inv32 n) l)
def crcOf (l : List Nat) : Nat := crcNext 0 l
theorem crcNext_lt (n : Nat) (l : List Nat) : crcNext n l < 4294967296 := inv32_lt _
theorem crcOf_lt (s : ByteArray) : crcOf (bytes s) < 4294967296 := crcNext_lt _ _
/-- The four bytes of a sum. -/
def four (n : Nat) : ByteArray := strOfNums [(n : Int) / 16777216, (n : Int) / 65536 % 256, (n : Int) / 256 % 256, (n : Int) % 256]
def sealed (s : ByteArray) : ByteArray := s ++ four (crcOf (bytes s))
theorem conv4 (x0 x1 x2 x3 : Int) (w : World) : (convert 35 9 (.slice (some ⟨w.heap.size, 0, none⟩) 4 4)).run Try.prog (w.alloc (.cells #[.int .u8 x0, .int .u8 x1, .int .u8 x2, .int .u8 x3] 5)) = .ok (.string (strOfNums [x0, x1, x2, x3])) (w.alloc (.cells #[.int .u8 x0, .int .u8 x1, .int .u8 x2, .int .u8 x3] 5)) := by
  refine run_convert_bytes_arg _ 35 5 Try.underlying35 Try.underlying5 _ 0 4 4 [x0, x1, x2, x3] rfl (fun i hi => ?_) 9 Try.underlying9
  rw [Nat.zero_add, Bk.cell (Bk.new w _)]
  match i, hi with
  | 0, _ => rfl
  | 1, _ => rfl
  | 2, _ => rfl
  | 3, _ => rfl
theorem bytemore_any (s b : Nat) (w : World) (hs : s < 4294967296) (hb : b < 256) :
    Calls Try.prog 66 #[.int .u32 s, .int .u8 b] w fun e w' => e = .returned (.int .u32 (B s b : Nat)) ∧ w = w' := by
  have hx0 : bits .xor .u32 (s : Int) (b : Int) = ((s ^^^ b : Nat) : Int) := u32_xor_nat s b hs (by omega)
  have hlt : s ^^^ b < 4294967296 := Nat.xor_lt_two_pow (n := 32) hs (by omega)
  go_enter Try.func66, Try.ntmps66
  go_wp2
  go_loop [0, 10] (fun n i => ∃ k : Nat, k ≤ 8 ∧ i = .int .i64 k ∧ n = .int .u32 (Tn k (s ^^^ b) : Nat)) (fun _ i => 8 - (intOf i).toNat)
  case atStart => exact ⟨0, by omega, rfl, rfl⟩
  case round =>
    obtain ⟨k, hk, rfl, rfl⟩ := hrel
    have hxl : Tn k (s ^^^ b) < 4294967296 := Tn_lt (n := k) hlt
    by_cases hk8 : k < 8
    · have hst := Tn_step k (s ^^^ b)
      have HST := Lib.hid hst
      clear hst
      generalize Tn k (s ^^^ b) = x at *
      go_wp2
      · go_round
        case rel => exact ⟨k + 1, by omega, by go_num, by rw [HST.out, step_odd hxl (by assumption)]⟩
        case measure => simp [intOf]; omega
      · go_round
        case rel => exact ⟨k + 1, by omega, by go_num, by rw [HST.out, step_even hxl (by assumption)]⟩
        case measure => simp [intOf]; omega
    · obtain rfl : k = 8 := by omega
      go_wp2
      go_ret
      exact ⟨rfl, rfl⟩

theorem next_crc (n : Nat) (s : ByteArray) (w : World) (hn : n < 4294967296) (hs : s.size ≤ 9223372036854775807) :
    Calls Try.prog 65 #[.int .u32 n, .string s] w fun e w' => e = .returned (.int .u32 (crcNext n (bytes s) : Nat)) ∧ w = w' := by
  go_enter Try.func65, Try.ntmps65
  go_wp2
  go_loop [5, 11] (fun n' i => ∃ k : Nat, k ≤ s.size ∧ i = .int .i64 k ∧ n' = .int .u32 (run (inv32 n) ((bytes s).take k) : Nat)) (fun _ i => s.size - (intOf i).toNat)
  case atStart => exact ⟨0, by omega, rfl, by rw [not32 n hn]; rfl⟩
  case round =>
    obtain ⟨k, hk, rfl, rfl⟩ := hrel
    have hl := run_lt (n := inv32 n) (inv32_lt n) (l := (bytes s).take k) (fun b hb => bytes_lt s b (List.mem_of_mem_take hb))
    by_cases hlt : k < s.size
    · have hst := bytes_step (inv32 n) s k hlt
      have HST := Lib.hid hst
      clear hst
      have hb : (s[k]).toNat < 256 := (s[k]).toNat_lt
      generalize run (inv32 n) ((bytes s).take k) = x at *
      go_wp2_with (go_at_call 66; refine (bytemore_any _ _ _ hl hb).mono ?_; rintro e w' ⟨rfl, rfl⟩)
      go_round
      case rel => exact ⟨k + 1, by omega, by go_num, by rw [HST.out]⟩
      case measure => simp [intOf]; omega
    · obtain rfl : k = s.size := by omega
      go_wp2
      go_ret
      exact ⟨ret_int (by rw [not32 _ hl]; unfold crcNext; rw [List.take_of_length_le (by rw [bytes_len]; omega)]), rfl⟩

theorem of_crc (s : ByteArray) (w : World) (hs : s.size ≤ 9223372036854775807) :
    Calls Try.prog 63 #[.string s] w fun e w' => e = .returned (.int .u32 (crcOf (bytes s) : Nat)) ∧ w = w' := by
  go_enter Try.func63, Try.ntmps63
  go_wp2_with (go_at_call 65; refine (next_crc 0 s _ (by omega) hs).mono ?_; rintro e w' ⟨rfl, rfl⟩)
  go_ret
  exact ⟨rfl, rfl⟩
theorem seal_crc (s : ByteArray) (w : World) (hs : s.size ≤ 4294967296) :
    Calls Try.prog 55 #[.string s] w fun e w' => e = .returned (.string (sealed s)) ∧ Frm0 w w' := by
  have hl := crcOf_lt s
  have HSD := Lib.hid (show sealed s = s ++ four (crcOf (bytes s)) from rfl)
  generalize hn : crcOf (bytes s) = n at *
  have HN := Lib.hid hn
  clear hn
  have HOF := Lib.hid (show ∀ w : World, s.size ≤ 9223372036854775807 → Calls Try.prog 63 #[.string s] w fun e w' => e = .returned (.int .u32 (n : Nat)) ∧ w = w' from fun w h => HN.out ▸ of_crc s w h)
  have hcv := conv4
  have hss : ∀ x0 x1 x2 x3 : Int, (strOfNums [x0, x1, x2, x3]).size = 4 := fun _ _ _ _ => rfl
  go_enter Try.func55, Try.ntmps55
  go_wp2_with (go_at_call 63; refine (HOF.out _ (by omega)).mono ?_; rintro e w' ⟨rfl, rfl⟩)
  go_ret
  exact ⟨by rw [HSD.out]; rfl, (Frm.refl _ _).alloc _⟩
theorem open_short (s : ByteArray) (w : World) (hs : s.size < 4) :
    Calls Try.prog 56 #[.string s] w fun e w' => e = .returned (.tuple #[.string ⟨#[]⟩, .bool false]) ∧ w = w' := by
  go_enter Try.func56, Try.ntmps56
  go_wp2
  go_ret2
  exact ⟨rfl, rfl⟩
theorem open_yes (s : ByteArray) (w : World) (hs : s.size ≤ 4294967296) (h4 : 4 ≤ s.size) (h : sealed (s.extract 0 (s.size - 4)) = s) :
    Calls Try.prog 56 #[.string s] w fun e w' => e = .returned (.tuple #[.string (s.extract 0 (s.size - 4)), .bool true]) ∧ Frm0 w w' := by
  have HO := Lib.hid (show ∀ w, Calls Try.prog 55 #[.string (s.extract 0 (s.size - 4))] w fun e w' => e = .returned (.string s) ∧ Frm0 w w' from fun w => by
    have := seal_crc (s.extract 0 (s.size - 4)) w (by rw [ByteArray.size_extract]; omega)
    rwa [h] at this)
  clear h
  go_enter Try.func56, Try.ntmps56
  go_wp2_with fail
  refine (HO.out _).mono ?_
  rintro e w1 ⟨rfl, hf⟩
  go_wp2
  go_ret2
  exact ⟨rfl, hf⟩
theorem open_no (s : ByteArray) (w : World) (hs : s.size ≤ 4294967296) (h4 : 4 ≤ s.size) (h : sealed (s.extract 0 (s.size - 4)) ≠ s) :
    Calls Try.prog 56 #[.string s] w fun e w' => e = .returned (.tuple #[.string ⟨#[]⟩, .bool false]) ∧ Frm0 w w' := by
  go_enter Try.func56, Try.ntmps56
  go_wp2_with fail
  refine (seal_crc _ _ (by rw [ByteArray.size_extract]; omega)).mono ?_
  rintro e w1 ⟨rfl, hf⟩
  have hb := str_ne h
  clear h
  go_wp2
  go_ret2
  exact ⟨rfl, hf⟩

theorem par_xor (b y j : Nat) (hb : b < 256) : bits .xor .u32 (((b : Int) / 2 ^ j).tmod 2) ((y : Int) % 2) = ((y ^^^ b / 2 ^ j : Nat) % 2 : Nat) := by
  have e : ((b : Int) / 2 ^ j) = ((b / 2 ^ j : Nat) : Int) := by simp
  have e2 : ((b / 2 ^ j : Nat) : Int).tmod 2 = ((b / 2 ^ j % 2 : Nat) : Int) := by
    generalize b / 2 ^ j = p
    rw [Int.tmod_eq_emod_of_nonneg (Int.natCast_nonneg _)]; omega
  have e3 : ((y : Int) % 2) = ((y % 2 : Nat) : Int) := by omega
  rw [e, e2, e3, u32_xor_nat _ _ (by omega) (by omega), xor_mod2]
  generalize b / 2 ^ j = p
  rcases Nat.mod_two_eq_zero_or_one y with h | h <;> rcases Nat.mod_two_eq_zero_or_one p with h' | h' <;> rw [h, h'] <;> rfl
theorem rof_odd {b y z j : Nat} (hb : b < 256) (hy : y < 4294967296) (hz : y ^^^ b / 2 ^ j = z) (h : (bits .xor .u32 (((b : Int) / 2 ^ j).tmod 2) ((y : Int) % 2) == 1) = true) :
    bits .xor .u32 ((y : Int) / 2) 3988292384 = ((y / 2 ^^^ poly : Nat) : Int) ∧ (y / 2 ^^^ poly) ^^^ b / 2 ^ (j + 1) = T z ∧ y / 2 ^^^ poly < 4294967296 := by
  rw [par_xor b y j hb, hz] at h
  have h1 : z % 2 = 1 := by have := beq_iff_eq.1 h; omega
  refine ⟨?_, ?_, Nat.xor_lt_two_pow (n := 32) (by omega) (by unfold poly; omega)⟩
  · rw [show ((y : Int) / 2) = ((y / 2 : Nat) : Int) by omega]
    exact u32_xor_nat (y / 2) poly (by omega) (by unfold poly; omega)
  · unfold T
    rw [if_pos h1, ← hz, xor_div2, Nat.pow_succ, Nat.div_div_eq_div_mul]
    rw [Nat.xor_assoc, Nat.xor_comm poly, ← Nat.xor_assoc]
theorem rof_even {b y z j : Nat} (hb : b < 256) (hy : y < 4294967296) (hz : y ^^^ b / 2 ^ j = z) (h : (bits .xor .u32 (((b : Int) / 2 ^ j).tmod 2) ((y : Int) % 2) == 1) = false) :
    ((y : Int) / 2) = ((y / 2 : Nat) : Int) ∧ (y / 2) ^^^ b / 2 ^ (j + 1) = T z ∧ y / 2 < 4294967296 := by
  rw [par_xor b y j hb, hz] at h
  have h1 : ¬ z % 2 = 1 := by have := beq_eq_false_iff_ne.1 h; omega
  refine ⟨by omega, ?_, by omega⟩
  unfold T
  rw [if_neg h1, ← hz, xor_div2, Nat.pow_succ, Nat.div_div_eq_div_mul]
set_option maxRecDepth 100000 in
theorem rof_any (s : ByteArray) (w : World) (hs : s.size ≤ 9223372036854775807) :
    Calls Try.prog 64 #[.string s] w fun e w' => e = .returned (.int .u32 (crcOf (bytes s) : Nat)) ∧ w = w' := by
  go_enter Try.func64, Try.ntmps64
  go_wp2
  go_loop [3, 4] (fun n' i => ∃ k : Nat, k ≤ s.size ∧ i = .int .i64 k ∧ n' = .int .u32 (run 4294967295 ((bytes s).take k) : Nat)) (fun _ i => s.size - (intOf i).toNat)
  case atStart => exact ⟨0, by omega, rfl, rfl⟩
  case round =>
    obtain ⟨k, hk, rfl, rfl⟩ := hrel
    have hl := run_lt (n := 4294967295) (by omega) (l := (bytes s).take k) (fun b hb => bytes_lt s b (List.mem_of_mem_take hb))
    by_cases hlt : k < s.size
    · have hst := bytes_step 4294967295 s k hlt
      have HST := Lib.hid hst
      clear hst
      have hb : (s[k]).toNat < 256 := (s[k]).toNat_lt
      generalize run 4294967295 ((bytes s).take k) = x at *
      go_wp2
      go_loop [3, 5] (fun n' i => ∃ j : Nat, j ≤ 8 ∧ i = .int .i64 j ∧ ∃ y : Nat, y < 4294967296 ∧ n' = .int .u32 y ∧ Hid (y ^^^ (s[k]).toNat / 2 ^ j = Tn j (x ^^^ (s[k]).toNat))) (fun _ i => 8 - (intOf i).toNat)
      case atStart => exact ⟨0, by omega, rfl, x, hl, rfl, by show x ^^^ (s[k]).toNat / 2 ^ 0 = _; rw [Nat.pow_zero, Nat.div_one]; rfl⟩
      case round =>
        obtain ⟨j, hj, rfl, y, hy, rfl, HY⟩ := hrel
        by_cases hj8 : j < 8
        · have hts := Lib.hid (Tn_step j (x ^^^ (s[k]).toNat))
          go_wp2
          · have h := rof_odd hb hy HY.out (by assumption)
            go_round
            case rel => exact ⟨j + 1, by omega, by go_num, _, h.2.2, by rw [h.1], h.2.1.trans hts.out.symm⟩
            case measure => simp [intOf]; omega
          · have h := rof_even hb hy HY.out (by assumption)
            go_round
            case rel => exact ⟨j + 1, by omega, by go_num, _, h.2.2, by rw [h.1], h.2.1.trans hts.out.symm⟩
            case measure => simp [intOf]; omega
        · obtain rfl : j = 8 := by omega
          have hy8 : y = B x (s[k]).toNat := by
            have := HY.out
            rw [show (s[k]).toNat / 2 ^ 8 = 0 by omega, Nat.xor_zero] at this
            exact this
          have HY8 := Lib.hid hy8
          clear hy8
          go_wp2
          go_round
          case rel => exact ⟨k + 1, by omega, by go_num, by rw [HST.out, HY8.out]⟩
          case measure => simp [intOf]; omega
    · obtain rfl : k = s.size := by omega
      go_wp2
      go_ret
      rw [List.take_of_length_le (by rw [bytes_len]; omega)] at hl ⊢
      exact ⟨ret_int (by unfold crcOf crcNext inv32; rw [show 4294967295 - 0 = 4294967295 from rfl]; omega), rfl⟩

end Go.Proofs.Ythmhihmbciigdaa
