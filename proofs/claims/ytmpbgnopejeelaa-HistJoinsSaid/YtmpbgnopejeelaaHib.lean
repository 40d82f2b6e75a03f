/- Cells of numbers: contracts of bits.Len, Cell, Least, Most and the reference's. -/
import Derived.Test.YtmpbgnopejeelaaHia
import Derived.Test.YtmpbgnopejeelaaNum
import Derived.Laws.BitsAllLaws
import Derived.Lib.Strings
import Derived.Lib.Slices
import Derived.Lib.Small
import Derived.Lib.BitFns
import Derived.Lib.Walk
namespace Go.Proofs.Ytmpbgnopejeelaa
open Go.RowKit
set_option linter.unusedVariables false
set_option linter.unusedSimpArgs false

theorem bl8 : ∀ b, b < 256 → Lib.bitLen b = blen b := by decide +kernel
theorem lt8 : ∀ k (h : k < Lib.len8tab.size), ((Lib.len8tab[k]).toNat) = blen k := by decide +kernel
theorem bl8' (b : Int) (h0 : 0 ≤ b) (h1 : b ≤ 255) : Lib.len8 b = (blen b.toNat : Int) := by rw [Lib.len8_of b h0 h1, bl8 _ (by omega)]
theorem blen_s8 {n : Nat} (h : 256 ≤ n) : blen n = 8 + blen (n / 256) := blen_shift (s := 8) h
theorem blen_s16 {n : Nat} (h : 65536 ≤ n) : blen n = 16 + blen (n / 65536) := blen_shift (s := 16) h
theorem blen_s24 {n : Nat} (h : 16777216 ≤ n) : blen n = 24 + blen (n / 16777216) := blen_shift (s := 24) h
theorem blen_s32 {n : Nat} (h : 4294967296 ≤ n) : blen n = 32 + blen (n / 4294967296) := blen_shift (s := 32) h
theorem blen_s40 {n : Nat} (h : 1099511627776 ≤ n) : blen n = 40 + blen (n / 1099511627776) := blen_shift (s := 40) h
theorem blen_le {n k : Nat} (h : n < 2 ^ k) : blen n ≤ k := by
  by_cases h0 : n = 0
  · subst h0; exact Nat.zero_le _
  · obtain ⟨j, e, h1, h2⟩ := blen_bd h0
    rw [e]
    rcases Nat.lt_or_ge j k with hj | hj
    · exact hj
    · have := Nat.pow_le_pow_right (show 0 < 2 by omega) hj
      omega
theorem fin_k (k : Nat) {b y z : Nat} (h : b = k + blen y) (e : z = y) (hb : b ≤ 41) : wrap64 ((k : Int) + wrap64 (blen z : Int)) = (b : Int) := by
  subst e
  unfold wrap64
  omega
set_option maxHeartbeats 4000000 in
set_option maxRecDepth 100000 in
theorem len64_any (x : Int) (w : World) (h0 : 0 ≤ x) (h1 : x ≤ 1099511627776) :
    Calls Try.prog 70 #[.int .u64 x] w fun e w' => e = .returned (.int .i64 (blen x.toNat)) ∧ w = w' := by
  have hb := blen_le (n := x.toNat) (k := 41) (by omega)
  have t9 := Try.underlying9
  go_enter Try.func70, Try.ntmps70
  go_wp2
  all_goals first
    | (exfalso; rw [Lib.len8tab_size] at *; omega)
    | (go_ret
       refine ⟨congrArg Ending.returned (congrArg (Value.int IntKind.i64) ?_), rfl⟩
       rw [lt8]
       first
         | exact fin_k 40 (blen_s40 (n := x.toNat) (by omega)) (by omega) hb
         | exact fin_k 32 (blen_s32 (n := x.toNat) (by omega)) (by omega) hb
         | exact fin_k 24 (blen_s24 (n := x.toNat) (by omega)) (by omega) hb
         | exact fin_k 16 (blen_s16 (n := x.toNat) (by omega)) (by omega) hb
         | exact fin_k 8 (blen_s8 (n := x.toNat) (by omega)) (by omega) hb
         | (unfold wrap64; omega))
theorem len_bits (x : Int) (w : World) (h0 : 0 ≤ x) (h1 : x ≤ 1099511627776) :
    Calls Try.prog 51 #[.int .u64 x] w fun e w' => e = .returned (.int .i64 (blen x.toNat)) ∧ w = w' := by
  go_enter Try.func51, Try.ntmps51
  go_wp2_with (go_at_call 70; refine (len64_any x _ h0 h1).mono ?_; rintro e w' ⟨rfl, rfl⟩)
  go_ret
  exact ⟨rfl, rfl⟩
end Go.Proofs.Ytmpbgnopejeelaa
