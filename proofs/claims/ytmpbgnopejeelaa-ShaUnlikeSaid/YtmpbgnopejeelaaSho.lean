/- SHA-256: the constants reckoned of roots: contracts of times and Root. -/
import Derived.Test.YtmpbgnopejeelaaShn
namespace Go.Proofs.Ytmpbgnopejeelaa
open Go.RowKit
set_option linter.unusedVariables false
set_option linter.unusedSimpArgs false
set_option maxRecDepth 100000
namespace Rt
open Sh
theorem wrap_mul (x y : Nat) : IntKind.u64.wrap ((x : Int) * (y : Int)) = ((m64 (x * y) : Nat) : Int) := by
  rw [IntKind.wrap_u64, ← Int.natCast_mul]
  unfold m64
  omega
theorem wrap_add (x y : Nat) : IntKind.u64.wrap ((x : Int) + (y : Int)) = ((m64 (x + y) : Nat) : Int) := by
  rw [IntKind.wrap_u64]
  unfold m64
  omega
theorem wrap_add2 (x y : Nat) : IntKind.u64.wrap ((x : Int) + IntKind.u64.wrap ((y : Int) / 65536)) = ((m64 (x + y / 65536) : Nat) : Int) := by
  rw [IntKind.wrap_u64, IntKind.wrap_u64]
  unfold m64
  omega
set_option maxHeartbeats 4000000 in
theorem times_any (a b : List Nat) (ga gb la lb n : Nat) (hla : a.length = la) (hlb : b.length = lb) (hn : n = la + lb + 1) (h50 : n ≤ 50) (w : World) (hA : U6 w ga a) (hB : U6 w gb b) :
    Calls Try.prog 72 #[.slice (some ⟨ga, 0, none⟩) la la, .slice (some ⟨gb, 0, none⟩) lb lb] w (Rrow w (times a b) n) := by
  have HLA := Lib.hid hla
  have HLB := Lib.hid hlb
  have hni : (la : Int) + (lb : Int) + 1 = (n : Int) := by omega
  have hla50 : la ≤ 50 := by omega
  have hlb50 : lb ≤ 50 := by omega
  have HN := Lib.hid hn
  have HAA := Lib.hid hA
  have HBB := Lib.hid hB
  clear hla hlb hn hA hB
  go_enter Try.func72, Try.ntmps72
  obtain ⟨w2, hmk, hO, hf2⟩ := made_u64 w n (by omega)
  go_wp2_with fail
  clear hmk hni
  have hg9 : w.heap.size ≤ w.heap.size := Nat.le_refl _
  have hgA := HAA.out.lt
  have hgB := HBB.out.lt
  obtain ⟨g, hg⟩ : ∃ g, w.heap.size = g := ⟨_, rfl⟩
  have HG := Lib.hid hg
  rw [hg] at hO hgA hgB ⊢
  clear hg hg9
  go_loopw [6] (fun i wr => ∃ (p : Nat), p ≤ la ∧ i = .int .i64 p ∧ U6 wr g (mulAll a b (List.replicate n 0) p) ∧ Frm0 w wr) (fun i _ => la - (intOf i).toNat)
  case atStart => exact ⟨0, by omega, rfl, hO, hf2⟩
  case round =>
    clear hO hf2
    obtain ⟨p, hp, rfl, hO, hF⟩ := hrel
    by_cases hlt : p < la
    · have hpi : (p : Int) < (la : Int) := by omega
      go_wp2_with fail
      have hML : (mulAll a b (List.replicate n 0) p).length = n := by rw [mulAll_len, List.length_replicate]
      have HMS := Lib.hid (show mulAll a b (List.replicate n 0) (p + 1) = mulRow (a.getD p 0) b p (mulAll a b (List.replicate n 0) p) lb by rw [← HLB.out]; rfl)
      generalize mulAll a b (List.replicate n 0) p = M at *
      have HML := Lib.hid hML
      clear hML
      have hcA := HAA.out.cell p (by rw [HLA.out]; exact hlt)
      generalize a.getD p 0 = x at *
      have HCA := Lib.hid hcA
      clear hcA
      go_loopw [7] (fun i wq => ∃ (q : Nat), q ≤ lb ∧ i = .int .i64 q ∧ U6 wq g (mulRow x b p M q) ∧ Frm0 w wq) (fun i _ => lb - (intOf i).toNat)
      case atStart => exact ⟨0, by omega, rfl, hO, hF⟩
      case round =>
        clear hO hF
        obtain ⟨q, hq, rfl, hO, hF⟩ := hrel
        by_cases hlt2 : q < lb
        · have hqi : (q : Int) < (lb : Int) := by omega
          have hln : p + q < n := by have := HN.out; omega
          have hML : (mulRow x b p M q).length = n := by rw [mulRow_len, HML.out]
          have hc1 := hF.cell HCA.out (by intro h; exact h)
          have hc2 := hF.cell (HBB.out.cell q (by rw [HLB.out]; exact hlt2)) (by intro h; exact h)
          have hc3 := hO.cell (p + q) (by rw [hML]; exact hln)
          have hc4 := hO.free (p + q) (by rw [hML]; exact hln)
          have HMS2 := Lib.hid (show mulRow x b p M (q + 1) = (mulRow x b p M q).set (p + q) (m64 ((mulRow x b p M q).getD (p + q) 0 + m64 (x * b.getD q 0))) from rfl)
          have e3 : IntKind.i64.wrap ((p : Int) + (q : Int)) = (p : Int) + (q : Int) := IntWalk.i64_in _ (by omega)
          have n3 : (0 : Int) ≤ (p : Int) + (q : Int) := by omega
          have t3 : ((p : Int) + (q : Int)).toNat = p + q := by omega
          have m3 : (p : Int) + (q : Int) < (n : Int) := by omega
          have e4 := wrap_mul x (b.getD q 0)
          have e5 := wrap_add ((mulRow x b p M q).getD (p + q) 0) (m64 (x * b.getD q 0))
          have p0 : (0 : Int) ≤ (p : Int) := by omega
          have q0 : (0 : Int) ≤ (q : Int) := by omega
          have HML2 := Lib.hid hML
          clear hML hln
          generalize b.getD q 0 = y at *
          generalize (mulRow x b p M q).getD (p + q) 0 = z at *
          generalize m64 (x * y) = xy at *
          generalize m64 (z + xy) = zxy at *
          go_wp2_with fail
          refine st_tail 21 (by kernel_rfl) (by kernel_rfl) ?_
          simp only [List.take_succ_cons, List.take_zero, List.drop_succ_cons, List.drop_zero]
          repeat still_step
          refine wpStill_nil ?_
          go_wp2_with fail
          go_roundw
          case rel =>
            have hfin := hO.drew.set (p + q) zxy _ rfl (by rw [HML2.out]; have := HN.out; omega)
            rw [← HMS2.out] at hfin
            exact ⟨q + 1, by omega, by go_num, hfin, hF.drew.setCell ⟨g, p + q, none⟩ (fun h => absurd h (by rw [HG.out]; exact Nat.lt_irrefl g)) _⟩
          case measure => simp [intOf]; omega
        · obtain rfl : q = lb := by omega
          rw [← HMS.out] at hO
          go_wp2_with fail
          go_roundw
          case rel => exact ⟨p + 1, by omega, by go_num, hO, hF⟩
          case measure => simp [intOf]; omega
    · obtain rfl : p = la := by omega
      go_wp2_with fail
      have HTM := Lib.hid (show times a b = carry (mulAll a b (List.replicate n 0) p) (n - 1) by rw [HN.out, ← HLA.out, ← HLB.out]; rfl)
      have hML : (mulAll a b (List.replicate n 0) p).length = n := by rw [mulAll_len, List.length_replicate]
      generalize mulAll a b (List.replicate n 0) p = M at *
      have HML := Lib.hid hML
      clear hML
      have hn1 : 1 ≤ n := by have := HN.out; omega
      go_loopw [8] (fun i wq => ∃ (q : Nat), q + 1 ≤ n ∧ i = .int .i64 q ∧ U6 wq g (carry M q) ∧ Frm0 w wq) (fun i _ => n - (intOf i).toNat)
      case atStart => exact ⟨0, by omega, rfl, hO, hF⟩
      case round =>
        clear hO hF
        obtain ⟨q, hq, rfl, hO, hF⟩ := hrel
        have hML : (carry M q).length = n := by rw [carry_len, HML.out]
        have q0 : (0 : Int) ≤ (q : Int) := by omega
        have e3 : IntKind.i64.wrap ((q : Int) + 1) = (q : Int) + 1 := IntWalk.i64_in _ (by omega)
        have n3 : (0 : Int) ≤ (q : Int) + 1 := by omega
        have t3 : ((q : Int) + 1).toNat = q + 1 := by omega
        by_cases hlt2 : q + 1 < n
        · have hqi : (q : Int) + 1 < (n : Int) := by omega
          have hqi0 : (q : Int) < (n : Int) := by omega
          have hc1 := hO.cell q (by rw [hML]; omega)
          have hc2 := hO.cell (q + 1) (by rw [hML]; omega)
          have hc3 := hO.free (q + 1) (by rw [hML]; omega)
          have hc5 := hO.free q (by rw [hML]; omega)
          have HMS2 := Lib.hid (show carry M (q + 1) = ((carry M q).set (q + 1) (m64 ((carry M q).getD (q + 1) 0 + (carry M q).getD q 0 / 65536))).set q ((carry M q).getD q 0 % 65536) from rfl)
          have e5 := wrap_add2 ((carry M q).getD (q + 1) 0) ((carry M q).getD q 0)
          have HML2 := Lib.hid hML
          clear hML
          generalize (carry M q).getD q 0 = x at *
          generalize (carry M q).getD (q + 1) 0 = z at *
          generalize m64 (z + x / 65536) = zx at *
          go_wp2_with fail
          refine st_tail 15 (by kernel_rfl) (by kernel_rfl) ?_
          simp only [List.take_succ_cons, List.take_zero, List.drop_succ_cons, List.drop_zero]
          repeat still_step
          refine wpStill_nil ?_
          go_wp2_with fail
          go_roundw
          case rel =>
            have h1 := hO.drew.set (q + 1) zx _ rfl (by rw [HML2.out]; omega)
            have h2 := h1.set q (x % 65536) ((x : Int) % 65536) (by omega) (by rw [List.length_set, HML2.out]; omega)
            rw [← HMS2.out] at h2
            exact ⟨q + 1, by omega, by go_num, h2, (hF.drew.setCell ⟨g, q + 1, none⟩ (fun h => absurd h (by rw [HG.out]; exact Nat.lt_irrefl g)) _).setCell ⟨g, q, none⟩ (fun h => absurd h (by rw [HG.out]; exact Nat.lt_irrefl g)) _⟩
          case measure => simp [intOf]; omega
        · have hqi : ¬ (q : Int) + 1 < (n : Int) := by omega
          rw [show n - 1 = q by omega] at HTM
          rw [← HTM.out] at hO
          clear hML
          go_wp2_with fail
          go_ret
          exact ⟨g, rfl, by rw [HG.out]; exact Nat.le_refl _, hO, hF⟩
/-- The pieces that are added. -/
def bitN (j : Nat) : Nat := 1099511627776 / 2 ^ j
theorem bitN_succ (j : Nat) : bitN (j + 1) = bitN j / 2 := by unfold bitN; rw [Nat.div_div_eq_div_mul, Nat.pow_succ]
theorem bitN_pos : ∀ j, j < 41 → 0 < bitN j := by decide
theorem bitN_41 : bitN 41 = 0 := by decide
theorem bitN_le (j : Nat) : bitN j ≤ 1099511627776 := Nat.div_le_self _ _
theorem root_succ (n k j : Nat) : root n k (j + 1) = if above (pwr k (root n k j + bitN j)) n (if k = 3 then 6 else 4) (pwr k (root n k j + bitN j)).length then root n k j else root n k j + bitN j := rfl
end Rt
end Go.Proofs.Ytmpbgnopejeelaa
