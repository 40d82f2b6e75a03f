/- Histograms: contract of Join. -/
import Derived.Test.YtmpbgnopejeelaaHif
import Derived.Deep.MidRow
import Derived.Deep.RegionWith
namespace Go.Proofs.Ytmpbgnopejeelaa
open Go.RowKit
set_option linter.unusedVariables false
set_option linter.unusedSimpArgs false

namespace Hs
/-- The counts of the cells, as the array holds them. -/
def rowOf (q : Nat → Nat) : List Value := (List.range 305).map (fun c => .int .i64 (q c : Nat))
theorem rowOf_len (q : Nat → Nat) : (rowOf q).length = 305 := by simp [rowOf]
theorem rowOf_at (q : Nat → Nat) (c : Nat) (h : c < 305) : (rowOf q)[c]? = some (.int .i64 (q c : Nat)) := by simp [rowOf, h]
theorem At.range {w : World} {hb : Nat} {q : Nat → Nat} {n : Nat} (h : At w hb q n) : w.rangeAt hb 0 (rowOf q) := by
  intro j v hv
  have hj := (List.getElem?_eq_some_iff.1 hv).1
  rw [rowOf_len] at hj
  rw [rowOf_at q j hj] at hv
  cases hv
  rw [Nat.zero_add]
  exact h.cell j hj
theorem idx_row (cs : Array Value) (hs : cs.size = 305) (c : Nat) (v : Value) (hc : c < 305) (hv : cs[c]? = some v) (w : World) : (Instr.index 65 (.agg cs) (.int .i64 (c : Int))).run Try.prog w = .ok v w := by
  have hn : 0 ≤ (c : Int) ∧ (c : Int) < (305 : Nat) := by omega
  simp [Instr.index, run_underlying Try.underlying65, asIntOf, hn, go_sem]
  rw [if_pos hc, hv]
  rfl

/-- Joined up to a cell. -/
def part (q q2 : Nat → Nat) (c : Nat) : Nat → Nat := fun k => if k < c then q k + q2 k else q k
theorem part_set (q q2 : Nat → Nat) (c : Nat) : (fun k => if k = c then q c + q2 c else part q q2 c k) = part q q2 (c + 1) := by
  funext k
  unfold part
  by_cases h1 : k = c
  · subst h1
    rw [if_pos rfl, if_pos (by omega)]
  · rw [if_neg h1]
    by_cases h2 : k < c
    · rw [if_pos h2, if_pos (by omega)]
    · rw [if_neg h2, if_neg (by omega)]
theorem part_zero (q q2 : Nat → Nat) : part q q2 0 = q := by
  funext k
  unfold part
  rw [if_neg (Nat.not_lt_zero _)]
theorem At.ext {w : World} {hb : Nat} {q q' : Nat → Nat} {n : Nat} (h : At w hb q n) (he : ∀ c, c < 305 → q c = q' c) : At w hb q' n :=
  ⟨h.blk, fun c hc => by rw [← he c hc]; exact h.cell c hc, h.all⟩

set_option maxHeartbeats 2000000 in
set_option maxRecDepth 10000 in
theorem join_any (hb ob : Nat) (q q2 : Nat → Nat) (n n2 : Nat) (w : World) (hA : At w hb q n) (hO : At w ob q2 n2) (hcase : ob ≠ hb ∨ (ob = hb ∧ q2 = q ∧ n2 = n)) (hq : ∀ c, q c ≤ 1000000) (hq2 : ∀ c, q2 c ≤ 1000000) (hn : n ≤ 1000000) (hn2 : n2 ≤ 1000000) :
    Calls Try.prog 35 #[.pointer (some ⟨hb, 0, none⟩), .pointer (some ⟨ob, 0, none⟩)] w fun e w' => e = .returned (.tuple #[]) ∧ At w' hb (fun c => q c + q2 c) (n + n2) ∧ Frm (fun k => k = hb) w w' := by
  have hix := fun (c : Nat) (hc : c < 305) w => idx_row (rowOf q2).toArray (by simp [rowOf_len]) c _ hc (by rw [List.getElem?_toArray]; exact rowOf_at q2 c hc) w
  have HIX := Lib.hid hix
  have HQ := Lib.hid hq
  have HQ2 := Lib.hid hq2
  have HO := Lib.hid hO
  have HCS := Lib.hid hcase
  have HRG := Lib.hid hO.range
  have hsz : (Try.prog.info? 65).map (·.size) = some (rowOf q2).length := by rw [rowOf_len]; kernel_rfl
  have HSZ := Lib.hid hsz
  clear hix hq hq2 hO hcase hsz
  go_enter Try.func35, Try.ntmps35
  go_wp2_with (refine wpList_load_mid rfl 65 (.tmp 14) rfl ob 0 rfl (rowOf q2) _ HRG.out Try.underlying65 rfl HSZ.out ?_)
  generalize (rowOf q2).toArray = R at *
  go_loopw [16] (fun i wr => ∃ (c : Nat), c ≤ 305 ∧ i = .int .i64 c ∧ At wr hb (part q q2 c) n ∧ Frm (fun k => k = hb) w wr) (fun i _ => 305 - (intOf i).toNat)
  case atStart => exact ⟨0, Nat.zero_le _, rfl, by rw [part_zero]; exact hA, Frm.refl _ _⟩
  case round =>
    clear hA
    obtain ⟨c, hc5, rfl, hA, hF⟩ := hrel
    by_cases hlt : c < 305
    · have hx := HIX.out c hlt
      have hci : (c : Int) < 305 := by omega
      have hpc : part q q2 c c = q c := if_neg (Nat.lt_irrefl _)
      have c0 := hA.cell c hlt
      rw [hpc] at c0
      have fr := hA.fr c
      have h1 := HQ.out c
      have h2 := HQ2.out c
      have hset := hA.set c hlt (q c + q2 c)
      rw [part_set] at hset
      have HSET := Lib.hid hset
      have HFS := Lib.hid (hF.set1 c (.int .i64 ((q c + q2 c : Nat) : Int)))
      have e1 : ((q c + q2 c : Nat) : Int) = (q c : Int) + (q2 c : Int) := by omega
      rw [e1] at HSET HFS
      clear hset e1 hpc hA hF
      generalize q c = a at *
      generalize q2 c = b at *
      go_wp2_with fail
      go_region
      all_goals
        go_wp2
        go_roundw
        case rel => exact ⟨c + 1, by omega, by go_num, HSET.out.drew, HFS.out.drew⟩
        case measure => simp [intOf]; omega
    · obtain rfl : c = 305 := by omega
      have ca := hA.all
      have fa := hA.fr 305
      have co : wr.cell? ⟨ob, 305, none⟩ = some (.int .i64 n2) := by
        rcases HCS.out with h | ⟨h1, h2, h3⟩
        · exact hF.cell HO.out.all h
        · rw [h1, h3]; exact ca
      have hfin := (hA.setAll (n + n2)).ext (q' := fun c => q c + q2 c) (fun c hc => by unfold part; rw [if_pos hc])
      have HFIN := Lib.hid hfin
      have HFS := Lib.hid (hF.set1 305 (.int .i64 ((n + n2 : Nat) : Int)))
      have e1 : ((n + n2 : Nat) : Int) = (n : Int) + (n2 : Int) := by omega
      rw [e1] at HFIN HFS
      clear hfin e1 hA hF
      go_wp2_with fail
      go_region
      all_goals
        go_wp2
        go_returns
        exact ⟨rfl, HFIN.out.drew, HFS.out.drew⟩
theorem join_none (hb : Nat) (w : World) : Calls Try.prog 35 #[.pointer (some ⟨hb, 0, none⟩), .pointer none] w fun e w' => e = .returned (.tuple #[]) ∧ w = w' := by
  go_enter Try.func35, Try.ntmps35
  go_wp2
  go_returns
  exact ⟨rfl, rfl⟩
theorem join_nil (p : Value) (w : World) : Calls Try.prog 35 #[.pointer none, p] w fun e w' => e = .returned (.tuple #[]) ∧ w = w' := by
  go_enter Try.func35, Try.ntmps35
  go_wp2
  go_returns
  exact ⟨rfl, rfl⟩
end Hs
end Go.Proofs.Ytmpbgnopejeelaa
