/- SHA-256: the constants reckoned of roots: contracts of prime, primes, parts, times, above. -/
import Derived.Test.YtmpbgnopejeelaaShm
import Derived.Test.YtmpbgnopejeelaaShc
import Derived.Test.YtmpbgnopejeelaaBw
import Derived.Laws.OwnMore
namespace Go.Proofs.Ytmpbgnopejeelaa
open Go.RowKit
set_option linter.unusedVariables false
set_option linter.unusedSimpArgs false
set_option maxRecDepth 100000
namespace Rt
open Sh
def u64s (l : List Nat) : List Value := l.map (fun n : Nat => .int .u64 (n : Int))
/-- Numbers of 64 bits in a block: they may be read, and written. -/
structure U6 (w : World) (g : Nat) (l : List Nat) : Prop where
  lt : g < w.heap.size
  cell : ∀ j, j < l.length → w.cell? ⟨g, j, none⟩ = some (.int .u64 (l.getD j 0 : Nat))
  free : ∀ j, j < l.length → w.frozen? ⟨g, j, none⟩ = false
section
variable {w w1 : World} {g : Nat} {l : List Nat} {S : Nat → Prop}
theorem U6.drew (h : U6 w g l) : U6 w.drew g l := ⟨h.lt, h.cell, h.free⟩
theorem U6.frm (h : U6 w g l) (hf : Frm S w w1) (hs : ¬ S g) : U6 w1 g l :=
  ⟨Nat.lt_of_lt_of_le h.lt hf.size, fun j hj => hf.cell (h.cell j hj) hs, fun j hj => (World.frozen?_of_block (hf.block g h.lt hs)).trans (h.free j hj)⟩
theorem U6.frm0 (h : U6 w g l) (hf : Frm0 w w1) : U6 w1 g l := h.frm hf (fun h => h)
theorem U6.set (h : U6 w g l) (i v : Nat) (x : Int) (hx : x = (v : Int)) (hi : i < l.length) : U6 (w.setCell ⟨g, i, none⟩ (.int .u64 x)) g (l.set i v) := by
  subst hx
  refine ⟨by simpa [World.setCell] using h.lt, fun j hj => ?_, fun j hj => ?_⟩
  · simp only [List.length_set] at hj
    by_cases e : j = i
    · subst e
      rw [World.cell?_setCell_same _ _ _ (h.cell j hj)]
      simp [hj]
    · rw [World.cell?_setCell_other _ _ _ _ (by simp [e]), h.cell j hj]
      simp [Ne.symm e]
  · simp only [List.length_set] at hj
    rw [World.frozen?_setCell]
    exact h.free j hj
theorem U6.far (h : U6 w g l) {p : Addr} (hp : g ≠ p.block) (u : Value) : U6 (w.setCell p u) g l :=
  h.frm (S := fun k => k = p.block) ((Frm.refl (fun k => k = p.block) w).setCell p (fun _ => rfl) u) hp
theorem U6.of_blk (h : w.heap[g]? = some (.cells (u64s l).toArray 80 (0, 0))) : U6 w g l :=
  ⟨Bk.lt h, fun j hj => by rw [Bk.cell h, List.getElem?_toArray]; simp [u64s, List.getD_eq_getElem?_getD, List.getElem?_eq_getElem hj], fun j _ => Bk.frozen h j⟩
end
/-- A new row of such numbers is what is returned. -/
def Rrow (w : World) (l : List Nat) (n : Nat) (e : Ending) (w' : World) : Prop := ∃ g, e = .returned (.slice (some ⟨g, 0, none⟩) n n) ∧ w.heap.size ≤ g ∧ U6 w' g l ∧ Frm0 w w'
theorem Eu64 : Elt Try.prog 82 80 (.int .u64 0) 1 8 := Elt.mk' Try.underlying82 (by kernel_rfl) rfl (by omega)
theorem U6.of_own {w : World} {base g n cap : Nat} {l : List Nat} (hl : l.length = n) (h : w.ownsRow base 80 1 (.slice (some ⟨g, 0, none⟩) n cap) n (u64s l)) (hlt : g < w.heap.size) : U6 w g l := by
  refine ⟨hlt, fun j hj => ?_, fun j hj => ?_⟩
  · rw [h.cellAt j (by omega)]
    simp [u64s, List.getElem?_eq_getElem hj]
  · rcases h.2 with ⟨h, _⟩ | ⟨g', cap', cur, he, hb, hg, hr⟩
    · cases h
    · cases he
      exact Bk.frozen hg j
theorem made_u64 (w : World) (n : Nat) (hn : n ≤ 100000) : ∃ w', (Instr.makeSlice 82 (.int .i64 (n : Int)) (.int .i64 (n : Int))).run Try.prog w = .ok (.slice (some ⟨w.heap.size, 0, none⟩) n n) w' ∧ U6 w' w.heap.size (List.replicate n 0) ∧ Frm0 w w' := by
  obtain ⟨i, hi, hz, hsize, hby⟩ := Eu64.info
  obtain ⟨w', hr, ho, hg⟩ := run_make_full (P := Try.prog) w w.heap.size 82 80 i (.int .u64 0) 1 Eu64.und hi hz hsize .i64 .i64 n (by rw [hby]; omega) (by unfold maxLen; omega) (Nat.le_refl _)
  rw [show (Value.int .u64 0).cells = #[.int .u64 0] from rfl, toList_madeCells_one] at ho
  refine ⟨w', hr, U6.of_own (n := n) (base := w.heap.size) (cap := n) (by simp) (by simpa [u64s] using ho) (ho.lt _ rfl).2, (Frm.refl (fun _ => False) w).grown hg (fun k h => by cases h)⟩

theorem sq_small {k n : Nat} (h : k * k ≤ n) (hn : n ≤ 312) : k ≤ 17 := by
  apply Classical.byContradiction
  intro hk
  have : 18 * 18 ≤ k * k := Nat.mul_le_mul (by omega) (by omega)
  omega
theorem prm_le (n k f : Nat) (h : k * k ≤ n) : prm n k (f + 1) = if n % k = 0 then false else prm n (k + 1) f := by
  conv => lhs; unfold prm
  rw [if_pos h]
theorem prm_gt (n k f : Nat) (h : ¬ k * k ≤ n) : prm n k (f + 1) = decide (1 < n) := by
  conv => lhs; unfold prm
  rw [if_neg h]
set_option maxHeartbeats 1000000 in
theorem prime_any (n : Nat) (hn : n ≤ 312) (b : Bool) (hb : isP n = b) (w : World) : Calls Try.prog 71 #[.int .i64 n] w fun e w' => e = .returned (.bool b) ∧ w = w' := by
  have HB := Lib.hid (show prm n 2 (32 - 2) = b from hb)
  clear hb
  go_enter Try.func71, Try.ntmps71
  go_wp2_with fail
  go_loop [3] (fun i => ∃ (k : Nat), 2 ≤ k ∧ k ≤ 20 ∧ i = .int .i64 k ∧ Hid (prm n k (32 - k) = b)) (fun i => 20 - (intOf i).toNat)
  case atStart => exact ⟨2, by omega, by omega, rfl, HB⟩
  case round =>
    clear HB
    obtain ⟨k, hk2, hk, rfl, H⟩ := hrel
    have hpr := H.out
    rw [show 32 - k = (31 - k) + 1 by omega] at hpr
    obtain ⟨P, hP⟩ : ∃ P, k * k = P := ⟨_, rfl⟩
    have hPi : (k : Int) * (k : Int) = (P : Int) := by rw [← hP]; exact (Int.natCast_mul k k).symm
    have hPb : P ≤ 400 := by rw [← hP]; exact Nat.mul_le_mul hk hk
    by_cases hle : k * k ≤ n
    · have hk17 := sq_small hle hn
      rw [prm_le _ _ _ hle] at hpr
      rw [hP] at hle
      clear hP H
      by_cases hm : n % k = 0
      · have hmi : (n : Int) % (k : Int) = 0 := by omega
        rw [if_pos hm] at hpr
        subst hpr
        clear hm
        go_wp2_with fail
        go_ret
        exact ⟨rfl, rfl⟩
      · have hmb : ((n : Int) % (k : Int) == 0) = false := beq_eq_false_iff_ne.2 (by omega)
        rw [if_neg hm] at hpr
        have HN := Lib.hid hpr
        clear hpr hm
        go_wp2_with fail
        go_round
        case rel => exact ⟨k + 1, by omega, by omega, by go_num, by rw [show 32 - (k + 1) = 31 - k by omega]; exact HN⟩
        case measure => simp [intOf]; omega
    · rw [prm_gt _ _ _ hle] at hpr
      rw [hP] at hle
      have HN := Lib.hid hpr
      clear hP H hpr
      go_wp2_with fail
      go_ret
      exact ⟨ret_bool (by rw [← HN.out]; try exact decide_eq_decide.2 (by omega)), rfl⟩
theorem plist_succ_t (n : Nat) (h : isP n = true) : plist (n + 1) = plist n ++ [n] := by
  unfold plist
  rw [List.range_succ, List.filter_append]
  simp [h]
theorem plist_succ_f (n : Nat) (h : isP n = false) : plist (n + 1) = plist n := by
  unfold plist
  rw [List.range_succ, List.filter_append]
  simp [h]
def ints (l : List Nat) : List Value := wints (l.map (fun n : Nat => (n : Int)))
theorem ints_len (l : List Nat) : (ints l).length = l.length := by unfold ints; rw [wints_len, List.length_map]
theorem ints_at (l : List Nat) (k : Nat) (h : k < l.length) : (ints l)[k]? = some (.int .i64 (l.getD k 0 : Nat)) := by
  simp [ints, wints, List.getD_eq_getElem?_getD, List.getElem?_eq_getElem h]
theorem ints_app (l : List Nat) (n : Nat) : ints (l ++ [n]) = ints l ++ wints [(n : Int)] := by simp [ints, wints]
/-- A row of numbers that is returned. -/
def Irow (w : World) (l : List Nat) (e : Ending) (w' : World) : Prop := ∃ v, e = .returned v ∧ Sl w' v l.length (ints l) ∧ Frm0 w w'
set_option maxHeartbeats 1000000 in
theorem primes_any (w : World) : Calls Try.prog 55 #[] w (Irow w PR) := by
  go_enter Try.func55, Try.ntmps55
  go_wp2_with fail
  go_loopw [1, 2] (fun u i wr => ∃ (n : Nat), 2 ≤ n ∧ n ≤ 312 ∧ i = .int .i64 n ∧ wr.ownsRow w.heap.size 3 1 u (plist n).length (ints (plist n)) ∧ Frm0 w wr) (fun _ i _ => 312 - (intOf i).toNat)
  case atStart => exact ⟨2, by omega, by omega, rfl, World.ownsRow_nil _ _ _ _, Frm.refl _ _⟩
  case round =>
    obtain ⟨n, hn2, hn, rfl, hown, hF⟩ := hrel
    obtain ⟨A, c, rfl⟩ := (Sl.of_own hown).form
    by_cases hlt : n < 312
    · have h64 := plist_lt n hlt
      have hll := Lib.hid (ints_len (plist n))
      obtain ⟨b, hb⟩ : ∃ b, isP n = b := ⟨_, rfl⟩
      have HPT : b = true → Hid (plist (n + 1) = plist n ++ [n]) := fun h => Lib.hid (plist_succ_t n (hb.trans h))
      have HPF : b = false → Hid (plist (n + 1) = plist n) := fun h => Lib.hid (plist_succ_f n (hb.trans h))
      have HC := Lib.hid (fun w => prime_any n (by omega) b hb w)
      clear hb
      generalize plist n = L at *
      have h64i : (L.length : Int) < 64 := by omega
      cases b
      · have HP := HPF rfl
        clear HPT HPF
        go_wp2_with fail
        refine (HC.out _).mono ?_
        rintro e w1 ⟨rfl, rfl⟩
        go_wp2_with fail
        go_roundw
        case rel => exact ⟨n + 1, by omega, by omega, by go_num, by rw [HP.out]; exact hown, hF⟩
        case measure => simp [intOf]; omega
      · have HP := HPT rfl
        clear HPT HPF
        go_wp2_with fail
        refine (HC.out _).mono ?_
        rintro e w1 ⟨rfl, rfl⟩
        go_wp2_with (at_builtin; refine wpList_append_sl rfl (.tmp 10) (.tmp 12) rfl Ewin w.heap.size (.slice A L.length c) (.slice (some ⟨wr.heap.size, 0, none⟩) 1 1) L.length 1 (ints L) (wints [(n : Int)]) rfl rfl (hown.alloc _) (Sl.new _ _ _ 1 (by decide) (by omega)) rfl (wints_one _) (by unfold maxLen; omega) (by omega) (by have := hF.size; simp; omega) ?_; intro v2 w2 hown2 hf2 hat2)
        go_roundw
        case rel =>
          rw [← ints_app, ← HP.out] at hown2
          exact ⟨n + 1, by omega, by omega, by go_num, by rw [show (plist (n + 1)).length = L.length + 1 by rw [HP.out]; simp]; exact hown2, (hF.alloc _).then_ hf2 (fun i hi e => by have := (World.ownsRow.lt hown i e).1; omega)⟩
        case measure => simp [intOf]; omega
    · obtain rfl : n = 312 := by omega
      rw [plist_312] at hown
      go_wp2_with fail
      go_ret
      exact ⟨_, rfl, Sl.of_own hown, hF⟩
set_option maxHeartbeats 1000000 in
theorem parts_any (n : Nat) (hn : n < 18446744073709551616) (w : World) : Calls Try.prog 73 #[.int .u64 n] w (Rrow w (parts n) 4) := by
  have m1 : IntKind.u64.wrap ((n : Int) / 65536) = (n : Int) / 65536 := by rw [IntKind.wrap_u64]; omega
  have m2 : IntKind.u64.wrap ((n : Int) / 4294967296) = (n : Int) / 4294967296 := by rw [IntKind.wrap_u64]; omega
  have m3 : IntKind.u64.wrap ((n : Int) / 281474976710656) = (n : Int) / 281474976710656 := by rw [IntKind.wrap_u64]; omega
  have p1 : (0 : Int) ≤ (n : Int) / 65536 := by omega
  have p2 : (0 : Int) ≤ (n : Int) / 4294967296 := by omega
  clear hn
  go_enter Try.func73, Try.ntmps73
  go_wp2_with fail
  go_ret
  refine ⟨w.heap.size, rfl, Nat.le_refl _, U6.of_blk ?_, (Frm.refl _ _).alloc _⟩
  rw [Bk.new]
  have e1 : ((n / 65536 % 65536 : Nat) : Int) = (n : Int) / 65536 % 65536 := by omega
  have e2 : ((n / 4294967296 % 65536 : Nat) : Int) = (n : Int) / 4294967296 % 65536 := by omega
  have e3 : ((n / 281474976710656 : Nat) : Int) = (n : Int) / 281474976710656 := by omega
  have e0 : ((n % 65536 : Nat) : Int) = (n : Int) % 65536 := by omega
  simp only [u64s, parts, List.map_cons, List.map_nil, e0, e1, e2, e3]
set_option maxHeartbeats 2000000 in
theorem above_any (a : List Nat) (l g n s : Nat) (r : Bool) (hl : a.length = l) (hs : s ≤ 100) (hl9 : l ≤ 100) (hn : n < 65536) (hr : above a n s l = r) (w : World) (hA : U6 w g a) :
    Calls Try.prog 74 #[.slice (some ⟨g, 0, none⟩) l l, .int .i64 n, .int .i64 s] w fun e w' => e = .returned (.bool r) ∧ w = w' := by
  have HR := Lib.hid hr
  have HL := Lib.hid hl
  have HA := Lib.hid hA
  clear hr hl hA
  go_enter Try.func74, Try.ntmps74
  go_wp2_with fail
  go_loop [7] (fun i => ∃ (j : Nat) (m : Int), j ≤ l ∧ i = .int .i64 m ∧ m = (j : Int) - 1 ∧ Hid (above a n s j = r)) (fun i => (intOf i + 1).toNat)
  case atStart => exact ⟨l, _, Nat.le_refl _, rfl, rfl, HR⟩
  case round =>
    clear HR
    obtain ⟨j, m, hj, rfl, hm, H⟩ := hrel
    by_cases hj0 : j = 0
    · subst hj0
      obtain rfl : m = -1 := by omega
      have hr := H.out
      unfold above at hr
      subst hr
      clear hm H
      go_wp2_with fail
      go_ret
      exact ⟨rfl, rfl⟩
    · obtain ⟨i, rfl⟩ : ∃ i, j = i + 1 := ⟨j - 1, by omega⟩
      obtain rfl : m = (i : Int) := by omega
      have hc := HA.out.cell i (by rw [HL.out]; omega)
      have hili : (i : Int) < (l : Int) := by omega
      have hr := H.out
      unfold above at hr
      clear H hm hj0
      generalize a.getD i 0 = d at *
      by_cases his : i = s
      · subst his
        rw [if_pos rfl] at hr
        have hbe : ((i : Int) == (i : Int)) = true := beq_self_eq_true _
        by_cases hd : d = n
        · subst hd
          rw [if_pos rfl] at hr
          have HN := Lib.hid hr
          clear hr
          go_wp2_with fail
          go_round
          case rel => exact ⟨i, _, by omega, rfl, rfl, HN⟩
          case measure => simp [intOf] <;> omega
        · rw [if_neg hd] at hr
          have hne : ((d : Int) != (n : Int)) = true := bne_iff_ne.2 (by omega)
          have hdi : ¬ (d : Int) = (n : Int) := by omega
          have HN := Lib.hid hr
          clear hr hd
          go_wp2_with fail
          go_ret
          exact ⟨ret_bool (by rw [← HN.out]; try exact decide_eq_decide.2 (by omega)), rfl⟩
      · rw [if_neg his] at hr
        have hbe : ((i : Int) == (s : Int)) = false := beq_eq_false_iff_ne.2 (by omega)
        have hbi : ¬ (i : Int) = (s : Int) := by omega
        by_cases hd : d = 0
        · subst hd
          rw [if_pos rfl] at hr
          have HN := Lib.hid hr
          clear hr his
          go_wp2_with fail
          go_round
          case rel => exact ⟨i, _, by omega, rfl, rfl, HN⟩
          case measure => simp [intOf] <;> omega
        · rw [if_neg hd] at hr
          have hne : ((d : Int) != 0) = true := bne_iff_ne.2 (by omega)
          have hdi : ¬ (d : Int) = 0 := by omega
          have HN := Lib.hid hr
          clear hr hd his
          go_wp2_with fail
          go_ret
          exact ⟨ret_bool (by rw [← HN.out]; try exact decide_eq_decide.2 (by omega)), rfl⟩
end Rt
end Go.Proofs.Ytmpbgnopejeelaa
