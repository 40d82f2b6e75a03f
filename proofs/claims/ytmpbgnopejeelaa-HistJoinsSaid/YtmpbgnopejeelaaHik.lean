/- The walk of HistJoins. -/
import Derived.Test.YtmpbgnopejeelaaHij
import Derived.Test.YtmpbgnopejeelaaHig
import Derived.Test.YtmpbgnopejeelaaO
namespace Go.Proofs.Ytmpbgnopejeelaa
open Go.RowKit Go.ChangeShapes Go.WideShapes
set_option linter.unusedVariables false
set_option linter.unusedSimpArgs false

namespace Hs
theorem qOf_app (l m : List Int) (c : Nat) : qOf (l ++ m) c = qOf l c + qOf m c := by
  rw [qOf_count, qOf_count, qOf_count]
  unfold cls
  rw [List.map_append, List.map_append, List.count_append]
theorem qOf_perm {l m : List Int} (h : l.Perm m) : qOf l = qOf m := by
  funext c
  rw [qOf_count, qOf_count]
  exact (((h.map tm).map (fun a : Int => cellN a.toNat)).count_eq c)
theorem rev_perm (a b : List Int) : (b.reverse ++ a.reverse).Perm (a ++ b) :=
  ((List.reverse_perm b).append (List.reverse_perm a)).trans List.perm_append_comm
theorem add_small {a : Int} {hb : Nat} {l l' : List Int} {n : Nat} {w : World} (h : At w hb (qOf l) n) (hn : n < 1000000) (hl : l.length < 1000000) (hq' : l' = l ++ [a]) :
    Calls Try.prog 22 #[.pointer (some ⟨hb, 0, none⟩), .int .i64 a] w fun e w' => e = .returned (.tuple #[]) ∧ At w' hb (qOf l') (n + 1) ∧ Frm (fun k => k = hb) w w' :=
  add_to h hn (fun c => by have := qOf_le l c; omega) (by rw [hq', qOf_snoc])
theorem sl_cells {w : World} {A : Option Addr} {c : Nat} {l : List Int} (hs : Sl w (.slice A l.length c) l.length (wints l)) (k : Nat) (hk : k < l.length) : ∃ b o, A = some ⟨b, o, none⟩ ∧ w.cell? ⟨b, o + k, none⟩ = some (.int .i64 l[k]) := by
  rcases hs with ⟨A', c', he, hn, _⟩ | ⟨b, o, c', he, h0, h1, h2, _, hc⟩
  · omega
  · cases he
    exact ⟨b, o, rfl, hc k _ (wints_at l k hk)⟩

set_option maxHeartbeats 4000000 in
set_option maxRecDepth 100000 in
theorem joins_walk (a b : List Int) (v u : Value) (w : World) (hs : Sl w v a.length (wints a)) (ht : Sl w u b.length (wints b)) :
    Calls Try.prog 8 #[v, u] w fun e w' => e = .returned (.bool true) ∧ Below w.heap.size w w' := by
  have hla := hs.len
  have hlb := ht.len
  obtain ⟨A, c, rfl⟩ := hs.form
  obtain ⟨B, d, rfl⟩ := ht.form
  by_cases hbig : 40 < a.length ∨ 40 < b.length
  · have hd : decide ((40 : Int) < (a.length : Int)) = true ∨ (decide ((40 : Int) < (a.length : Int)) = false ∧ decide ((40 : Int) < (b.length : Int)) = true) := by
      simp only [decide_eq_true_eq, decide_eq_false_iff_not]; omega
    rcases hd with hd | ⟨hd, hd2⟩
    all_goals
      go_enter Try.func8, Try.ntmps8
      go_wp2_with fail
      refine (hawake _).mono ?_
      rintro e w1 ⟨rfl, hf1⟩
      go_wp2
      go_ret
      exact ⟨rfl, hf1.below (fun _ _ h => h)⟩
  have hd1 : decide ((40 : Int) < (a.length : Int)) = false := decide_eq_false (by omega)
  have hd2 : decide ((40 : Int) < (b.length : Int)) = false := decide_eq_false (by omega)
  have HA := Lib.hid (fun k hk => sl_cells hs k hk)
  have HB := Lib.hid (fun k hk => sl_cells ht k hk)
  clear hs ht
  go_enter Try.func8, Try.ntmps8
  go_wp2_with fail
  refine (hawake _).mono ?_
  rintro e w1 ⟨rfl, hf1⟩
  go_wp2_with fail
  refine (new_any _).mono ?_
  rintro e w2 ⟨rfl, hX, hf2⟩
  have hxw : w.heap.size ≤ w1.heap.size := hf1.size
  have hxy := hX.lt
  go_wp2_with fail
  refine (new_any _).mono ?_
  rintro e w3 ⟨rfl, hY, hf3⟩
  have hyz := hY.lt
  go_wp2_with fail
  refine (new_any _).mono ?_
  rintro e w4 ⟨rfl, hZ, hf4⟩
  have hX := (hX.frm0 hf3).frm0 hf4
  have hY := hY.frm0 hf4
  have hF4 := ((hf1.trans hf2).trans hf3).trans hf4
  clear hf1 hf2 hf3 hf4
  generalize w1.heap.size = xb at *
  generalize w2.heap.size = yb at *
  generalize w3.heap.size = zb at *
  go_wp2_with fail
  go_loopw [38] (fun i wr => ∃ (k : Nat), k ≤ a.length ∧ i = .int .i64 k ∧ At wr xb (qOf (a.take k)) k ∧ Frm (fun j => j = xb) w4 wr) (fun i _ => a.length - (intOf i).toNat)
  case atStart => exact ⟨0, Nat.zero_le _, rfl, hX, Frm.refl _ _⟩
  case round =>
    clear hX
    obtain ⟨k, hk, rfl, hX, hFr⟩ := hrel
    by_cases hlt : k < a.length
    · obtain ⟨b0, o0, rfl, hc⟩ := HA.out k hlt
      have hbl := World.block_lt_of_cell? w _ hc
      simp only at hbl
      have c0 := hFr.cell (hF4.cell hc (fun h => h)) (by simp only; omega)
      have hq := Lib.hid (List.take_append_getElem hlt).symm
      have hl := List.length_take (i := k) (l := a)
      have HAD := Lib.hid (fun w (h : At w xb (qOf (a.take k)) k) => add_small (w := w) h (by omega) (by omega) hq.out)
      clear hl
      generalize a[k] = x at *
      go_wp2_with fail
      refine (HAD.out _ hX).mono ?_
      rintro e w5 ⟨rfl, h5, hf5⟩
      go_wp2_with fail
      go_roundw
      case rel => exact ⟨k + 1, by omega, by go_num, h5, hFr.trans hf5⟩
      case measure => simp [intOf]; omega
    · obtain rfl : k = a.length := by omega
      have e1 := Lib.hid (List.take_length (l := a))
      rw [e1.out] at hX
      have hF5 : Frm0 w wr := hF4.then_ hFr (fun i hi e => by omega)
      have hY := hY.frm hFr (by omega)
      have hZ := hZ.frm hFr (by omega)
      clear hFr hF4 e1
      go_wp2_with fail
      generalize hwr : wr = wA at *
      clear hwr
      go_loopw [48] (fun i wr => ∃ (k : Nat), k ≤ b.length ∧ i = .int .i64 k ∧ At wr yb (qOf (b.take k)) k ∧ Frm (fun j => j = yb) wA wr) (fun i _ => b.length - (intOf i).toNat)
      case atStart => exact ⟨0, Nat.zero_le _, rfl, hY, Frm.refl _ _⟩
      case round =>
        clear hY
        obtain ⟨k, hk, rfl, hY, hFr⟩ := hrel
        by_cases hlt : k < b.length
        · obtain ⟨b0, o0, rfl, hc⟩ := HB.out k hlt
          have hbl := World.block_lt_of_cell? w _ hc
          simp only at hbl
          have c0 := hFr.cell (hF5.cell hc (fun h => h)) (by simp only; omega)
          have hq := Lib.hid (List.take_append_getElem hlt).symm
          have hl := List.length_take (i := k) (l := b)
          have HAD := Lib.hid (fun w (h : At w yb (qOf (b.take k)) k) => add_small (w := w) h (by omega) (by omega) hq.out)
          clear hl
          generalize b[k] = x at *
          go_wp2_with fail
          refine (HAD.out _ hY).mono ?_
          rintro e w5 ⟨rfl, h5, hf5⟩
          go_wp2_with fail
          go_roundw
          case rel => exact ⟨k + 1, by omega, by go_num, h5, hFr.trans hf5⟩
          case measure => simp [intOf]; omega
        · obtain rfl : k = b.length := by omega
          have e1 := Lib.hid (List.take_length (l := b))
          rw [e1.out] at hY
          have hF6 : Frm0 w wr := hF5.then_ hFr (fun i hi e => by omega)
          have hX := hX.frm hFr (by omega)
          have hZ := hZ.frm hFr (by omega)
          clear hFr hF5 e1
          go_wp2_with fail
          generalize hwr : wr = wB at *
          clear hwr
          go_loopw [12] (fun i wr => ∃ (m j : Nat), m + j = b.length ∧ i = .int .i64 ((m : Int) - 1) ∧ At wr zb (qOf (b.reverse.take j)) j ∧ Frm (fun j => j = zb) wB wr) (fun i _ => (intOf i + 1).toNat)
          case atStart => exact ⟨b.length, 0, by omega, rfl, hZ, Frm.refl _ _⟩
          case round =>
            clear hZ
            obtain ⟨m, j, hmj, rfl, hZ, hFr⟩ := hrel
            have HMJ := Lib.hid hmj
            have hmb : m ≤ b.length := by omega
            have hjb : j ≤ b.length := by omega
            clear hmj
            by_cases hm0 : 0 < m
            · obtain ⟨m', rfl⟩ : ∃ m', m = m' + 1 := ⟨m - 1, by omega⟩
              have hmlt : m' < b.length := by omega
              obtain ⟨b0, o0, rfl, hc⟩ := HB.out m' hmlt
              have hbl := World.block_lt_of_cell? w _ hc
              simp only at hbl
              have c0 := hFr.cell (hF6.cell hc (fun h => h)) (by simp only; omega)
              have hjr : j < b.reverse.length := by rw [List.length_reverse]; have := HMJ.out; omega
              have hgr : b.reverse[j] = b[m'] := by
                rw [List.getElem_reverse]
                congr 1
                have := HMJ.out; omega
              have hq := Lib.hid (List.take_append_getElem hjr).symm
              rw [hgr] at hq
              have hl := List.length_take (i := j) (l := b.reverse)
              have HAD := Lib.hid (fun w (h : At w zb (qOf (b.reverse.take j)) j) => add_small (w := w) h (by omega) (by omega) hq.out)
              clear hl hgr
              have hmi : (m' : Int) < (b.length : Int) := by omega
              have hm1 : ((m' + 1 : Nat) : Int) - 1 = (m' : Int) := by omega
              rw [hm1]
              generalize b[m'] = x at *
              go_wp2_with fail
              refine (HAD.out _ hZ).mono ?_
              rintro e w5 ⟨rfl, h5, hf5⟩
              go_wp2_with fail
              go_roundw
              case rel => exact ⟨m', j + 1, by have := HMJ.out; omega, by go_num, h5, hFr.trans hf5⟩
              case measure => simp [intOf]; try omega
            · obtain rfl : m = 0 := by omega
              rw [show ((0 : Nat) : Int) - 1 = -1 from rfl]
              obtain rfl : j = b.length := by have := HMJ.out; omega
              have e1 := Lib.hid (show b.reverse.take b.length = b.reverse by rw [List.take_of_length_le]; rw [List.length_reverse]; exact Nat.le_refl _)
              rw [e1.out] at hZ
              have hF7 : Frm0 w wr := hF6.then_ hFr (fun i hi e => by omega)
              have hX := hX.frm hFr (by omega)
              have hY := hY.frm hFr (by omega)
              clear hFr hF6 e1
              go_wp2_with fail
              generalize hwr : wr = wC at *
              clear hwr
              go_loopw [13] (fun i wr => ∃ (m j : Nat), m + j = a.length ∧ i = .int .i64 ((m : Int) - 1) ∧ At wr zb (qOf (b.reverse ++ a.reverse.take j)) (b.length + j) ∧ Frm (fun j => j = zb) wC wr) (fun i _ => (intOf i + 1).toNat)
              case atStart => exact ⟨a.length, 0, by omega, rfl, by rw [List.take_zero, List.append_nil]; exact hZ, Frm.refl _ _⟩
              case round =>
                clear hZ
                obtain ⟨m, j, hmj, rfl, hZ, hFr⟩ := hrel
                have HMJ := Lib.hid hmj
                have hmb : m ≤ a.length := by omega
                have hjb : j ≤ a.length := by omega
                clear hmj
                by_cases hm0 : 0 < m
                · obtain ⟨m', rfl⟩ : ∃ m', m = m' + 1 := ⟨m - 1, by omega⟩
                  have hmlt : m' < a.length := by omega
                  obtain ⟨b0, o0, rfl, hc⟩ := HA.out m' hmlt
                  have hbl := World.block_lt_of_cell? w _ hc
                  simp only at hbl
                  have c0 := hFr.cell (hF7.cell hc (fun h => h)) (by simp only; omega)
                  have hjr : j < a.reverse.length := by rw [List.length_reverse]; have := HMJ.out; omega
                  have hgr : a.reverse[j] = a[m'] := by
                    rw [List.getElem_reverse]
                    congr 1
                    have := HMJ.out; omega
                  have hq := Lib.hid (show b.reverse ++ a.reverse.take (j + 1) = (b.reverse ++ a.reverse.take j) ++ [a[m']] by rw [List.append_assoc, ← hgr, List.take_append_getElem hjr])
                  have hl := List.length_take (i := j) (l := a.reverse)
                  have HAD := Lib.hid (fun w (h : At w zb (qOf (b.reverse ++ a.reverse.take j)) (b.length + j)) => add_small (w := w) h (by omega) (by rw [List.length_append, List.length_reverse]; omega) hq.out)
                  clear hl hgr
                  have hmi : (m' : Int) < (a.length : Int) := by omega
                  have hm1 : ((m' + 1 : Nat) : Int) - 1 = (m' : Int) := by omega
                  rw [hm1]
                  generalize a[m'] = x at *
                  go_wp2_with fail
                  refine (HAD.out _ hZ).mono ?_
                  rintro e w5 ⟨rfl, h5, hf5⟩
                  go_wp2_with fail
                  go_roundw
                  case rel => exact ⟨m', j + 1, by have := HMJ.out; omega, by go_num, by rw [← Nat.add_assoc]; exact h5, hFr.trans hf5⟩
                  case measure => simp [intOf]; try omega
                · obtain rfl : m = 0 := by omega
                  rw [show ((0 : Nat) : Int) - 1 = -1 from rfl]
                  obtain rfl : j = a.length := by have := HMJ.out; omega
                  have e1 := Lib.hid (show a.reverse.take a.length = a.reverse by rw [List.take_of_length_le]; rw [List.length_reverse]; exact Nat.le_refl _)
                  rw [e1.out, qOf_perm (rev_perm a b), Nat.add_comm] at hZ
                  have hF8 : Frm0 w wr := hF7.then_ hFr (fun i hi e => by omega)
                  have hX := hX.frm hFr (by omega)
                  have hY := hY.frm hFr (by omega)
                  clear hFr hF7 e1
                  have HJ := Lib.hid (join_any xb yb (qOf a) (qOf b) a.length b.length wr hX hY (.inl (by omega)) (fun c => by have := qOf_le a c; omega) (fun c => by have := qOf_le b c; omega) (by omega) (by omega))
                  have hqab : (fun c => qOf a c + qOf b c) = qOf (a ++ b) := by funext c; exact (qOf_app a b c).symm
                  rw [hqab] at HJ
                  clear hX hqab
                  go_wp2_with fail
                  refine HJ.out.mono ?_
                  rintro e w5 ⟨rfl, hX, hf5⟩
                  have hY := hY.frm hf5 (by omega)
                  have hZ := hZ.frm hf5 (by omega)
                  have hF9 : Frm0 w w5 := hF8.then_ hf5 (fun i hi e => by omega)
                  clear hf5 hF8 HJ
                  go_wp2_with fail
                  refine (join_none xb _).mono ?_
                  rintro e w' ⟨rfl, rfl⟩
                  go_wp2_with fail
                  refine (join_nil _ _).mono ?_
                  rintro e w' ⟨rfl, rfl⟩
                  go_wp2_with fail
                  refine (add_nil _ _).mono ?_
                  rintro e w' ⟨rfl, rfl⟩
                  go_wp2_with fail
                  with_reducible refine (count_any xb _ _ _ hX).mono ?_
                  rintro e w' ⟨rfl, rfl⟩
                  go_wp2_with fail
                  with_reducible refine (count_any yb _ _ _ hY).mono ?_
                  rintro e w' ⟨rfl, rfl⟩
                  go_wp2_with fail
                  refine (count_nil _).mono ?_
                  rintro e w' ⟨rfl, rfl⟩
                  go_wp2_with fail
                  refine (in_nil _ _).mono ?_
                  rintro e w' ⟨rfl, rfl⟩
                  go_wp2_with fail
                  go_loop [115] (fun i => ∃ (c : Nat), c ≤ 305 ∧ i = .int .i64 c) (fun i => 305 - (intOf i).toNat)
                  case atStart => exact ⟨0, Nat.zero_le _, rfl⟩
                  case round =>
                    obtain ⟨c, hc5, rfl⟩ := hrel
                    by_cases hc : c < 305
                    · have hci : (c : Int) < 305 := by omega
                      have H1 := Lib.hid (in_any (c : Int) xb _ _ w5 hX)
                      have H2 := Lib.hid (in_any (c : Int) zb _ _ w5 hZ)
                      generalize inI (qOf (a ++ b)) (c : Int) = Q0 at *
                      go_wp2_with fail
                      with_reducible refine H1.out.mono ?_
                      rintro e w' ⟨rfl, rfl⟩
                      go_wp2_with fail
                      with_reducible refine H2.out.mono ?_
                      rintro e w' ⟨rfl, rfl⟩
                      go_wp2
                      go_round
                      case rel => exact ⟨c + 1, by omega, by go_num⟩
                      case measure => simp [intOf]; omega
                    · obtain rfl : c = 305 := by omega
                      go_wp2_with fail
                      go_loopw [126] (fun i wr => ∃ (c : Nat), c ≤ 11 ∧ i = .int .i64 c ∧ Frm0 w5 wr) (fun i _ => 11 - (intOf i).toNat)
                      case atStart => exact ⟨0, Nat.zero_le _, rfl, Frm.refl _ _⟩
                      case round =>
                        obtain ⟨c, hc5, rfl, hFr⟩ := hrel
                        have hXr := hX.frm0 hFr
                        have hZr := hZ.frm0 hFr
                        by_cases hc : c < 11
                        · have hci : (c : Int) < 11 := by omega
                          have hat : ∃ lo hi ok, Hid (∀ w hb, At w hb (qOf (a ++ b)) (a.length + b.length) → Calls Try.prog 25 #[.pointer (some ⟨hb, 0, none⟩), .int .i64 (c : Int), .int .i64 10] w fun e w' => e = .returned (.tuple #[.int .i64 lo, .int .i64 hi, .bool ok]) ∧ Frm0 w w') := by
                            by_cases h0 : a.length + b.length = 0
                            · exact ⟨0, 0, false, fun w hb h => at_none _ _ hb _ w (by rw [h0] at h; exact h)⟩
                            · exact ⟨_, _, true, fun w hb h => at_some _ _ hb _ _ w h (by omega) (by omega) (by rw [sum_qOf, List.length_append])⟩
                          obtain ⟨lo, hi, ok, HAT⟩ := hat
                          go_wp2_with fail
                          with_reducible refine (HAT.out _ _ hXr).mono ?_
                          rintro e w6 ⟨rfl, hf6⟩
                          have hZ6 := hZr.frm0 hf6
                          go_wp2_with fail
                          with_reducible refine (HAT.out _ _ hZ6).mono ?_
                          rintro e w7 ⟨rfl, hf7⟩
                          go_wp2
                          go_roundw
                          case rel => exact ⟨c + 1, by omega, by go_num, (hFr.trans hf6).trans hf7⟩
                          case measure => simp [intOf]; omega
                        · obtain rfl : c = 11 := by omega
                          have hYr := hY.frm0 hFr
                          have HJ := Lib.hid (join_any yb yb (qOf b) (qOf b) b.length b.length wr hYr hYr (.inr ⟨rfl, rfl, rfl⟩) (fun c => by have := qOf_le b c; omega) (fun c => by have := qOf_le b c; omega) (by omega) (by omega))
                          go_wp2_with fail
                          refine HJ.out.mono ?_
                          rintro e w6 ⟨rfl, hY6, hf6⟩
                          go_wp2_with fail
                          with_reducible refine (count_any yb _ _ _ hY6).mono ?_
                          rintro e w' ⟨rfl, rfl⟩
                          have hz : (((b.length + b.length : Nat) : Int) == 2 * (b.length : Int)) = true := by rw [beq_iff_eq]; omega
                          go_wp2
                          go_ret
                          have hF10 : Frm0 w w6 := (hF9.trans hFr).then_ hf6 (fun i hi e => by omega)
                          exact ⟨ret_bool (by simp; omega), hF10.below (fun _ _ h => h)⟩
end Hs
end Go.Proofs.Ytmpbgnopejeelaa
