/- The walk of PackReads. -/
import Derived.Test.YthmhihmbciigdaaPkl
import Derived.Deep.RegionHeld3
namespace Go.Proofs.Ythmhihmbciigdaa
open Go.RowKit Go.ChangeShapes Go.WideShapes
set_option linter.unusedVariables false
set_option linter.unusedSimpArgs false
namespace Pk
theorem empty_is (s : ByteArray) : (s.toList == (⟨#[]⟩ : ByteArray).toList) = decide (s.size = 0) := by
  by_cases h : s.size = 0
  · have e : s = ⟨#[]⟩ := bytes_inj (List.eq_nil_of_length_eq_zero (by rw [bytes_len]; exact h))
    subst e
    rw [decide_eq_true h]
    exact beq_iff_eq.2 rfl
  · rw [decide_eq_false h, beq_eq_false_iff_ne]
    intro e
    rw [str_inj e] at h
    exact h rfl
theorem empty_is2 (s : ByteArray) : (!false && decide (s.size = 0)) = s.toList.isEmpty := by
  rw [Bool.eq_iff_iff]
  rw [ByteArray.toList_eq]
  simp
  exact ⟨fun e => by rw [e]; rfl, fun e => by cases s; simp only at e; subst e; rfl⟩
theorem quiet_same {P : Program} {f : FuncId} {args : Array Value} {w : World} {n : Nat} {v : Value}
    (h : Calls P f args (w.drewN n) fun e w' => e = .returned v ∧ w.drewN n = w') : Calls P f args (w.drewN n) fun e w'' => e = .returned v ∧ ∃ m, w'' = w.drewN m :=
  h.mono fun _ _ ⟨he, hm⟩ => ⟨he, n, hm.symm⟩
theorem heldO {w w' : World} {bb sb ob : Nat} {x : Bool} {S : ByteArray} (h : w'.cell? ⟨bb, 0, none⟩ = some (.bool x) ∧ w'.cell? ⟨sb, 0, none⟩ = some (.string S) ∧ w'.heap[bb]? = some (.cells #[.bool x] 4 (0, 0)) ∧ w'.heap[sb]? = some (.cells #[.string S] 9 (0, 0)) ∧ Op w' ob S x ∧ Frm0 w w') : Op w' ob S x := h.2.2.2.2.1
set_option maxHeartbeats 4000000 in
set_option maxRecDepth 100000 in
theorem reads_walk (s : ByteArray) (v : Value) (l : List PItem) (w : World) (hs : Sl w v l.length (l.flatMap PItem.cells)) (hg : ∀ a ∈ l, PItem.Good a) (hsz : s.size ≤ maxLen) :
    Calls Try.prog 11 #[.string s, v] w fun e w' => e = .returned (.bool true) ∧ Below w.heap.size w w' := by
  have hlen := hs.len
  obtain ⟨A, c, rfl⟩ := hs.form
  have hF0 := (Frm.refl (fun _ => False) w).alloc (.cells #[.string s] 9)
  have hs0 := Bk.new w (.cells #[.string s] 9)
  have hsw : w.heap.size < (w.alloc (.cells #[.string s] 9)).heap.size := by simp
  by_cases hbig : 60 < s.size ∨ 20 < l.length
  · have hcs : (decide ((60 : Int) < (s.size : Int)) = true ∧ 60 < s.size) ∨ (decide ((60 : Int) < (s.size : Int)) = false ∧ ¬ 60 < s.size ∧ decide ((20 : Int) < (l.length : Int)) = true ∧ 20 < l.length) := by
      simp only [decide_eq_true_eq, decide_eq_false_iff_not]; omega
    clear hbig hg hs hlen
    rcases hcs with ⟨d1, d2⟩ | ⟨d1, d2, d3, d4⟩
    all_goals
      go_enter Try.func11, Try.ntmps11
      go_wp2_with fail
      refine (kawake _).mono ?_
      rintro e w1 ⟨rfl, hf1⟩
      have s1 : w1.cell? ⟨w.heap.size, 0, none⟩ = some (.string s) := Bk.cell (hf1.blk hs0 (fun h => h)) 0
      go_wp2
      go_ret
      exact ⟨rfl, (hF0.trans hf1).below (fun _ _ h => h)⟩
  have hcell : ∀ k (hk : k < l.length), ∃ b o, A = some ⟨b, o, none⟩ ∧ w.cell? ⟨b, o + k * 3, none⟩ = some (.int .u8 (l[k]).kind) ∧ w.cell? ⟨b, o + k * 3 + 1, none⟩ = some (.int .i64 (l[k]).n) ∧ w.cell? ⟨b, o + k * 3 + 2, none⟩ = some (.string (l[k]).s) ∧ (0 ≤ (l[k]).kind ∧ (l[k]).kind ≤ 255) ∧ (l[k]).s.size ≤ maxLen := by
    intro k hk
    rcases hs with ⟨A', c', _, hn, _⟩ | ⟨b, o, c', he, h0, h1, h2, h3, h4⟩
    · omega
    · cases he
      obtain ⟨x0, x1, x2⟩ := pitem_at h4 k hk
      have gg := hg _ (List.getElem_mem hk)
      exact ⟨b, o, rfl, x0, x1, x2, bounds_u8 gg.kind, gg.s⟩
  have HC := Lib.hid hcell
  clear hcell hs hg
  have hz0 : s.size ≤ 60 := by omega
  have d2 : decide ((60 : Int) < (s.size : Int)) = false := decide_eq_false (by omega)
  have d3 : decide ((20 : Int) < (l.length : Int)) = false := decide_eq_false (by omega)
  have d4 : ¬ 60 < s.size := by omega
  have d5 : ¬ 20 < l.length := by omega
  clear hbig
  go_enter Try.func11, Try.ntmps11
  go_wp2_with fail
  refine (kawake _).mono ?_
  rintro e w1 ⟨rfl, hf1⟩
  have hs1 := hf1.blk hs0 (fun h => h)
  have s1 : w1.cell? ⟨w.heap.size, 0, none⟩ = some (.string s) := Bk.cell hs1 0
  have hF1 := hF0.trans hf1
  have hlt1 := Bk.lt hs1
  clear hF0 hs0 hsw hf1
  go_wp2_with fail
  refine (open_any s _).mono ?_
  rintro e w2 ⟨rfl, hO, hf2⟩
  have hs2 := hf2.blk hs1 (fun h => h)
  have hF2 := hF1.trans hf2
  have hob := hO.lt
  generalize w1.heap.size = ob at *
  clear hF1 hs1 hf2 s1
  have hb3 : (w2.alloc (.cells #[.bool false] 4)).heap[w2.heap.size]? = some (.cells #[.bool false] 4 (0, 0)) := Bk.new w2 _
  have hs3 : (w2.alloc (.cells #[.bool false] 4)).heap[w.heap.size]? = some (.cells #[.string s] 9 (0, 0)) := Bk.alloc hs2 _
  have hO3 : Op (w2.alloc (.cells #[.bool false] 4)) ob s false := ⟨Bk.alloc hO.blk _⟩
  have hF3 : Frm0 w (w2.alloc (.cells #[.bool false] 4)) := hF2.alloc _
  have hsw2 : w.heap.size ≤ w2.heap.size := hF2.size
  clear hs2 hF2 hO
  go_wp2_with fail
  generalize w2.heap.size = bb at *
  go_loopw [31] (fun i wr => ∃ (k : Nat) (S : ByteArray) (B : Bool), k ≤ l.length ∧ i = .int .i64 k ∧ S.size ≤ 60 ∧ wr.heap[bb]? = some (.cells #[.bool B] 4 (0, 0)) ∧ wr.heap[w.heap.size]? = some (.cells #[.string S] 9 (0, 0)) ∧ Op wr ob S B ∧ Frm0 w wr) (fun i _ => l.length - (intOf i).toNat)
  case atStart => exact ⟨0, s, false, by omega, rfl, hz0, hb3, hs3, hO3, hF3⟩
  case round =>
    clear hb3 hs3 hO3 hF3
    obtain ⟨k, S, B, hk, rfl, hz, hb, hs, hO, hF⟩ := hrel
    by_cases hlt : k < l.length
    · obtain ⟨b, o, rfl, c0, c1, c2, hkd, hsm'⟩ := HC.out k hlt
      have c0 := hF.cell c0 (fun h => h)
      have c1 := hF.cell c1 (fun h => h)
      have c2 := hF.cell c2 (fun h => h)
      generalize (l[k]).kind = kd at *
      generalize (l[k]).s = y at *
      generalize (l[k]).n = n at *
      have hO2 := hO.frm ((Frm.refl (fun _ => False) wr).alloc (.cells #[.int .u8 kd, .int .i64 n, .string y] 72)) (fun h => h)
      have hF2 := hF.alloc (.cells #[.int .u8 kd, .int .i64 n, .string y] 72)
      have hb2 := Bk.alloc hb (.cells #[.int .u8 kd, .int .i64 n, .string y] 72)
      have hs2 := Bk.alloc hs (.cells #[.int .u8 kd, .int .i64 n, .string y] 72)
      have hbD := Bk.new wr (.cells #[.int .u8 kd, .int .i64 n, .string y] 72)
      have hDo := hO.lt
      have hDb := Bk.lt hb
      have hDs := Bk.lt hs
      have x1 : (wr.alloc (.cells #[.int .u8 kd, .int .i64 n, .string y] 72)).cell? ⟨wr.heap.size, 1, none⟩ = some (.int .i64 n) := Bk.cell hbD 1
      clear hO hF hb hs
      have k3 : kd % 3 = 0 ∨ kd % 3 = 1 ∨ kd % 3 = 2 := by omega
      rcases k3 with k3 | k3 | k3
      · obtain ⟨r, Sx, S', B', hst, hz4, H1, H2⟩ := num_all n S B hz
        have HC1 := Lib.hid H1
        have HO2 := Lib.hid H2
        clear H1 H2
        have hrr : (r == r) = true := beq_iff_eq.2 rfl
        go_wp2_with fail
        refine (HC1.out _ _ _ hb2 hs2).mono ?_
        rintro e w3 ⟨rfl, hb3, hs3, hf3⟩
        have x13 := hf3.cell x1 (by first | (simp; omega) | simp)
        have hO3 := hO2.frm hf3 (by omega)
        have hF3 := hF2.then_ hf3 (fun i hi e => by omega)
        go_wp2_with fail
        refine (HO2.out _ _ hO3).mono ?_
        rintro e w4 ⟨rfl, hO4, hf4⟩
        have hb4 := hf4.blk hb3 (by omega)
        have hs4 := hf4.blk hs3 (by omega)
        have hF4 := hF3.then_ hf4 (fun i hi e => by omega)
        clear HC1 HO2 hb3 hs3 hO3 hF3 x13 hb2 hs2 hO2 hF2 x1
        rcases hst with ⟨rfl, rfl⟩ | ⟨rfl, rfl⟩
        · have hs6 : (w4.setCell ⟨w.heap.size, 0, none⟩ (.string ⟨#[]⟩)).heap[w.heap.size]? = some (.cells #[.string ⟨#[]⟩] 9 (0, 0)) := Bk.set hs4 0 _
          have hb6 : (w4.setCell ⟨w.heap.size, 0, none⟩ (.string ⟨#[]⟩)).heap[bb]? = some (.cells #[.bool true] 4 (0, 0)) := Bk.far hb4 (by first | (simp; omega) | simp) _
          have hO6 : Op (w4.setCell ⟨w.heap.size, 0, none⟩ (.string ⟨#[]⟩)) ob ⟨#[]⟩ true := ⟨Bk.far hO4.blk (by first | (simp; omega) | simp) _⟩
          have hF6 : Frm0 w (w4.setCell ⟨w.heap.size, 0, none⟩ (.string ⟨#[]⟩)) := hF4.setCell _ (fun h => absurd h (Nat.lt_irrefl _)) _
          have fs4 := Bk.frozen hs4 0
          have s4 : w4.cell? ⟨w.heap.size, 0, none⟩ = some (.string Sx) := Bk.cell hs4 0
          have b6 : (w4.setCell ⟨w.heap.size, 0, none⟩ (.string ⟨#[]⟩)).cell? ⟨bb, 0, none⟩ = some (.bool true) := Bk.cell hb6 0
          have s6 : (w4.setCell ⟨w.heap.size, 0, none⟩ (.string ⟨#[]⟩)).cell? ⟨w.heap.size, 0, none⟩ = some (.string ⟨#[]⟩) := Bk.cell hs6 0
          have b4 : w4.cell? ⟨bb, 0, none⟩ = some (.bool true) := Bk.cell hb4 0
          have HOO := Lib.hid (fun w h => ook_any ob ⟨#[]⟩ true w h)
          have HLF := Lib.hid (fun w h => left_any ob ⟨#[]⟩ true w h)
          have HDN := Lib.hid (fun w h => done_any ob ⟨#[]⟩ true w h)
          have hl0 : left ⟨#[]⟩ true = 0 := rfl
          rw [hl0] at HLF
          clear hl0
          have hd0 : (!true && decide ((⟨#[]⟩ : ByteArray).size = 0)) = false := rfl
          rw [hd0] at HDN
          go_wp2_with fail
          go_quiet ((first
              | (go_at_call 49; exact quiet_same (HOO.out _ ⟨hO6.blk⟩))
              | (go_at_call 54; exact quiet_same (HLF.out _ ⟨hO6.blk⟩))
              | (go_at_call 50; exact quiet_same (HDN.out _ ⟨hO6.blk⟩))))
          have hO7 : Op _ ob ⟨#[]⟩ true := ⟨Bk.drewN hO6.blk nq⟩
          have hb7 := Bk.drewN hb6 nq
          have hs7 := Bk.drewN hs6 nq
          have hF7 := hF6.drewN nq
          clear HOO HLF HDN b6 s6 b4 hs6 hb6 hO6 hF6
          go_wp2_with fail
          go_roundw
          case rel => exact ⟨k + 1, ⟨#[]⟩, true, by omega, by go_num, by decide, hb7, hs7, hO7, hF7⟩
          case measure => simp [intOf]; omega
        · have hs6 := hs4
          have hb6 := hb4
          have hO6 := hO4
          have hF6 := hF4
          have b6 : w4.cell? ⟨bb, 0, none⟩ = some (.bool false) := Bk.cell hb6 0
          have s6 : w4.cell? ⟨w.heap.size, 0, none⟩ = some (.string Sx) := Bk.cell hs6 0
          have b4 : w4.cell? ⟨bb, 0, none⟩ = some (.bool false) := Bk.cell hb4 0
          have HOO := Lib.hid (fun w h => ook_any ob Sx false w h)
          have HLF := Lib.hid (fun w h => left_any ob Sx false w h)
          have HDN := Lib.hid (fun w h => done_any ob Sx false w h)
          have hl0 : left Sx false = Sx.size := rfl
          rw [hl0] at HLF
          clear hl0
          have hd0 : (!false && decide (Sx.size = 0)) = Sx.toList.isEmpty := empty_is2 Sx
          rw [hd0] at HDN
          clear hd0
          have hqq : (Sx.toList.isEmpty == Sx.toList.isEmpty) = true := beq_iff_eq.2 rfl
          go_wp2_with fail
          go_quiet ((first
              | (go_at_call 49; exact quiet_same (HOO.out _ ⟨hO6.blk⟩))
              | (go_at_call 54; exact quiet_same (HLF.out _ ⟨hO6.blk⟩))
              | (go_at_call 50; exact quiet_same (HDN.out _ ⟨hO6.blk⟩))))
          have hO7 : Op _ ob Sx false := ⟨Bk.drewN hO6.blk nq⟩
          have hb7 := Bk.drewN hb6 nq
          have hs7 := Bk.drewN hs6 nq
          have hF7 := hF6.drewN nq
          clear HOO HLF HDN b6 s6 b4 hs6 hb6 hO6 hF6
          go_wp2_with fail
          go_roundw
          case rel => exact ⟨k + 1, Sx, false, by omega, by go_num, hz4, hb7, hs7, hO7, hF7⟩
          case measure => simp [intOf]; omega
      · obtain ⟨r1, S1, B1, r, Sx, S', B', hst, hz4, H0, H1, H2⟩ := text_both n S B hz
        have HC0 := Lib.hid H0
        have HC1 := Lib.hid H1
        have HO2 := Lib.hid H2
        clear H0 H1 H2
        have hrr : (r.toList == r.toList) = true := beq_iff_eq.2 rfl
        go_wp2_with fail
        refine (HC0.out _ _ _ hb2 hs2).mono ?_
        rintro e w30 ⟨rfl, hb30, hs30, hf30⟩
        go_wp2_with fail
        refine (HC1.out _ _ _ hb30 hs30).mono ?_
        rintro e w3 ⟨rfl, hb3, hs3, hf31⟩
        have hf3 := hf30.trans hf31
        have x13 := hf3.cell x1 (by first | (simp; omega) | simp)
        have hO3 := hO2.frm hf3 (by omega)
        have hF3 := hF2.then_ hf3 (fun i hi e => by omega)
        go_wp2_with fail
        refine (HO2.out _ _ hO3).mono ?_
        rintro e w4 ⟨rfl, hO4, hf4⟩
        have hb4 := hf4.blk hb3 (by omega)
        have hs4 := hf4.blk hs3 (by omega)
        have hF4 := hF3.then_ hf4 (fun i hi e => by omega)
        clear HC1 HO2 hb3 hs3 hO3 hF3 x13 hb2 hs2 hO2 hF2 x1
        rcases hst with ⟨rfl, rfl⟩ | ⟨rfl, rfl⟩
        · have hs6 : (w4.setCell ⟨w.heap.size, 0, none⟩ (.string ⟨#[]⟩)).heap[w.heap.size]? = some (.cells #[.string ⟨#[]⟩] 9 (0, 0)) := Bk.set hs4 0 _
          have hb6 : (w4.setCell ⟨w.heap.size, 0, none⟩ (.string ⟨#[]⟩)).heap[bb]? = some (.cells #[.bool true] 4 (0, 0)) := Bk.far hb4 (by first | (simp; omega) | simp) _
          have hO6 : Op (w4.setCell ⟨w.heap.size, 0, none⟩ (.string ⟨#[]⟩)) ob ⟨#[]⟩ true := ⟨Bk.far hO4.blk (by first | (simp; omega) | simp) _⟩
          have hF6 : Frm0 w (w4.setCell ⟨w.heap.size, 0, none⟩ (.string ⟨#[]⟩)) := hF4.setCell _ (fun h => absurd h (Nat.lt_irrefl _)) _
          have fs4 := Bk.frozen hs4 0
          have s4 : w4.cell? ⟨w.heap.size, 0, none⟩ = some (.string Sx) := Bk.cell hs4 0
          have b6 : (w4.setCell ⟨w.heap.size, 0, none⟩ (.string ⟨#[]⟩)).cell? ⟨bb, 0, none⟩ = some (.bool true) := Bk.cell hb6 0
          have s6 : (w4.setCell ⟨w.heap.size, 0, none⟩ (.string ⟨#[]⟩)).cell? ⟨w.heap.size, 0, none⟩ = some (.string ⟨#[]⟩) := Bk.cell hs6 0
          have b4 : w4.cell? ⟨bb, 0, none⟩ = some (.bool true) := Bk.cell hb4 0
          have HOO := Lib.hid (fun w h => ook_any ob ⟨#[]⟩ true w h)
          have HLF := Lib.hid (fun w h => left_any ob ⟨#[]⟩ true w h)
          have HDN := Lib.hid (fun w h => done_any ob ⟨#[]⟩ true w h)
          have hl0 : left ⟨#[]⟩ true = 0 := rfl
          rw [hl0] at HLF
          clear hl0
          have hd0 : (!true && decide ((⟨#[]⟩ : ByteArray).size = 0)) = false := rfl
          rw [hd0] at HDN
          go_wp2_with fail
          go_quiet ((first
              | (go_at_call 49; exact quiet_same (HOO.out _ ⟨hO6.blk⟩))
              | (go_at_call 54; exact quiet_same (HLF.out _ ⟨hO6.blk⟩))
              | (go_at_call 50; exact quiet_same (HDN.out _ ⟨hO6.blk⟩))))
          have hO7 : Op _ ob ⟨#[]⟩ true := ⟨Bk.drewN hO6.blk nq⟩
          have hb7 := Bk.drewN hb6 nq
          have hs7 := Bk.drewN hs6 nq
          have hF7 := hF6.drewN nq
          clear HOO HLF HDN b6 s6 b4 hs6 hb6 hO6 hF6
          go_wp2_with fail
          go_roundw
          case rel => exact ⟨k + 1, ⟨#[]⟩, true, by omega, by go_num, by decide, hb7, hs7, hO7, hF7⟩
          case measure => simp [intOf]; omega
        · have hs6 := hs4
          have hb6 := hb4
          have hO6 := hO4
          have hF6 := hF4
          have b6 : w4.cell? ⟨bb, 0, none⟩ = some (.bool false) := Bk.cell hb6 0
          have s6 : w4.cell? ⟨w.heap.size, 0, none⟩ = some (.string Sx) := Bk.cell hs6 0
          have b4 : w4.cell? ⟨bb, 0, none⟩ = some (.bool false) := Bk.cell hb4 0
          have HOO := Lib.hid (fun w h => ook_any ob Sx false w h)
          have HLF := Lib.hid (fun w h => left_any ob Sx false w h)
          have HDN := Lib.hid (fun w h => done_any ob Sx false w h)
          have hl0 : left Sx false = Sx.size := rfl
          rw [hl0] at HLF
          clear hl0
          have hd0 : (!false && decide (Sx.size = 0)) = Sx.toList.isEmpty := empty_is2 Sx
          rw [hd0] at HDN
          clear hd0
          have hqq : (Sx.toList.isEmpty == Sx.toList.isEmpty) = true := beq_iff_eq.2 rfl
          go_wp2_with fail
          go_quiet ((first
              | (go_at_call 49; exact quiet_same (HOO.out _ ⟨hO6.blk⟩))
              | (go_at_call 54; exact quiet_same (HLF.out _ ⟨hO6.blk⟩))
              | (go_at_call 50; exact quiet_same (HDN.out _ ⟨hO6.blk⟩))))
          have hO7 : Op _ ob Sx false := ⟨Bk.drewN hO6.blk nq⟩
          have hb7 := Bk.drewN hb6 nq
          have hs7 := Bk.drewN hs6 nq
          have hF7 := hF6.drewN nq
          clear HOO HLF HDN b6 s6 b4 hs6 hb6 hO6 hF6
          go_wp2_with fail
          go_roundw
          case rel => exact ⟨k + 1, Sx, false, by omega, by go_num, hz4, hb7, hs7, hO7, hF7⟩
          case measure => simp [intOf]; omega
      · obtain ⟨M, hM⟩ : ∃ M, (if n < 0 then (0 : Int) else n) = M := ⟨_, rfl⟩
        have m1 := max_is n 0 M hM
        obtain ⟨r, Sx, S', B', hst, hz4, H1, H2⟩ := raw_both n M S B hz hM
        clear hM
        have HC1 := Lib.hid H1
        have HO2 := Lib.hid H2
        clear H1 H2
        have hrr : (r.toList == r.toList) = true := beq_iff_eq.2 rfl
        go_wp2_with fail
        refine (HC1.out _ _ _ hb2 hs2).mono ?_
        rintro e w3 ⟨rfl, hb3, hs3, hf3⟩
        have x13 := hf3.cell x1 (by first | (simp; omega) | simp)
        have hO3 := hO2.frm hf3 (by omega)
        have hF3 := hF2.then_ hf3 (fun i hi e => by omega)
        go_wp2_with fail
        refine (HO2.out _ _ hO3).mono ?_
        rintro e w4 ⟨rfl, hO4, hf4⟩
        have hb4 := hf4.blk hb3 (by omega)
        have hs4 := hf4.blk hs3 (by omega)
        have hF4 := hF3.then_ hf4 (fun i hi e => by omega)
        clear HC1 HO2 hb3 hs3 hO3 hF3 x13 hb2 hs2 hO2 hF2 x1
        rcases hst with ⟨rfl, rfl⟩ | ⟨rfl, rfl⟩
        · have hs6 : (w4.setCell ⟨w.heap.size, 0, none⟩ (.string ⟨#[]⟩)).heap[w.heap.size]? = some (.cells #[.string ⟨#[]⟩] 9 (0, 0)) := Bk.set hs4 0 _
          have hb6 : (w4.setCell ⟨w.heap.size, 0, none⟩ (.string ⟨#[]⟩)).heap[bb]? = some (.cells #[.bool true] 4 (0, 0)) := Bk.far hb4 (by first | (simp; omega) | simp) _
          have hO6 : Op (w4.setCell ⟨w.heap.size, 0, none⟩ (.string ⟨#[]⟩)) ob ⟨#[]⟩ true := ⟨Bk.far hO4.blk (by first | (simp; omega) | simp) _⟩
          have hF6 : Frm0 w (w4.setCell ⟨w.heap.size, 0, none⟩ (.string ⟨#[]⟩)) := hF4.setCell _ (fun h => absurd h (Nat.lt_irrefl _)) _
          have fs4 := Bk.frozen hs4 0
          have s4 : w4.cell? ⟨w.heap.size, 0, none⟩ = some (.string Sx) := Bk.cell hs4 0
          have b6 : (w4.setCell ⟨w.heap.size, 0, none⟩ (.string ⟨#[]⟩)).cell? ⟨bb, 0, none⟩ = some (.bool true) := Bk.cell hb6 0
          have s6 : (w4.setCell ⟨w.heap.size, 0, none⟩ (.string ⟨#[]⟩)).cell? ⟨w.heap.size, 0, none⟩ = some (.string ⟨#[]⟩) := Bk.cell hs6 0
          have b4 : w4.cell? ⟨bb, 0, none⟩ = some (.bool true) := Bk.cell hb4 0
          have HOO := Lib.hid (fun w h => ook_any ob ⟨#[]⟩ true w h)
          have HLF := Lib.hid (fun w h => left_any ob ⟨#[]⟩ true w h)
          have HDN := Lib.hid (fun w h => done_any ob ⟨#[]⟩ true w h)
          have hl0 : left ⟨#[]⟩ true = 0 := rfl
          rw [hl0] at HLF
          clear hl0
          have hd0 : (!true && decide ((⟨#[]⟩ : ByteArray).size = 0)) = false := rfl
          rw [hd0] at HDN
          go_wp2_with fail
          go_quiet ((first
              | (go_at_call 49; exact quiet_same (HOO.out _ ⟨hO6.blk⟩))
              | (go_at_call 54; exact quiet_same (HLF.out _ ⟨hO6.blk⟩))
              | (go_at_call 50; exact quiet_same (HDN.out _ ⟨hO6.blk⟩))))
          have hO7 : Op _ ob ⟨#[]⟩ true := ⟨Bk.drewN hO6.blk nq⟩
          have hb7 := Bk.drewN hb6 nq
          have hs7 := Bk.drewN hs6 nq
          have hF7 := hF6.drewN nq
          clear HOO HLF HDN b6 s6 b4 hs6 hb6 hO6 hF6
          go_wp2_with fail
          go_roundw
          case rel => exact ⟨k + 1, ⟨#[]⟩, true, by omega, by go_num, by decide, hb7, hs7, hO7, hF7⟩
          case measure => simp [intOf]; omega
        · have hs6 := hs4
          have hb6 := hb4
          have hO6 := hO4
          have hF6 := hF4
          have b6 : w4.cell? ⟨bb, 0, none⟩ = some (.bool false) := Bk.cell hb6 0
          have s6 : w4.cell? ⟨w.heap.size, 0, none⟩ = some (.string Sx) := Bk.cell hs6 0
          have b4 : w4.cell? ⟨bb, 0, none⟩ = some (.bool false) := Bk.cell hb4 0
          have HOO := Lib.hid (fun w h => ook_any ob Sx false w h)
          have HLF := Lib.hid (fun w h => left_any ob Sx false w h)
          have HDN := Lib.hid (fun w h => done_any ob Sx false w h)
          have hl0 : left Sx false = Sx.size := rfl
          rw [hl0] at HLF
          clear hl0
          have hd0 : (!false && decide (Sx.size = 0)) = Sx.toList.isEmpty := empty_is2 Sx
          rw [hd0] at HDN
          clear hd0
          have hqq : (Sx.toList.isEmpty == Sx.toList.isEmpty) = true := beq_iff_eq.2 rfl
          go_wp2_with fail
          go_quiet ((first
              | (go_at_call 49; exact quiet_same (HOO.out _ ⟨hO6.blk⟩))
              | (go_at_call 54; exact quiet_same (HLF.out _ ⟨hO6.blk⟩))
              | (go_at_call 50; exact quiet_same (HDN.out _ ⟨hO6.blk⟩))))
          have hO7 : Op _ ob Sx false := ⟨Bk.drewN hO6.blk nq⟩
          have hb7 := Bk.drewN hb6 nq
          have hs7 := Bk.drewN hs6 nq
          have hF7 := hF6.drewN nq
          clear HOO HLF HDN b6 s6 b4 hs6 hb6 hO6 hF6
          go_wp2_with fail
          go_roundw
          case rel => exact ⟨k + 1, Sx, false, by omega, by go_num, hz4, hb7, hs7, hO7, hF7⟩
          case measure => simp [intOf]; omega
    · obtain rfl : k = l.length := by omega
      go_wp2
      go_ret
      exact ⟨rfl, hF.below (fun _ _ h => h)⟩
end Pk
end Go.Proofs.Ythmhihmbciigdaa
