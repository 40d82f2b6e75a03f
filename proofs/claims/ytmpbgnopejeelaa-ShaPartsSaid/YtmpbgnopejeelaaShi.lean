/- The walk of ShaParts: in whatever parts a text comes, the digest is that of all. -/
import Derived.Test.YtmpbgnopejeelaaShh
import Derived.Test.YtmpbgnopejeelaaO
namespace Go.Proofs.Ytmpbgnopejeelaa
open Go.RowKit
set_option linter.unusedVariables false
set_option linter.unusedSimpArgs false
set_option maxRecDepth 100000
namespace Sh
theorem sum_to {w : World} {b : Nat} {l : List Nat} {d : ByteArray} (h : Hs w b l) (hl : l.length ≤ 500000) (hd : dig l = d) :
    Calls Try.prog 38 #[.pointer (some ⟨b, 0, none⟩)] w fun e w' => e = .returned (.string d) ∧ Frm0 w w' := by
  subst hd
  exact sum_any h hl
theorem len_to {w : World} {b : Nat} {l : List Nat} {n : Nat} (h : Hs w b l) (hn : l.length = n) : Calls Try.prog 39 #[.pointer (some ⟨b, 0, none⟩)] w fun e w' => e = .returned (.int .i64 n) ∧ w = w' := by
  subst hn
  obtain ⟨r, h, _⟩ := h
  exact len_any h
theorem Hs.frm0 {w w1 : World} {b : Nat} {l : List Nat} (h : Hs w b l) (hf : Frm0 w w1) : Hs w1 b l := by
  obtain ⟨r, h, hr⟩ := h
  exact ⟨r, h.frm0 hf, hr⟩
theorem sha_sum_to {s d : ByteArray} (hs : s.size ≤ 500000) (hd : dig (bytes s) = d) (w : World) : Calls Try.prog 31 #[.string s] w fun e w' => e = .returned (.string d) ∧ Frm0 w w' := by
  subst hd
  exact sha_sum s hs w
set_option maxHeartbeats 2000000 in
theorem parts_walk (l : List ByteArray) (v : Value) (w : World) (hs : Sl w v l.length (strs l)) :
    Calls Try.prog 9 #[v] w fun e w' => e = .returned (.bool true) ∧ Below w.heap.size w w' := by
  have hlen := hs.len
  by_cases h20 : 20 < l.length
  · obtain ⟨A, c, rfl⟩ := hs.form
    go_enter Try.func9, Try.ntmps9
    go_wp2_with fail
    refine (awake_any _).mono ?_
    rintro e w1 ⟨rfl, hf1⟩
    go_wp2
    go_ret
    exact ⟨rfl, hf1.below (fun _ _ h => h)⟩
  have hcell : ∀ k (hk : k < l.length), ∃ b o c, v = .slice (some ⟨b, o, none⟩) l.length c ∧ w.cell? ⟨b, o + k, none⟩ = some (.string l[k]) := by
    intro k hk
    rcases hs with ⟨A, c, rfl, hn, _⟩ | ⟨b, o, c, rfl, h0, h1, h2, _, hc⟩
    · omega
    · exact ⟨b, o, c, rfl, hc k _ (strs_at l k hk)⟩
  obtain ⟨A, c, rfl⟩ := hs.form
  have HC := Lib.hid hcell
  clear hcell hs
  go_enter Try.func9, Try.ntmps9
  go_wp2_with fail
  refine (awake_any _).mono ?_
  rintro e w1 ⟨rfl, hf1⟩
  go_wp2_with fail
  refine (new_any _).mono ?_
  rintro e w2 ⟨hb, rfl, hlb, hH, hf2⟩
  have hS := Hs.none hH
  have hF2 := hf1.trans hf2
  have hlb2 : w.heap.size ≤ hb := Nat.le_trans hf1.size hlb
  clear hf1 hf2 hH hlb
  go_wp2_with fail
  go_loopw [4, 16] (fun u i wr => ∃ (k : Nat) (a : ByteArray), k ≤ l.length ∧ i = .int .i64 k ∧ u = .string a ∧ a.size ≤ 100 * k ∧ Hs wr hb (bytes a) ∧ Frm0 w wr) (fun _ i _ => l.length - (intOf i).toNat)
  case atStart => exact ⟨0, ⟨#[]⟩, by omega, rfl, rfl, by decide, hS, hF2⟩
  case round =>
    clear hS hF2
    obtain ⟨k, a, hk, rfl, rfl, ha, hS, hF⟩ := hrel
    by_cases hlt : k < l.length
    · obtain ⟨b, o, c', he, hc⟩ := HC.out k hlt
      cases he
      have hck := hF.cell hc (fun h => h)
      generalize l[k] = s at *
      clear hc
      by_cases hsz : s.size ≤ 100
      · have hal : a.size ≤ 2000 := by omega
        have hasz : (a ++ s).size = a.size + s.size := ByteArray.size_append ..
        have hTb := bytes_append a s
        have hTl : (bytes (a ++ s)).length = a.size + s.size := by rw [bytes_len, hasz]
        have HWR := Lib.hid (write_any s hS (by rw [bytes_len]; omega))
        rw [← hTb] at HWR
        obtain ⟨d, hd⟩ : ∃ d, dig (bytes (a ++ s)) = d := ⟨_, rfl⟩
        have HD := Lib.hid hd
        have HTl := Lib.hid hTl
        have HAZ := Lib.hid hasz
        have hazi : ((a ++ s).size : Int) = (a.size : Int) + (s.size : Int) := by omega
        clear hd hTb hTl hasz
        by_cases h5 : k % 5 = 0
        · have h5i : (k : Int) % 5 = 0 := by omega
          go_wp2_with fail
          refine HWR.out.mono ?_
          rintro e w3 ⟨rfl, hS3, hf3⟩
          have hF3 := hF.then_ hf3 (fun i hi e => by omega)
          go_wp2_with fail
          refine (sum_to hS3 (by rw [HTl.out]; omega) HD.out).mono ?_
          rintro e w4 ⟨rfl, hf4⟩
          go_wp2_with fail
          refine (sha_sum_to (by rw [HAZ.out]; omega) HD.out _).mono ?_
          rintro e w5 ⟨rfl, hf5⟩
          have hS5 := (hS3.frm0 hf4).frm0 hf5
          go_wp2_with fail
          refine (len_to hS5 (HTl.out.trans HAZ.out.symm)).mono ?_
          rintro e w6 ⟨rfl, rfl⟩
          go_wp2_with fail
          go_roundw
          case rel => exact ⟨k + 1, a ++ s, by omega, by go_num, rfl, by rw [HAZ.out]; omega, hS5, (hF3.trans hf4).trans hf5⟩
          case measure => simp [intOf]; omega
        · have h5i : ¬ (k : Int) % 5 = 0 := by omega
          have h5b : ((k : Int) % 5 == 0) = false := beq_eq_false_iff_ne.2 h5i
          go_wp2_with fail
          refine HWR.out.mono ?_
          rintro e w3 ⟨rfl, hS3, hf3⟩
          have hF3 := hF.then_ hf3 (fun i hi e => by omega)
          go_wp2_with fail
          refine (len_to hS3 (HTl.out.trans HAZ.out.symm)).mono ?_
          rintro e w6 ⟨rfl, rfl⟩
          go_wp2_with fail
          go_roundw
          case rel => exact ⟨k + 1, a ++ s, by omega, by go_num, rfl, by rw [HAZ.out]; omega, hS3, hF3⟩
          case measure => simp [intOf]; omega
      · go_wp2_with fail
        go_ret
        exact ⟨rfl, hF.below (fun _ _ h => h)⟩
    · obtain rfl : k = l.length := by omega
      obtain ⟨d, hd⟩ : ∃ d, dig (bytes a) = d := ⟨_, rfl⟩
      have HD := Lib.hid hd
      clear hd
      go_wp2_with fail
      refine (write_nil _ _).mono ?_
      rintro e w3 ⟨⟨x, rfl⟩, rfl⟩
      go_wp2_with fail
      refine (sum_to hS (by rw [bytes_len]; omega) HD.out).mono ?_
      rintro e w4 ⟨rfl, hf4⟩
      go_wp2_with fail
      refine (sha_sum_to (by omega) HD.out _).mono ?_
      rintro e w5 ⟨rfl, hf5⟩
      go_wp2_with fail
      refine (sum_nil _).mono ?_
      rintro e w6 ⟨rfl, rfl⟩
      go_wp2_with fail
      refine (len_nil _).mono ?_
      rintro e w6 ⟨rfl, rfl⟩
      go_wp2_with fail
      go_ret
      exact ⟨rfl, ((hF.trans hf4).trans hf5).below (fun _ _ h => h)⟩
end Sh
end Go.Proofs.Ytmpbgnopejeelaa
