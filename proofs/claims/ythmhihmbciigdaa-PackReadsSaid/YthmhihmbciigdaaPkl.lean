/- The walk of PackReads. -/
import Derived.Test.YthmhihmbciigdaaPkk
namespace Go.Proofs.Ythmhihmbciigdaa
open Go.RowKit Go.ChangeShapes Go.WideShapes
set_option linter.unusedVariables false
set_option linter.unusedSimpArgs false
namespace Pk
theorem rd_ext : ∀ (f k n : Nat) (s : ByteArray) (m : Int) (t : ByteArray), rd f k n s = (m, t, false) → 0 ≤ m → ∃ j, 0 < j ∧ j ≤ s.size ∧ t = s.extract j s.size
  | 0, k, n, s, m, t, h, hm => by
    simp [rd] at h
    omega
  | f + 1, k, n, s, m, t, h, hm => by
    by_cases h0 : s.size = 0
    · rw [rd_end h0] at h
      simp at h
    · by_cases h1 : k = 0 ∧ b0 s = 128
      · obtain ⟨rfl, h1⟩ := h1
        rw [rd_no h0 h1] at h
        simp at h
        omega
      · by_cases h2 : b0 s < 128
        · rw [rd_got h0 h2] at h
          simp only [Prod.mk.injEq] at h
          exact ⟨1, by omega, by omega, h.2.1.symm⟩
        · rw [rd_more h0 h1 h2] at h
          obtain ⟨j, j0, j1, rfl⟩ := rd_ext f _ _ _ m t h hm
          rw [ByteArray.size_extract] at j1
          refine ⟨j + 1, by omega, by omega, ?_⟩
          refine bytes_inj ?_
          rw [bytes_extract, bytes_extract, bytes_extract, ByteArray.size_extract]
          rw [List.take_of_length_le (by rw [List.length_drop, List.length_take, List.length_drop, bytes_len]; omega), List.take_of_length_le (l := (bytes s).drop 1) (by rw [List.length_drop, bytes_len]; omega), List.take_of_length_le (by rw [List.length_drop, bytes_len]; omega), List.drop_drop, Nat.add_comm]
theorem num_both (N : Int) (S : ByteArray) (B : Bool) (hz : S.size ≤ 60) :
    ((∀ (w : World) (bb sb : Nat), w.heap[bb]? = some (.cells #[.bool B] 4 (0, 0)) → w.heap[sb]? = some (.cells #[.string S] 9 (0, 0)) → Calls Try.prog 52 #[.int .i64 N, .pointer (some ⟨sb, 0, none⟩), .pointer (some ⟨bb, 0, none⟩)] w fun e w' => e = .returned (.int .i64 0) ∧ w'.heap[bb]? = some (.cells #[.bool true] 4 (0, 0)) ∧ w'.heap[sb]? = some (.cells #[.string S] 9 (0, 0)) ∧ Frm (fun k => k = bb ∨ k = sb) w w') ∧ (∀ (w : World) (ob : Nat), Op w ob S B → Calls Try.prog 46 #[.pointer (some ⟨ob, 0, none⟩), .int .i64 N] w fun e w' => e = .returned (.int .i64 0) ∧ Op w' ob ⟨#[]⟩ true ∧ Frm (fun k => k = ob) w w') ∧ (∀ (w : World) (ob : Nat), Op w ob S B → Calls Try.prog 47 #[.pointer (some ⟨ob, 0, none⟩), .int .i64 N] w fun e w' => e = .returned (.string ⟨#[]⟩) ∧ Op w' ob ⟨#[]⟩ true ∧ Frm (fun k => k = ob) w w')) ∨
    (B = false ∧ ∃ (n : Nat) (t : ByteArray), t.size ≤ 60 ∧ (∀ (w : World) (bb sb : Nat), w.heap[bb]? = some (.cells #[.bool false] 4 (0, 0)) → w.heap[sb]? = some (.cells #[.string S] 9 (0, 0)) → Calls Try.prog 52 #[.int .i64 N, .pointer (some ⟨sb, 0, none⟩), .pointer (some ⟨bb, 0, none⟩)] w fun e w' => e = .returned (.int .i64 n) ∧ w'.heap[bb]? = some (.cells #[.bool false] 4 (0, 0)) ∧ w'.heap[sb]? = some (.cells #[.string t] 9 (0, 0)) ∧ Frm (fun k => k = bb ∨ k = sb) w w') ∧ rd 9 0 0 S = ((n : Int), t, false) ∧ n ≤ 4611686018427387904 ∧ (n : Int) ≤ N) := by
  have mk : ∀ (n : Int) (t : ByteArray) (b : Bool), (∀ (w : World) (ob : Nat), Op w ob S B → Calls Try.prog 61 #[.pointer (some ⟨ob, 0, none⟩)] w fun e w' => e = .returned (.int .i64 n) ∧ Op w' ob t b ∧ Frm (fun k => k = ob) w w') → (b = true ∨ n < 0 ∨ 4611686018427387904 < n ∨ N < n) →
      (∀ (w : World) (ob : Nat), Op w ob S B → Calls Try.prog 46 #[.pointer (some ⟨ob, 0, none⟩), .int .i64 N] w fun e w' => e = .returned (.int .i64 0) ∧ Op w' ob ⟨#[]⟩ true ∧ Frm (fun k => k = ob) w w') ∧ (∀ (w : World) (ob : Nat), Op w ob S B → Calls Try.prog 47 #[.pointer (some ⟨ob, 0, none⟩), .int .i64 N] w fun e w' => e = .returned (.string ⟨#[]⟩) ∧ Op w' ob ⟨#[]⟩ true ∧ Frm (fun k => k = ob) w w') := by
    intro n t b hn hc
    exact ⟨fun w ob h => onum_no N n (hn w ob h) hc, fun w ob h => otext_no N (onum_no N n (hn w ob h) hc)⟩
  obtain ⟨⟨fn, fkk⟩, hfk⟩ : ∃ x, fk S = x := ⟨_, rfl⟩
  cases B with
  | true =>
    left
    exact ⟨fun w bb sb hb hs => cnum_no N bb sb S true fn fkk w (by omega) hb hs hfk (.inl rfl), mk (-1) ⟨#[]⟩ true (fun w ob h => number_bad ob S w h) (.inl rfl)⟩
  | false =>
    cases hg : gn S with
    | none =>
      left
      obtain ⟨n, t, b, hr, hc⟩ := gn_not hg
      have e := fk_none hg
      exact ⟨fun w bb sb hb hs => cnum_no N bb sb S false 0 0 w (by omega) hb hs e (.inr (.inl rfl)), mk n t b (fun w ob h => number_to h (by omega) hr) (by rcases hc with h | h | h <;> simp [h])⟩
    | some x =>
      obtain ⟨n, t⟩ := x
      obtain ⟨hr, hn⟩ := gn_is hg
      obtain ⟨j, j0, j1, rfl⟩ := rd_ext _ _ _ _ _ _ hr (by omega)
      have e := fk_some hg (k := j) (by rw [ByteArray.size_extract]; omega)
      by_cases hl : N < n
      · left
        exact ⟨fun w bb sb hb hs => cnum_no N bb sb S false n j w (by omega) hb hs e (.inr (.inr hl)), mk n _ false (fun w ob h => number_to h (by omega) hr) (.inr (.inr (.inr hl)))⟩
      · right
        exact ⟨rfl, n, _, by rw [ByteArray.size_extract]; omega, fun w bb sb hb hs => cnum_ok N bb sb S n j w (by omega) hb hs e j0 j1 (by omega), hr, hn, by omega⟩
theorem raw_both (N : Int) (M : Int) (S : ByteArray) (B : Bool) (hz : S.size ≤ 60) (hM : (if N < 0 then (0 : Int) else N) = M) :
    ∃ (r Sx S' : ByteArray) (B' : Bool), ((B' = true ∧ S' = ⟨#[]⟩) ∨ (B' = false ∧ Sx = S')) ∧ S'.size ≤ 60 ∧ (∀ (w : World) (bb sb : Nat), w.heap[bb]? = some (.cells #[.bool B] 4 (0, 0)) → w.heap[sb]? = some (.cells #[.string S] 9 (0, 0)) → Calls Try.prog 51 #[.int .i64 M, .pointer (some ⟨bb, 0, none⟩), .pointer (some ⟨sb, 0, none⟩)] w fun e w' => e = .returned (.string r) ∧ w'.heap[bb]? = some (.cells #[.bool B'] 4 (0, 0)) ∧ w'.heap[sb]? = some (.cells #[.string Sx] 9 (0, 0)) ∧ Frm (fun k => k = bb ∨ k = sb) w w') ∧ (∀ (w : World) (ob : Nat), Op w ob S B → Calls Try.prog 48 #[.pointer (some ⟨ob, 0, none⟩), .int .i64 N] w fun e w' => e = .returned (.string r) ∧ Op w' ob S' B' ∧ Frm (fun k => k = ob) w w') := by
  cases B with
  | true => exact ⟨⟨#[]⟩, S, ⟨#[]⟩, true, .inl ⟨rfl, rfl⟩, by decide, fun w bb sb hb hs => craw_bad M bb sb S w hb hs, fun w ob h => oraw_bad N ob S w h⟩
  | false =>
    by_cases hl : (S.size : Int) < M
    · exact ⟨⟨#[]⟩, S, ⟨#[]⟩, true, .inl ⟨rfl, rfl⟩, by decide, fun w bb sb hb hs => craw_short M bb sb S w hl hb hs, fun w ob h => oraw_short N ob S w h (by rw [hM]; exact hl)⟩
    · obtain ⟨m, rfl⟩ := Int.eq_ofNat_of_zero_le (show 0 ≤ M by rw [← hM]; split <;> omega)
      exact ⟨S.extract 0 m, S.extract m S.size, S.extract m S.size, false, .inr ⟨rfl, rfl⟩, by rw [ByteArray.size_extract]; omega, fun w bb sb hb hs => craw_ok m bb sb S w (by omega) hb hs, fun w ob h => oraw_ok N m ob S w h hM (by omega) (by omega)⟩
theorem text_both (N : Int) (S : ByteArray) (B : Bool) (hz : S.size ≤ 60) :
    ∃ (r1 : Int) (S1 : ByteArray) (B1 : Bool) (r Sx S' : ByteArray) (B' : Bool), ((B' = true ∧ S' = ⟨#[]⟩) ∨ (B' = false ∧ Sx = S')) ∧ S'.size ≤ 60 ∧ (∀ (w : World) (bb sb : Nat), w.heap[bb]? = some (.cells #[.bool B] 4 (0, 0)) → w.heap[sb]? = some (.cells #[.string S] 9 (0, 0)) → Calls Try.prog 52 #[.int .i64 N, .pointer (some ⟨sb, 0, none⟩), .pointer (some ⟨bb, 0, none⟩)] w fun e w' => e = .returned (.int .i64 r1) ∧ w'.heap[bb]? = some (.cells #[.bool B1] 4 (0, 0)) ∧ w'.heap[sb]? = some (.cells #[.string S1] 9 (0, 0)) ∧ Frm (fun k => k = bb ∨ k = sb) w w') ∧ (∀ (w : World) (bb sb : Nat), w.heap[bb]? = some (.cells #[.bool B1] 4 (0, 0)) → w.heap[sb]? = some (.cells #[.string S1] 9 (0, 0)) → Calls Try.prog 51 #[.int .i64 r1, .pointer (some ⟨bb, 0, none⟩), .pointer (some ⟨sb, 0, none⟩)] w fun e w' => e = .returned (.string r) ∧ w'.heap[bb]? = some (.cells #[.bool B'] 4 (0, 0)) ∧ w'.heap[sb]? = some (.cells #[.string Sx] 9 (0, 0)) ∧ Frm (fun k => k = bb ∨ k = sb) w w') ∧ (∀ (w : World) (ob : Nat), Op w ob S B → Calls Try.prog 47 #[.pointer (some ⟨ob, 0, none⟩), .int .i64 N] w fun e w' => e = .returned (.string r) ∧ Op w' ob S' B' ∧ Frm (fun k => k = ob) w w') := by
  rcases num_both N S B hz with ⟨h1, h2, h3⟩ | ⟨rfl, n, t, ht, h1, hr, h2, h3⟩
  · exact ⟨0, S, true, ⟨#[]⟩, S, ⟨#[]⟩, true, .inl ⟨rfl, rfl⟩, by decide, h1, fun w bb sb hb hs => craw_bad 0 bb sb S w hb hs, h3⟩
  · by_cases hl : t.size < n
    · exact ⟨n, t, false, ⟨#[]⟩, t, ⟨#[]⟩, true, .inl ⟨rfl, rfl⟩, by decide, h1, fun w bb sb hb hs => craw_short n bb sb t w (by omega) hb hs, fun w ob h => otext_short N h (by omega) hr h2 h3 hl⟩
    · exact ⟨n, t, false, t.extract 0 n, t.extract n t.size, t.extract n t.size, false, .inr ⟨rfl, rfl⟩, by rw [ByteArray.size_extract]; omega, h1, fun w bb sb hb hs => craw_ok n bb sb t w (by omega) hb hs, fun w ob h => otext_ok N h (by omega) hr h2 h3 (by omega) (by omega)⟩
theorem num_all (N : Int) (S : ByteArray) (B : Bool) (hz : S.size ≤ 60) :
    ∃ (r : Int) (Sx S' : ByteArray) (B' : Bool), ((B' = true ∧ S' = ⟨#[]⟩) ∨ (B' = false ∧ Sx = S')) ∧ S'.size ≤ 60 ∧ (∀ (w : World) (bb sb : Nat), w.heap[bb]? = some (.cells #[.bool B] 4 (0, 0)) → w.heap[sb]? = some (.cells #[.string S] 9 (0, 0)) → Calls Try.prog 52 #[.int .i64 N, .pointer (some ⟨sb, 0, none⟩), .pointer (some ⟨bb, 0, none⟩)] w fun e w' => e = .returned (.int .i64 r) ∧ w'.heap[bb]? = some (.cells #[.bool B'] 4 (0, 0)) ∧ w'.heap[sb]? = some (.cells #[.string Sx] 9 (0, 0)) ∧ Frm (fun k => k = bb ∨ k = sb) w w') ∧ (∀ (w : World) (ob : Nat), Op w ob S B → Calls Try.prog 46 #[.pointer (some ⟨ob, 0, none⟩), .int .i64 N] w fun e w' => e = .returned (.int .i64 r) ∧ Op w' ob S' B' ∧ Frm (fun k => k = ob) w w') := by
  rcases num_both N S B hz with ⟨h1, h2, h3⟩ | ⟨rfl, n, t, ht, h1, hr, h2, h3⟩
  · exact ⟨0, S, ⟨#[]⟩, true, .inl ⟨rfl, rfl⟩, by decide, h1, h2⟩
  · exact ⟨n, t, t, false, .inr ⟨rfl, rfl⟩, ht, h1, fun w ob h => onum_ok N h (by omega) hr h2 h3⟩
end Pk
end Go.Proofs.Ythmhihmbciigdaa
