/- Packed numbers: the packer's Raw and Text; the opener's contracts. -/
import Derived.Test.YthggbohoedfkpaaPkb
import Derived.Lib.AppendStr
namespace Go.Proofs.Ythggbohoedfkpaa
open Go.RowKit
set_option linter.unusedVariables false
set_option linter.unusedSimpArgs false
set_option maxRecDepth 100000
namespace Pk
theorem strCells_u8s (s : ByteArray) : Lib.strCells s = u8s (bytes s) := by
  unfold Lib.strCells u8s bytes
  rw [List.map_map]
  rfl
set_option maxHeartbeats 1000000 in
theorem raw_any (s : ByteArray) (pb : Nat) (v : Value) (l : List Nat) (bad : Bool) (w : World) (h : At w pb v l bad) (hl : l.length ≤ 900000) (hs : s.size ≤ 100000) :
    Calls Try.prog 80 #[.pointer (some ⟨pb, 0, none⟩), .string s] w fun e w' => ∃ v', e = .returned (.pointer (some ⟨pb, 0, none⟩)) ∧ At w' pb v' (l ++ bytes s) bad ∧ Frm (fun k => k = pb ∨ v.ownBlock = some k) w w' := by
  have c0 := h.c0
  have hM : 1000010 ≤ maxLen := by unfold maxLen; omega
  have hlt := h.lt
  have hbk := h.blk
  have hAo := h.own
  have hroom := h.row
  have hsm := h.small
  obtain ⟨i, hi, hz, hsize, hby⟩ := Euint8.info
  clear h
  go_enter Try.func80, Try.ntmps80
  go_wp2_with (at_builtin; refine Lib.wpList_append_own_string _ rfl (.tmp 11) (.tmp 12) 81 9 rfl (pb + 1) 5 i Try.underlying81 Try.underlying9 hi hz hsize hby v l.length (u8s l) rfl hroom s rfl (by omega) (by omega) (by omega) ?_; intro v2 w2 hn1 hg1 hnil; have hbk1 := Bk.grown hbk hg1 (fun e => by have := hAo _ e; omega); have fr1 := Bk.frozen hbk1 0; have c21 : w2.cell? ⟨pb, 0, none⟩ = some v := Bk.cell hbk1 0; obtain ⟨A9, c9, rfl⟩ := (Sl.of_own hn1).form)
  go_ret
  refine ⟨_, rfl, ⟨Bk.set hbk1 0 _, ?_, fun b hb => ?_⟩, ?_⟩
  · rw [u8s_app, List.length_append, bytes_len, ← strCells_u8s]
    exact owns_frm hn1 ((Frm.refl (fun j => j = pb) w2).set1 0 _) (fun k2 hk2 e => by
      have := (hn1.lt k2 hk2).1
      omega)
  · rcases List.mem_append.1 hb with hb | hb
    · exact hsm b hb
    · exact bytes_lt s b hb
  · exact ((Frm.refl (fun k => k = pb ∨ v.ownBlock = some k) w).grown hg1 (fun b hb _ => .inr hb)).setCell ⟨pb, 0, none⟩ (fun _ => .inl rfl) _
theorem num_bad (n : Int) (pb : Nat) (v : Value) (l : List Nat) (bad : Bool) (w : World) (h : At w pb v l bad) (hn : n < 0 ∨ 4611686018427387904 < n) :
    Calls Try.prog 40 #[.pointer (some ⟨pb, 0, none⟩), .int .i64 n] w fun e w' => e = .returned (.pointer (some ⟨pb, 0, none⟩)) ∧ At w' pb v l true ∧ Frm (fun k => k = pb) w w' := by
  have c1 := h.c1
  have fr := h.fr 1
  have hd : decide (n < 0) = true ∨ (decide (n < 0) = false ∧ decide ((4611686018427387904 : Int) < n) = true) := by
    simp only [decide_eq_true_eq, decide_eq_false_iff_not]; omega
  have hfin : At (w.setCell ⟨pb, 1, none⟩ (.bool true)) pb v l true := ⟨Bk.set h.blk 1 _, owns_frm h.row ((Frm.refl (fun j => j = pb) w).set1 1 _) (fun k hk e => by
    have := h.own k hk
    omega), h.small⟩
  have HF := Lib.hid hfin
  clear hfin
  rcases hd with hd | ⟨hd, hd2⟩
  all_goals
    go_enter Try.func40, Try.ntmps40
    go_wp2
    go_ret
    exact ⟨rfl, HF.out, (Frm.refl (fun k => k = pb) w).set1 1 _⟩
theorem text_fine (s : ByteArray) (pb : Nat) (v : Value) (l : List Nat) (bad : Bool) (w : World) (h : At w pb v l bad) (hl : l.length ≤ 800000) (hs : s.size ≤ 90000) :
    Calls Try.prog 74 #[.pointer (some ⟨pb, 0, none⟩), .string s] w fun e w' => ∃ v', e = .returned (.pointer (some ⟨pb, 0, none⟩)) ∧ At w' pb v' (l ++ numB s.size ++ bytes s) bad ∧ Frm (fun k => k = pb ∨ v.ownBlock = some k) w w' := by
  have hlt := h.lt
  have hn9 : (numB s.size).length ≤ 10 := by
    unfold numB
    rw [List.length_append]
    have := pre_len 9 (s.size / 128) (Nat.lt_of_le_of_lt (Nat.div_le_self _ _) (by omega))
    simp
    omega
  go_enter Try.func74, Try.ntmps74
  go_wp2_with fail
  refine (num_any s.size pb v l bad _ h (by omega) (by omega)).mono ?_
  rintro e w1 ⟨v1, rfl, h1, hmv, hf1⟩
  go_wp2_with fail
  refine (raw_any s pb v1 _ bad _ h1 (by rw [List.length_append]; omega) (by omega)).mono ?_
  rintro e w2 ⟨v2, rfl, h2, hf2⟩
  go_wp2
  go_ret
  exact ⟨v2, rfl, h2, hf1.then_ hf2 (fun i hi e => by
    rcases e with e | e
    · exact .inl e
    · rcases hmv i e with e | e
      · exact .inr e
      · omega)⟩
theorem text_any (s : ByteArray) (pb : Nat) (v : Value) (l : List Nat) (bad : Bool) (w : World) (h : At w pb v l bad) (hl : l.length ≤ 800000) (hs : s.size ≤ 90000) :
    Calls Try.prog 74 #[.pointer (some ⟨pb, 0, none⟩), .string s] w fun e w' => ∃ v', e = .returned (.pointer (some ⟨pb, 0, none⟩)) ∧ At w' pb v' (l ++ numB s.size ++ bytes s) bad ∧ Frm (fun k => pb ≤ k) w w' := by
  refine (text_fine s pb v l bad w h hl hs).mono ?_
  rintro e w' ⟨v', rfl, h', hf⟩
  exact ⟨v', rfl, h', hf.mono (fun i _ e => by
    rcases e with e | e
    · omega
    · have := (h.own i e).1; omega)⟩

/-- An opener: what isn't read, and whether it failed. -/
structure Op (w : World) (ob : Nat) (s : ByteArray) (bad : Bool) : Prop where
  blk : w.heap[ob]? = some (.cells #[.string s, .bool bad] 122 (0, 0))
section
variable {w w1 : World} {ob : Nat} {s : ByteArray} {bad : Bool} {S : Nat → Prop}
theorem Op.c0 (h : Op w ob s bad) : w.cell? ⟨ob, 0, none⟩ = some (.string s) := by rw [Bk.cell h.blk]; rfl
theorem Op.c1 (h : Op w ob s bad) : w.cell? ⟨ob, 1, none⟩ = some (.bool bad) := by rw [Bk.cell h.blk]; rfl
theorem Op.fr (h : Op w ob s bad) (i : Nat) : w.frozen? ⟨ob, i, none⟩ = false := Bk.frozen h.blk i
theorem Op.lt (h : Op w ob s bad) : ob < w.heap.size := Bk.lt h.blk
theorem Op.frm (h : Op w ob s bad) (hf : Frm S w w1) (hs : ¬ S ob) : Op w1 ob s bad := ⟨hf.blk h.blk hs⟩
end
theorem open_any (s : ByteArray) (w : World) : Calls Try.prog 45 #[.string s] w fun e w' => e = .returned (.pointer (some ⟨w.heap.size, 0, none⟩)) ∧ Op w' w.heap.size s false ∧ Frm0 w w' := by
  go_enter Try.func45, Try.ntmps45
  go_wp2
  go_ret
  exact ⟨rfl, ⟨Bk.new _ _⟩, (Frm.refl _ _).alloc _⟩
theorem ook_any (ob : Nat) (s : ByteArray) (bad : Bool) (w : World) (h : Op w ob s bad) : Calls Try.prog 63 #[.pointer (some ⟨ob, 0, none⟩)] w fun e w' => e = .returned (.bool (!bad)) ∧ w = w' := by
  have c1 := h.c1
  go_enter Try.func63, Try.ntmps63
  go_wp2
  go_ret
  exact ⟨rfl, rfl⟩
theorem ook_nil (w : World) : Calls Try.prog 63 #[.pointer none] w fun e w' => e = .returned (.bool false) ∧ w = w' := by
  go_enter Try.func63, Try.ntmps63
  go_wp2
  go_ret
  exact ⟨rfl, rfl⟩
theorem fail_any (ob : Nat) (s : ByteArray) (bad : Bool) (w : World) (h : Op w ob s bad) : Calls Try.prog 64 #[.pointer (some ⟨ob, 0, none⟩)] w fun e w' => e = .returned (.tuple #[]) ∧ Op w' ob ⟨#[]⟩ true ∧ Frm (fun k => k = ob) w w' := by
  have c0 := h.c0
  have c1 := h.c1
  have f0 := h.fr 0
  have f1 := h.fr 1
  have hfin : Op ((w.setCell ⟨ob, 0, none⟩ (.string ⟨#[]⟩)).setCell ⟨ob, 1, none⟩ (.bool true)) ob ⟨#[]⟩ true := ⟨Bk.set (Bk.set h.blk 0 _) 1 _⟩
  have HF := Lib.hid hfin
  clear hfin
  go_enter Try.func64, Try.ntmps64
  go_wp2
  go_returns
  exact ⟨rfl, HF.out, ((Frm.refl (fun k => k = ob) w).set1 0 _).set1 1 _⟩
theorem fail_nil (w : World) : Calls Try.prog 64 #[.pointer none] w fun e w' => e = .returned (.tuple #[]) ∧ w = w' := by
  go_enter Try.func64, Try.ntmps64
  go_wp2
  go_returns
  exact ⟨rfl, rfl⟩
def left (s : ByteArray) (bad : Bool) : Nat := if bad then 0 else s.size
theorem left_any (ob : Nat) (s : ByteArray) (bad : Bool) (w : World) (h : Op w ob s bad) : Calls Try.prog 65 #[.pointer (some ⟨ob, 0, none⟩)] w fun e w' => e = .returned (.int .i64 (left s bad)) ∧ w = w' := by
  have c0 := h.c0
  have HO := Lib.hid (ook_any ob s bad w h)
  cases bad
  all_goals
    go_enter Try.func65, Try.ntmps65
    go_wp2_with fail
    refine HO.out.mono ?_
    rintro e w' ⟨rfl, rfl⟩
    go_wp2
    go_ret
    exact ⟨rfl, rfl⟩
theorem left_nil (w : World) : Calls Try.prog 65 #[.pointer none] w fun e w' => e = .returned (.int .i64 0) ∧ w = w' := by
  go_enter Try.func65, Try.ntmps65
  go_wp2_with fail
  refine (ook_nil _).mono ?_
  rintro e w' ⟨rfl, rfl⟩
  go_wp2
  go_ret
  exact ⟨rfl, rfl⟩
theorem done_any (ob : Nat) (s : ByteArray) (bad : Bool) (w : World) (h : Op w ob s bad) : Calls Try.prog 47 #[.pointer (some ⟨ob, 0, none⟩)] w fun e w' => e = .returned (.bool (!bad && decide (s.size = 0))) ∧ w = w' := by
  have HO := Lib.hid (ook_any ob s bad w h)
  have HL := Lib.hid (left_any ob s bad w h)
  cases bad
  · have e : left s false = s.size := rfl
    rw [e] at HL
    clear e h
    by_cases h0 : s.size = 0
    · have hz : ((s.size : Int) == 0) = true := by rw [beq_iff_eq]; omega
      rw [decide_eq_true h0]
      clear h0
      go_enter Try.func47, Try.ntmps47
      go_wp2_with fail
      refine HO.out.mono ?_
      rintro e w' ⟨rfl, rfl⟩
      go_wp2_with fail
      refine HL.out.mono ?_
      rintro e w' ⟨rfl, rfl⟩
      go_wp2
      go_ret
      exact ⟨ret_bool (by simp), rfl⟩
    · have hz : ((s.size : Int) == 0) = false := by rw [beq_eq_false_iff_ne]; omega
      rw [decide_eq_false h0]
      clear h0
      go_enter Try.func47, Try.ntmps47
      go_wp2_with fail
      refine HO.out.mono ?_
      rintro e w' ⟨rfl, rfl⟩
      go_wp2_with fail
      refine HL.out.mono ?_
      rintro e w' ⟨rfl, rfl⟩
      go_wp2
      go_ret
      exact ⟨ret_bool (by simp), rfl⟩
  · go_enter Try.func47, Try.ntmps47
    go_wp2_with fail
    refine HO.out.mono ?_
    rintro e w' ⟨rfl, rfl⟩
    go_wp2
    go_ret
    exact ⟨rfl, rfl⟩
end Pk
end Go.Proofs.Ythggbohoedfkpaa
