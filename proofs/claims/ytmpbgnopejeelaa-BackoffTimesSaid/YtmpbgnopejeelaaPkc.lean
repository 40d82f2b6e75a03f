/- Packed numbers: the packer's Raw and Text; the opener's contracts. -/
import Derived.Test.YtmpbgnopejeelaaPkb
import Derived.Lib.AppendStr
namespace Go.Proofs.Ytmpbgnopejeelaa
open Go.RowKit
set_option linter.unusedVariables false
set_option linter.unusedSimpArgs false
set_option maxRecDepth 100000
namespace Pk
theorem strCells_u8s (s : ByteArray) : Lib.strCells s = u8s (bytes s) := by
  unfold Lib.strCells u8s bytes
  rw [List.map_map]
  rfl
set_option maxHeartbeats 1000000 in
theorem raw_any (s : ByteArray) (pb : Nat) (v : Value) (l : List Nat) (bad : Bool) (w : World) (h : At w pb v l bad) (hl : l.length ≤ 900000) (hs : s.size ≤ 100000) :
    Calls Try.prog 83 #[.pointer (some ⟨pb, 0, none⟩), .string s] w fun e w' => ∃ v', e = .returned (.pointer (some ⟨pb, 0, none⟩)) ∧ At w' pb v' (l ++ bytes s) bad ∧ Frm (fun k => k = pb ∨ v.ownBlock = some k) w w' := by
  have c0 := h.c0
  have hM : 1000010 ≤ maxLen := by unfold maxLen; omega
  have hlt := h.lt
  have hbk := h.blk
  have hAo := h.own
  have hroom := h.row
  have hsm := h.small
  obtain ⟨i, hi, hz, hsize, hby⟩ := Euint8.info
  clear h
  go_enter Try.func83, Try.ntmps83
  go_wp2_with (at_builtin; refine Lib.wpList_append_own_string _ rfl (.tmp 11) (.tmp 12) 43 9 rfl (pb + 1) 5 i Try.underlying43 Try.underlying9 hi hz hsize hby v l.length (u8s l) rfl hroom s rfl (by omega) (by omega) (by omega) ?_; intro v2 w2 hn1 hg1 hnil; have hbk1 := Bk.grown hbk hg1 (fun e => by have := hAo _ e; omega); have fr1 := Bk.frozen hbk1 0; have c21 : w2.cell? ⟨pb, 0, none⟩ = some v := Bk.cell hbk1 0; obtain ⟨A9, c9, rfl⟩ := (Sl.of_own hn1).form)
  go_ret
  refine ⟨_, rfl, ⟨Bk.set hbk1 0 _, ?_, fun b hb => ?_⟩, ?_⟩
  · rw [u8s_app, List.length_append, bytes_len, ← strCells_u8s]
    exact owns_frm hn1 ((Frm.refl (fun j => j = pb) w2).set1 0 _) (fun k2 hk2 e => by
      have := (hn1.lt k2 hk2).1
      omega)
  · rcases List.mem_append.1 hb with hb | hb
    · exact hsm b hb
    · exact bytes_lt s b hb
  · exact ((Frm.refl (fun k => k = pb ∨ v.ownBlock = some k) w).grown hg1 (fun b hb _ => .inr hb)).setCell ⟨pb, 0, none⟩ (fun _ => .inl rfl) _
theorem num_bad (n : Int) (pb : Nat) (v : Value) (l : List Nat) (bad : Bool) (w : World) (h : At w pb v l bad) (hn : n < 0 ∨ 4611686018427387904 < n) :
    Calls Try.prog 79 #[.pointer (some ⟨pb, 0, none⟩), .int .i64 n] w fun e w' => e = .returned (.pointer (some ⟨pb, 0, none⟩)) ∧ At w' pb v l true ∧ Frm (fun k => k = pb) w w' := by
  have c1 := h.c1
  have fr := h.fr 1
  have hd : decide (n < 0) = true ∨ (decide (n < 0) = false ∧ decide ((4611686018427387904 : Int) < n) = true) := by
    simp only [decide_eq_true_eq, decide_eq_false_iff_not]; omega
  have hfin : At (w.setCell ⟨pb, 1, none⟩ (.bool true)) pb v l true := ⟨Bk.set h.blk 1 _, owns_frm h.row ((Frm.refl (fun j => j = pb) w).set1 1 _) (fun k hk e => by
    have := h.own k hk
    omega), h.small⟩
  have HF := Lib.hid hfin
  clear hfin
  rcases hd with hd | ⟨hd, hd2⟩
  all_goals
    go_enter Try.func79, Try.ntmps79
    go_wp2
    go_ret
    exact ⟨rfl, HF.out, (Frm.refl (fun k => k = pb) w).set1 1 _⟩
theorem text_fine (s : ByteArray) (pb : Nat) (v : Value) (l : List Nat) (bad : Bool) (w : World) (h : At w pb v l bad) (hl : l.length ≤ 800000) (hs : s.size ≤ 90000) :
    Calls Try.prog 78 #[.pointer (some ⟨pb, 0, none⟩), .string s] w fun e w' => ∃ v', e = .returned (.pointer (some ⟨pb, 0, none⟩)) ∧ At w' pb v' (l ++ numB s.size ++ bytes s) bad ∧ Frm (fun k => k = pb ∨ v.ownBlock = some k) w w' := by
  have hlt := h.lt
  have hn9 : (numB s.size).length ≤ 10 := by
    unfold numB
    rw [List.length_append]
    have := pre_len 9 (s.size / 128) (Nat.lt_of_le_of_lt (Nat.div_le_self _ _) (by omega))
    simp
    omega
  go_enter Try.func78, Try.ntmps78
  go_wp2_with fail
  refine (num_any s.size pb v l bad _ h (by omega) (by omega)).mono ?_
  rintro e w1 ⟨v1, rfl, h1, hmv, hf1⟩
  go_wp2_with fail
  refine (raw_any s pb v1 _ bad _ h1 (by rw [List.length_append]; omega) (by omega)).mono ?_
  rintro e w2 ⟨v2, rfl, h2, hf2⟩
  go_wp2
  go_ret
  exact ⟨v2, rfl, h2, hf1.then_ hf2 (fun i hi e => by
    rcases e with e | e
    · exact .inl e
    · rcases hmv i e with e | e
      · exact .inr e
      · omega)⟩
theorem text_any (s : ByteArray) (pb : Nat) (v : Value) (l : List Nat) (bad : Bool) (w : World) (h : At w pb v l bad) (hl : l.length ≤ 800000) (hs : s.size ≤ 90000) :
    Calls Try.prog 78 #[.pointer (some ⟨pb, 0, none⟩), .string s] w fun e w' => ∃ v', e = .returned (.pointer (some ⟨pb, 0, none⟩)) ∧ At w' pb v' (l ++ numB s.size ++ bytes s) bad ∧ Frm (fun k => pb ≤ k) w w' := by
  refine (text_fine s pb v l bad w h hl hs).mono ?_
  rintro e w' ⟨v', rfl, h', hf⟩
  exact ⟨v', rfl, h', hf.mono (fun i _ e => by
    rcases e with e | e
    · omega
    · have := (h.own i e).1; omega)⟩

end Pk
end Go.Proofs.Ytmpbgnopejeelaa
