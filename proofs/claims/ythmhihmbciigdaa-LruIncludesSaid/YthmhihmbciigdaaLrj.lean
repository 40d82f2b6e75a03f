/- The cache's reference: Drop, Get, Put. -/
import Derived.Test.YthmhihmbciigdaaLri
namespace Go.Proofs.Ythmhihmbciigdaa
open Go.RowKit Go.Maps
set_option linter.unusedVariables false
set_option linter.unusedSimpArgs false
set_option maxRecDepth 100000
namespace Lr
section
variable {w w1 : World} {v : Value} {b : Nat} {l p q : PP} {k : ByteArray} {x : ByteArray × ByteArray} {S : Nat → Prop}
theorem drp_hit (h : x.1 = k) (p : PP) : drp (p ++ [x]) k = drp p k := by
  rw [drp_app]
  unfold drp
  simp [List.filter_cons, h]
theorem drp_miss (h : ¬ x.1 = k) (p : PP) : drp (p ++ [x]) k = drp p k ++ [x] := by
  rw [drp_app]
  unfold drp
  simp [List.filter_cons, h]
theorem drp_le (p : PP) (k : ByteArray) : (drp p k).length ≤ p.length := List.length_filter_le ..
set_option maxHeartbeats 2000000 in
theorem rdrop_any (h : Pr w b v l) (hl : l.length ≤ 1000) : Calls Try.prog 31 #[v, .string k] w fun e w' => ∃ v', e = .returned v' ∧ Pr w' w.heap.size v' (drp l k) ∧ Frm0 w w' := by
  have HH := Lib.hid h
  obtain ⟨A, c, rfl⟩ := h.form
  clear h
  go_enter Try.func31, Try.ntmps31
  go_wp2
  go_loopw [5, 6] (fun o i wr => ∃ (p q : PP), l = p ++ q ∧ i = .int .i64 p.length ∧ wr.ownsRow w.heap.size 56 2 o (drp p k).length ((drp p k).flatMap pc) ∧ Frm0 w wr) (fun _ i _ => l.length - (intOf i).toNat)
  case atStart => exact ⟨[], l, rfl, rfl, World.ownsRow_nil _ _ _ _, Frm.refl _ _⟩
  case round =>
    obtain ⟨p, q, hl2, rfl, hown, hF⟩ := hrel
    have hlen : l.length = p.length + q.length := by rw [hl2, List.length_append]
    cases q with
    | nil =>
      have hlen : l.length = p.length := hlen
      go_wp2
      go_ret
      rw [List.append_nil] at hl2
      subst hl2
      exact ⟨_, rfl, hown, hF⟩
    | cons x q =>
      rw [List.length_cons] at hlen
      have hat := HH.out.frm0 hF
      have HW := Lib.hid hat
      rw [hl2] at hat
      obtain ⟨g, c', e, c0, c1⟩ := hat.at_
      rw [← hl2] at e
      cases e
      have hk : p.length < l.length := by omega
      have hlx : l[p.length] = x := by simp [hl2]
      have HLX := Lib.hid hlx
      have hdl := drp_le p k
      have HLEN := Lib.hid hlen
      have HL2 := Lib.hid hl2
      clear hat hlx hlen hl2
      by_cases hx : x.1 = k
      · have d1 := str_eq hx
        go_wp2
        go_roundw
        case rel =>
          refine ⟨p ++ [x], q, ?_, ?_, ?_, hF⟩
          · simp [HL2.out]
          · apply congrArg (Value.int .i64)
            rw [List.length_append]
            simp
          · rw [drp_hit hx]; exact hown
        case measure => have := HLEN.out; simp [intOf]; omega
      · have d1 := str_ne hx
        go_wp2_with (first
          | (refine wpList_load_row rfl 56 (.tmp 23) rfl (f := pc) (l := l) HW.out pc_len rfl hk rfl Try.underlying56 rfl iPr ?_; rw [HLX.out, show (pc x).toArray = #[.string x.1, .string x.2] from rfl])
          | (at_builtin; refine wpList_append_sl rfl (.tmp 20) (.tmp 25) rfl Epr w.heap.size _ (.slice (some ⟨wr.heap.size, 0, none⟩) 1 1) (drp p k).length 1 ((drp p k).flatMap pc) (pc x) rfl rfl (hown.alloc _) (Sl.new _ _ _ 1 (by decide) (by omega)) rfl (pc_one x) (by unfold maxLen; omega) (by omega) (by have := hF.size; simp; omega) ?_; intro v2 w2 hown2 hf2 hat2; have hF2 := (hF.alloc (.cells (pc x).toArray 56)).then_ hf2 (fun i hi h => by have := (hown.lt i h).1; omega)))
        go_roundw
        case rel =>
          refine ⟨p ++ [x], q, ?_, ?_, ?_, hF2⟩
          · simp [HL2.out]
          · apply congrArg (Value.int .i64)
            rw [List.length_append]
            simp
          · rw [drp_miss hx, List.length_append, List.flatMap_append, List.flatMap_singleton]; exact hown2
        case measure => have := HLEN.out; simp [intOf]; omega
end
end Lr
end Go.Proofs.Ythmhihmbciigdaa
