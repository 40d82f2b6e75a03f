/- The client: contract of Open. -/
import Derived.Test.YteokiiolchpndaaClg
namespace Go.Proofs.Yteokiiolchpndaa
open Go.RowKit
set_option linter.unusedVariables false
set_option linter.unusedSimpArgs false
/-- The serials up to the k-th that were asked, and not told. -/
def opensTo (vs : List Vw) (k : Nat) : List Int := ((List.range k).filter (fun i : Nat => (vTold vs ((i : Int) + 1)).isNone)).map (fun i : Nat => (i : Int) + 1)
theorem opensTo_snoc (vs : List Vw) (k : Nat) : opensTo vs (k + 1) = opensTo vs k ++ (if (vTold vs ((k : Int) + 1)).isNone then [(k : Int) + 1] else []) := by
  unfold opensTo
  rw [List.range_succ, List.filter_append, List.map_append]
  congr 1
  rw [List.filter_cons]
  split <;> simp
theorem opensTo_len (vs : List Vw) (k : Nat) : (opensTo vs k).length ≤ k := by
  unfold opensTo
  rw [List.length_map]
  have := List.length_filter_le (fun i : Nat => (vTold vs ((i : Int) + 1)).isNone) (List.range k)
  rwa [List.length_range] at this
section
variable {w : World} {cb : Nat} {id : Int} {v : Value} {ls : List Ln}
set_option maxHeartbeats 1000000 in
set_option maxRecDepth 100000 in
theorem open_any (h : Cl w cb id v ls) (hl : ls.length ≤ 900) :
    Calls Try.prog 41 #[.pointer (some ⟨cb, 0, none⟩)] w fun e w' => ∃ u, e = .returned u ∧ w'.ownsRow w.heap.size 3 1 u (opensTo (vw ls) ls.length).length (wints (opensTo (vw ls) ls.length)) ∧ Frm0 w w' := by
  have HH := Lib.hid h
  clear h
  go_enter Try.func41, Try.ntmps41
  go_wp2_with fail
  go_loopw [3, 4] (fun u i wr => ∃ (k : Nat), k ≤ ls.length ∧ i = .int .i64 ((k : Int) + 1) ∧ wr.ownsRow w.heap.size 3 1 u (opensTo (vw ls) k).length (wints (opensTo (vw ls) k)) ∧ Frm0 w wr) (fun _ i _ => ls.length + 1 - (intOf i).toNat)
  case atStart => exact ⟨0, by omega, rfl, World.ownsRow_nil _ _ _ _, Frm.refl _ _⟩
  case round =>
    obtain ⟨k, hk, rfl, hown, hF⟩ := hrel
    have hol := opensTo_len (vw ls) k
    have HL := Lib.hid (fun w (h : Cl w cb id v ls) => last_any h)
    by_cases hlt : k < ls.length
    · have d1 : decide ((k : Int) + 1 ≤ (ls.length : Int)) = true := decide_eq_true (by omega)
      have hki : (k : Int) + 1 ≤ (ls.length : Int) := by omega
      have HS := Lib.hid (opensTo_snoc (vw ls) k)
      have HT := Lib.hid (told_any (HH.out.frm0 hF) (by omega) ((k : Int) + 1))
      have hM : (opensTo (vw ls) k).length + 1 ≤ maxLen := by unfold maxLen; omega
      go_wp2_with fail
      refine (HL.out _ (HH.out.frm0 hF)).mono ?_
      rintro e w1 ⟨rfl, rfl⟩
      go_wp2_with fail
      cases ht : vTold (vw ls) ((k : Int) + 1) with
      | some y =>
        rw [ht] at HT HS
        obtain ⟨z0, z1, z2, z3, z4, z5⟩ := y
        simp only [Option.getD_some, Option.isSome_some, Option.isNone_some, Bool.false_eq_true, if_false, List.append_nil] at HT HS
        unfold anV at HT
        simp only at HT
        clear ht
        refine HT.out.mono ?_
        rintro e w2 ⟨rfl, hf2⟩
        go_wp2_with fail
        go_roundw
        case rel => exact ⟨k + 1, by omega, by go_num, by rw [HS.out]; exact (owns_frm0 hown hf2).alloc _, (hF.trans hf2).alloc _⟩
        case measure => simp [intOf]; omega
      | none =>
        rw [ht] at HT HS
        simp only [Option.getD_none, Option.isSome_none, Option.isNone_none, if_true] at HT HS
        unfold anV an0 at HT
        simp only at HT
        clear ht
        refine HT.out.mono ?_
        rintro e w2 ⟨rfl, hf2⟩
        have hown2 := (owns_frm0 hown hf2).alloc (.cells #[.int .i64 0, .int .i64 0, .int .i64 0, .string ⟨#[]⟩, .int .i64 0, .int .i64 0] 86)
        have hF2 := (hF.trans hf2).alloc (.cells #[.int .i64 0, .int .i64 0, .int .i64 0, .string ⟨#[]⟩, .int .i64 0, .int .i64 0] 86)
        have hz2 := hF2.size
        have hsl : Sl ((w2.alloc (.cells #[.int .i64 0, .int .i64 0, .int .i64 0, .string ⟨#[]⟩, .int .i64 0, .int .i64 0] 86)).alloc (.cells #[.int .i64 ((k : Int) + 1)] 3)) (.slice (some ⟨w2.heap.size + 1, 0, none⟩) 1 1) 1 (wints [(k : Int) + 1]) := by
          have := Sl.new (w2.alloc (.cells #[.int .i64 0, .int .i64 0, .int .i64 0, .string ⟨#[]⟩, .int .i64 0, .int .i64 0] 86)) #[.int .i64 ((k : Int) + 1)] 3 1 (by decide) (by omega)
          rwa [show (w2.alloc (.cells #[.int .i64 0, .int .i64 0, .int .i64 0, .string ⟨#[]⟩, .int .i64 0, .int .i64 0] 86)).heap.size = w2.heap.size + 1 by simp] at this
        have hz3 : w.heap.size ≤ w2.heap.size := by have := (hF.trans hf2).size; omega
        go_wp2_with (at_builtin; refine wpList_append_sl rfl (.tmp 21) (.tmp 23) rfl Ewin w.heap.size _ (.slice (some ⟨w2.heap.size + 1, 0, none⟩) 1 1) (opensTo (vw ls) k).length 1 (wints (opensTo (vw ls) k)) (wints [(k : Int) + 1]) rfl rfl (hown2.alloc _) hsl rfl (wints_one _) (by omega) (by omega) (by simp; omega) ?_; intro v3 w4 hown4 hf4 hat4)
        have hF4 : Frm0 w w4 := ((hF2.alloc (.cells #[.int .i64 ((k : Int) + 1)] 3))).then_ hf4 (fun i hi e => by have := (hown.lt _ e).1; omega)
        go_wp2_with fail
        go_roundw
        case rel => exact ⟨k + 1, by omega, by go_num, by rw [HS.out, wints_app, List.length_append]; exact hown4, hF4⟩
        case measure => simp [intOf]; omega
    · obtain rfl : k = ls.length := by omega
      have d1 : decide ((ls.length : Int) + 1 ≤ (ls.length : Int)) = false := decide_eq_false (by omega)
      go_wp2_with fail
      refine (HL.out _ (HH.out.frm0 hF)).mono ?_
      rintro e w1 ⟨rfl, rfl⟩
      go_wp2
      go_ret
      exact ⟨_, rfl, hown, hF⟩
end
end Go.Proofs.Yteokiiolchpndaa
