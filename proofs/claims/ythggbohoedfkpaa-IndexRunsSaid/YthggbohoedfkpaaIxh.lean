/- The index's methods: Drop, Get, At, All, and those of nobody's index. -/
import Derived.Test.YthggbohoedfkpaaIxg
namespace Go.Proofs.Ythggbohoedfkpaa
open Go.RowKit
set_option linter.unusedVariables false
set_option linter.unusedSimpArgs false
set_option maxRecDepth 100000
namespace Ix
def en0 : En := ⟨0, ⟨#[]⟩, 0, 0, 0, 0, ⟨#[]⟩, 0, 0, 0, ⟨#[]⟩, ⟨#[]⟩, ⟨#[]⟩, ⟨#[]⟩⟩
section
variable {w w1 : World}
set_option maxHeartbeats 2000000 in
theorem drop_any (xb : Nat) (v : Value) (l : List En) (t : Int) (k : ByteArray) (w : World) (h : At w xb v l) :
    Calls Try.prog 37 #[.pointer (some ⟨xb, 0, none⟩), .int .i64 t, .string k] w fun e_ w' => ∃ v', e_ = .returned (.bool (found En.nm l (t, k.toList))) ∧ At w' xb v' (drp En.nm l (t, k.toList)) ∧ Frm (fun k => k = xb ∨ v.ownBlock = some k) w w' ∧ v'.ownBlock = v.ownBlock := by
  go_enter Try.func37, Try.ntmps37
  go_wp2_with fail
  refine (find_any xb v l t k _ h).mono ?_
  rintro e2 w2 ⟨rfl, hf2⟩
  have hA2 := h.frm0 hf2
  cases hfd : found En.nm l (t, k.toList)
  · have HFD := Lib.hid hfd
    have HA := Lib.hid hA2
    clear hfd hA2
    go_wp2
    go_ret
    exact ⟨v, by rw [HFD.out]; rfl, by rw [drp_not En.nm HFD.out]; exact HA.out, hf2.of0, rfl⟩
  · have hlt := found_lt En.nm hfd
    have HFD := Lib.hid hfd
    obtain ⟨pl, hplE⟩ : ∃ pl, place En.nm l (t, k.toList) = pl := ⟨_, rfl⟩
    have HPL := Lib.hid hplE
    rw [hplE] at hlt ⊢
    obtain ⟨A, c, rfl⟩ := owns_nil_form' hA2.row
    obtain ⟨g, o, rfl⟩ := sl_base hA2.sl (by omega)
    obtain ⟨g', c', he'⟩ : ∃ g' c', (Value.slice (some ⟨g, o, none⟩) l.length c) = .slice (some ⟨g', 0, none⟩) l.length c' := by
      rcases hA2.row.2 with ⟨h0, _⟩ | ⟨g', cap', cur', h0, _⟩
      · cases h0
      · exact ⟨_, _, h0⟩
    cases he'
    obtain ⟨p, hp⟩ : ∃ p, l.length = p + 1 := ⟨l.length - 1, by omega⟩
    have c0 : w2.cell? ⟨xb, 0, none⟩ = some (.slice (some ⟨g, 0, none⟩) (p + 1) c) := by rw [Bk.cell hA2.blk, ← hp]; rfl
    have hrow := hA2.row
    rw [hp] at hrow
    have HD := Lib.hid (del_any g p c pl (xb + 1) (ecs l) w2 hrow (ecs_one l) (by omega) (by have := hA2.len; omega))
    have HA := Lib.hid hA2
    have HP := Lib.hid hp
    have hgx : g ≠ xb := by have := hA2.own g rfl; omega
    have hw1 : IntKind.i64.wrap ((pl : Int) + 1) = (pl : Int) + 1 := by rw [IntKind.wrap_i64]; have := hA2.len; omega
    clear hfd hplE hA2 hrow hp h
    go_wp2_with fail
    refine HD.out.mono ?_
    rintro e3 w3 ⟨rfl, ho3, hf3⟩
    have hx3 := hf3.blk HA.out.blk (fun h => hgx h.symm)
    have c3 : w3.cell? ⟨xb, 0, none⟩ = some (.slice (some ⟨g, 0, none⟩) l.length c) := by rw [Bk.cell hx3]; rfl
    have f3 := Bk.frozen hx3 0
    go_wp2
    go_ret
    have hst : Frm (fun k => k = xb) w3 (w3.setCell ⟨xb, 0, none⟩ (.slice (some ⟨g, 0, none⟩) p c)) := (Frm.refl _ w3).set1 0 _
    have hlen : (drp En.nm l (t, k.toList)).length = p := by rw [drp_len, HFD.out, HP.out]; rfl
    have hcs : ecs (drp En.nm l (t, k.toList)) = (ecs l).take (pl * 14) ++ (ecs l).drop ((pl + 1) * 14) := by
      unfold drp
      rw [HFD.out, HPL.out, if_pos rfl, ecs_app, ecs_take l pl (by omega), ecs_drop l (pl + 1) (by omega)]
    refine ⟨.slice (some ⟨g, 0, none⟩) p c, by rw [HFD.out]; rfl, ⟨Bk.set hx3 0 _, ?_, drp_sorted En.nm HA.out.sorted _, by have := HA.out.len; have := HP.out; omega⟩, ?_, rfl⟩
    · rw [hlen, hcs]
      exact owns_frm ho3 hst (fun g' hg => by cases hg; exact hgx)
    · exact ((hf2.of0 (S := fun k => k = xb ∨ (Value.slice (some ⟨g, 0, none⟩) l.length c).ownBlock = some k)).then_ hf3 (fun k _ h => .inr (by rw [h]; rfl))).then_ hst (fun k _ h => .inl h)

/-- The entry of a name, or none. -/
def gt (l : List En) (n : Nam) : En := if found En.nm l n = true then (l[place En.nm l n]?).getD en0 else en0
set_option maxHeartbeats 2000000 in
theorem get_any (xb : Nat) (v : Value) (l : List En) (t : Int) (k : ByteArray) (w : World) (h : At w xb v l) :
    Calls Try.prog 30 #[.pointer (some ⟨xb, 0, none⟩), .int .i64 t, .string k] w fun e_ w' => e_ = .returned (.tuple #[.agg (gt l (t, k.toList)).cells.toArray, .bool (found En.nm l (t, k.toList))]) ∧ Frm0 w w' := by
  have hz := Bk.new w (.cells #[.int .i64 0, .string ⟨#[]⟩, .int .i64 0, .int .i64 0, .int .i64 0, .int .i64 0, .string ⟨#[]⟩, .int .i64 0, .int .i64 0, .int .i64 0, .string ⟨#[]⟩, .string ⟨#[]⟩, .string ⟨#[]⟩, .string ⟨#[]⟩] 52)
  have hF := (Frm.refl (fun _ => False) w).alloc (.cells #[.int .i64 0, .string ⟨#[]⟩, .int .i64 0, .int .i64 0, .int .i64 0, .int .i64 0, .string ⟨#[]⟩, .int .i64 0, .int .i64 0, .int .i64 0, .string ⟨#[]⟩, .string ⟨#[]⟩, .string ⟨#[]⟩, .string ⟨#[]⟩] 52)
  have hA := h.frm0 hF
  clear h
  go_enter Try.func30, Try.ntmps30
  go_wp2_with fail
  generalize w.alloc (.cells #[.int .i64 0, .string ⟨#[]⟩, .int .i64 0, .int .i64 0, .int .i64 0, .int .i64 0, .string ⟨#[]⟩, .int .i64 0, .int .i64 0, .int .i64 0, .string ⟨#[]⟩, .string ⟨#[]⟩, .string ⟨#[]⟩, .string ⟨#[]⟩] 52) = W at *
  generalize hrb : w.heap.size = rb at *
  refine (find_any xb v l t k _ hA).mono ?_
  rintro e2 w2 ⟨rfl, hf2⟩
  have hA2 := hA.frm0 hf2
  have hz2 := hf2.blk hz (fun h => h)
  have hF2 := hF.trans hf2
  clear hA hz hF hf2
  cases hfd : found En.nm l (t, k.toList)
  · have HFD := Lib.hid hfd
    clear hfd hA2
    go_wp2_with (refine wpList_store_blk rfl 52 (.tmp 6) (.tmp 20) rfl hz2 rfl rfl iE (us := #[.int .i64 0, .string ⟨#[]⟩, .int .i64 0, .int .i64 0, .int .i64 0, .int .i64 0, .string ⟨#[]⟩, .int .i64 0, .int .i64 0, .int .i64 0, .string ⟨#[]⟩, .string ⟨#[]⟩, .string ⟨#[]⟩, .string ⟨#[]⟩]) rfl rfl rfl ?_; intro w9 hb9 hf9)
    (try simp only [Exit.inBlock, Exit.then])
    refine ret_cell1 (l := [.int .i64 0, .string ⟨#[]⟩, .int .i64 0, .int .i64 0, .int .i64 0, .int .i64 0, .string ⟨#[]⟩, .int .i64 0, .int .i64 0, .int .i64 0, .string ⟨#[]⟩, .string ⟨#[]⟩, .string ⟨#[]⟩, .string ⟨#[]⟩]) rfl Try.underlying52 rfl iE hb9 rfl rfl rfl rfl ?_
    exact ⟨by unfold gt; rw [HFD.out]; rfl, hF2.then_ hf9 (fun i hi e => by omega)⟩
  · have hlt := found_lt En.nm hfd
    have HFD := Lib.hid hfd
    obtain ⟨pl, hplE⟩ : ∃ pl, place En.nm l (t, k.toList) = pl := ⟨_, rfl⟩
    have HPL := Lib.hid hplE
    rw [hplE] at hlt ⊢
    obtain ⟨A, c, rfl⟩ := owns_nil_form' hA2.row
    obtain ⟨g, o, rfl⟩ := sl_base hA2.sl (by omega)
    have c0 : w2.cell? ⟨xb, 0, none⟩ = some (.slice (some ⟨g, o, none⟩) l.length c) := by rw [Bk.cell hA2.blk]; rfl
    have hrg := sl_range hA2.sl rfl pl hlt
    obtain ⟨e, hee⟩ : ∃ e, l[pl] = e := ⟨_, rfl⟩
    rw [hee] at hrg
    have HEE := Lib.hid hee
    have hlt2 : (pl : Int) < (l.length : Int) := by omega
    have hge2 : (0 : Int) ≤ (pl : Int) := by omega
    clear hfd hplE hA2 hee
    go_wp2_with (first
      | (refine wpList_load_mid rfl 52 (.tmp 26) rfl g (o + pl * 14) rfl e.cells _ hrg Try.underlying52 rfl (by rw [iE]; rfl) ?_)
      | (refine wpList_store_blk rfl 52 (.tmp 6) (.tmp 27) rfl hz2 rfl rfl iE (us := e.cells.toArray) rfl rfl (List.all_eq_true.2 (en_one e)) ?_; intro w9 hb9 hf9))
    (try simp only [Exit.inBlock, Exit.then])
    refine ret_cell1 (l := e.cells) rfl Try.underlying52 rfl iE hb9 rfl rfl rfl rfl ?_
    refine ⟨?_, hF2.then_ hf9 (fun i hi e => by omega)⟩
    unfold gt
    rw [HFD.out, HPL.out, if_pos rfl, List.getElem?_eq_getElem hlt, HEE.out]
    rfl

/-- The entry at a place, or none. -/
def ati (l : List En) (i : Int) : En := if 0 ≤ i ∧ i < l.length then (l[i.toNat]?).getD en0 else en0
set_option maxHeartbeats 2000000 in
theorem at_any (xb : Nat) (v : Value) (l : List En) (i : Int) (w : World) (h : At w xb v l) :
    Calls Try.prog 32 #[.pointer (some ⟨xb, 0, none⟩), .int .i64 i] w fun e_ w' => e_ = .returned (.tuple #[.agg (ati l i).cells.toArray, .bool (decide (0 ≤ i ∧ i < l.length))]) ∧ Frm0 w w' := by
  have hz2 := Bk.new w (.cells #[.int .i64 0, .string ⟨#[]⟩, .int .i64 0, .int .i64 0, .int .i64 0, .int .i64 0, .string ⟨#[]⟩, .int .i64 0, .int .i64 0, .int .i64 0, .string ⟨#[]⟩, .string ⟨#[]⟩, .string ⟨#[]⟩, .string ⟨#[]⟩] 52)
  have hF2 := (Frm.refl (fun _ => False) w).alloc (.cells #[.int .i64 0, .string ⟨#[]⟩, .int .i64 0, .int .i64 0, .int .i64 0, .int .i64 0, .string ⟨#[]⟩, .int .i64 0, .int .i64 0, .int .i64 0, .string ⟨#[]⟩, .string ⟨#[]⟩, .string ⟨#[]⟩, .string ⟨#[]⟩] 52)
  have hA2 := h.frm0 hF2
  clear h
  go_enter Try.func32, Try.ntmps32
  go_upto_region 1 with (fail)
  generalize w.alloc (.cells #[.int .i64 0, .string ⟨#[]⟩, .int .i64 0, .int .i64 0, .int .i64 0, .int .i64 0, .string ⟨#[]⟩, .int .i64 0, .int .i64 0, .int .i64 0, .string ⟨#[]⟩, .string ⟨#[]⟩, .string ⟨#[]⟩, .string ⟨#[]⟩] 52) = W at *
  generalize hrb : w.heap.size = rb at *
  by_cases h0 : i < 0
  · have d0 : decide (i < 0) = true := decide_eq_true h0
    go_wp2_with (refine wpList_store_blk rfl 52 (.tmp 4) (.tmp 14) rfl hz2 rfl rfl iE (us := #[.int .i64 0, .string ⟨#[]⟩, .int .i64 0, .int .i64 0, .int .i64 0, .int .i64 0, .string ⟨#[]⟩, .int .i64 0, .int .i64 0, .int .i64 0, .string ⟨#[]⟩, .string ⟨#[]⟩, .string ⟨#[]⟩, .string ⟨#[]⟩]) rfl rfl rfl ?_; intro w9 hb9 hf9)
    (try simp only [Exit.inBlock, Exit.then])
    refine ret_cell1 (l := [.int .i64 0, .string ⟨#[]⟩, .int .i64 0, .int .i64 0, .int .i64 0, .int .i64 0, .string ⟨#[]⟩, .int .i64 0, .int .i64 0, .int .i64 0, .string ⟨#[]⟩, .string ⟨#[]⟩, .string ⟨#[]⟩, .string ⟨#[]⟩]) rfl Try.underlying52 rfl iE hb9 rfl rfl rfl rfl ?_
    have hn : ¬ (0 ≤ i ∧ i < (l.length : Int)) := by omega
    exact ⟨by unfold ati; rw [if_neg hn, decide_eq_false hn]; rfl, hF2.then_ hf9 (fun i hi e => by omega)⟩
  · have d0 : decide (i < 0) = false := decide_eq_false h0
    go_wp2_with fail
    refine (len_any xb v l _ hA2).mono ?_
    rintro e1 w1 ⟨rfl, rfl⟩
    by_cases h1 : (l.length : Int) ≤ i
    · have d1 : decide ((l.length : Int) ≤ i) = true := decide_eq_true h1
      go_wp2_with (refine wpList_store_blk rfl 52 (.tmp 4) (.tmp 14) rfl hz2 rfl rfl iE (us := #[.int .i64 0, .string ⟨#[]⟩, .int .i64 0, .int .i64 0, .int .i64 0, .int .i64 0, .string ⟨#[]⟩, .int .i64 0, .int .i64 0, .int .i64 0, .string ⟨#[]⟩, .string ⟨#[]⟩, .string ⟨#[]⟩, .string ⟨#[]⟩]) rfl rfl rfl ?_; intro w9 hb9 hf9)
      (try simp only [Exit.inBlock, Exit.then])
      refine ret_cell1 (l := [.int .i64 0, .string ⟨#[]⟩, .int .i64 0, .int .i64 0, .int .i64 0, .int .i64 0, .string ⟨#[]⟩, .int .i64 0, .int .i64 0, .int .i64 0, .string ⟨#[]⟩, .string ⟨#[]⟩, .string ⟨#[]⟩, .string ⟨#[]⟩]) rfl Try.underlying52 rfl iE hb9 rfl rfl rfl rfl ?_
      have hn : ¬ (0 ≤ i ∧ i < (l.length : Int)) := by omega
      exact ⟨by unfold ati; rw [if_neg hn, decide_eq_false hn]; rfl, hF2.then_ hf9 (fun i hi e => by omega)⟩
    · have d1 : decide ((l.length : Int) ≤ i) = false := decide_eq_false h1
      obtain ⟨pl, rfl⟩ : ∃ pl : Nat, i = pl := ⟨i.toNat, by omega⟩
      have hlt : pl < l.length := by omega
      obtain ⟨A, c, rfl⟩ := owns_nil_form' hA2.row
      obtain ⟨g, o, rfl⟩ := sl_base hA2.sl (by omega)
      have c0 : W.cell? ⟨xb, 0, none⟩ = some (.slice (some ⟨g, o, none⟩) l.length c) := by rw [Bk.cell hA2.blk]; rfl
      have hrg := sl_range hA2.sl rfl pl hlt
      obtain ⟨e, hee⟩ : ∃ e, l[pl] = e := ⟨_, rfl⟩
      rw [hee] at hrg
      have HEE := Lib.hid hee
      have hlt2 : (pl : Int) < (l.length : Int) := by omega
      have hge2 : (0 : Int) ≤ (pl : Int) := by omega
      clear hA2 hee
      go_wp2_with (first
        | (refine wpList_load_mid rfl 52 (.tmp 20) rfl g (o + pl * 14) rfl e.cells _ hrg Try.underlying52 rfl (by rw [iE]; rfl) ?_)
        | (refine wpList_store_blk rfl 52 (.tmp 4) (.tmp 21) rfl hz2 rfl rfl iE (us := e.cells.toArray) rfl rfl (List.all_eq_true.2 (en_one e)) ?_; intro w9 hb9 hf9))
      (try simp only [Exit.inBlock, Exit.then])
      refine ret_cell1 (l := e.cells) rfl Try.underlying52 rfl iE hb9 rfl rfl rfl rfl ?_
      refine ⟨?_, hF2.then_ hf9 (fun i hi e => by omega)⟩
      unfold ati
      rw [if_pos ⟨hge2, hlt2⟩, decide_eq_true (show (0 : Int) ≤ (pl : Int) ∧ (pl : Int) < (l.length : Int) from ⟨hge2, hlt2⟩), Int.toNat_natCast, List.getElem?_eq_getElem hlt, HEE.out]
      rfl

theorem all_any (xb : Nat) (v : Value) (l : List En) (w : World) (h : At w xb v l) :
    Calls Try.prog 26 #[.pointer (some ⟨xb, 0, none⟩)] w fun e_ w' => ∃ v', e_ = .returned v' ∧ w'.ownsRow w.heap.size 52 14 v' l.length (ecs l) ∧ Frm0 w w' := by
  have c0 : w.cell? ⟨xb, 0, none⟩ = some v := by rw [Bk.cell h.blk]; rfl
  have HC := Lib.hid (clone_any v l.length (ecs l) w h.sl (ecs_len l) (ecs_one l) (by have := h.len; omega))
  clear h
  go_enter Try.func26, Try.ntmps26
  go_wp2_with fail
  refine HC.out.mono ?_
  rintro e1 w1 ⟨v', rfl, ho, hf⟩
  go_wp2
  go_ret
  exact ⟨v', rfl, ho, hf⟩
theorem all_nil (w : World) : Calls Try.prog 26 #[.pointer none] w fun e w' => e = .returned (.slice none 0 0) ∧ w = w' := by
  go_enter Try.func26, Try.ntmps26
  go_wp2
  go_ret
  exact ⟨rfl, rfl⟩

set_option maxHeartbeats 1000000 in
theorem drop_nil (t : Int) (k : ByteArray) (w : World) : Calls Try.prog 37 #[.pointer none, .int .i64 t, .string k] w fun e w' => e = .returned (.bool false) ∧ Frm0 w w' := by
  go_enter Try.func37, Try.ntmps37
  go_wp2_with fail
  refine (find_nil t k _).mono ?_
  rintro e1 w1 ⟨rfl, hf⟩
  go_wp2
  go_ret
  exact ⟨rfl, hf⟩
theorem get_nil (t : Int) (k : ByteArray) (w : World) : Calls Try.prog 30 #[.pointer none, .int .i64 t, .string k] w fun e w' => e = .returned (.tuple #[.agg #[.int .i64 0, .string ⟨#[]⟩, .int .i64 0, .int .i64 0, .int .i64 0, .int .i64 0, .string ⟨#[]⟩, .int .i64 0, .int .i64 0, .int .i64 0, .string ⟨#[]⟩, .string ⟨#[]⟩, .string ⟨#[]⟩, .string ⟨#[]⟩], .bool false]) ∧ Frm0 w w' := by
  have hz := Bk.new w (.cells #[.int .i64 0, .string ⟨#[]⟩, .int .i64 0, .int .i64 0, .int .i64 0, .int .i64 0, .string ⟨#[]⟩, .int .i64 0, .int .i64 0, .int .i64 0, .string ⟨#[]⟩, .string ⟨#[]⟩, .string ⟨#[]⟩, .string ⟨#[]⟩] 52)
  have hF := (Frm.refl (fun _ => False) w).alloc (.cells #[.int .i64 0, .string ⟨#[]⟩, .int .i64 0, .int .i64 0, .int .i64 0, .int .i64 0, .string ⟨#[]⟩, .int .i64 0, .int .i64 0, .int .i64 0, .string ⟨#[]⟩, .string ⟨#[]⟩, .string ⟨#[]⟩, .string ⟨#[]⟩] 52)
  go_enter Try.func30, Try.ntmps30
  go_wp2_with fail
  generalize w.alloc (.cells #[.int .i64 0, .string ⟨#[]⟩, .int .i64 0, .int .i64 0, .int .i64 0, .int .i64 0, .string ⟨#[]⟩, .int .i64 0, .int .i64 0, .int .i64 0, .string ⟨#[]⟩, .string ⟨#[]⟩, .string ⟨#[]⟩, .string ⟨#[]⟩] 52) = W at *
  generalize hrb : w.heap.size = rb at *
  refine (find_nil t k _).mono ?_
  rintro e1 w1 ⟨rfl, hf⟩
  have hz2 := hf.blk hz (fun h => h)
  go_wp2_with (refine wpList_store_blk rfl 52 (.tmp 6) (.tmp 20) rfl hz2 rfl rfl iE (us := #[.int .i64 0, .string ⟨#[]⟩, .int .i64 0, .int .i64 0, .int .i64 0, .int .i64 0, .string ⟨#[]⟩, .int .i64 0, .int .i64 0, .int .i64 0, .string ⟨#[]⟩, .string ⟨#[]⟩, .string ⟨#[]⟩, .string ⟨#[]⟩]) rfl rfl rfl ?_; intro w9 hb9 hf9)
  (try simp only [Exit.inBlock, Exit.then])
  refine ret_cell1 (l := [.int .i64 0, .string ⟨#[]⟩, .int .i64 0, .int .i64 0, .int .i64 0, .int .i64 0, .string ⟨#[]⟩, .int .i64 0, .int .i64 0, .int .i64 0, .string ⟨#[]⟩, .string ⟨#[]⟩, .string ⟨#[]⟩, .string ⟨#[]⟩]) rfl Try.underlying52 rfl iE hb9 rfl rfl rfl rfl ?_
  exact ⟨rfl, (hF.trans hf).then_ hf9 (fun i hi e => by omega)⟩
theorem at_nil (w : World) : Calls Try.prog 32 #[.pointer none, .int .i64 0] w fun e w' => e = .returned (.tuple #[.agg #[.int .i64 0, .string ⟨#[]⟩, .int .i64 0, .int .i64 0, .int .i64 0, .int .i64 0, .string ⟨#[]⟩, .int .i64 0, .int .i64 0, .int .i64 0, .string ⟨#[]⟩, .string ⟨#[]⟩, .string ⟨#[]⟩, .string ⟨#[]⟩], .bool false]) ∧ Frm0 w w' := by
  have hz := Bk.new w (.cells #[.int .i64 0, .string ⟨#[]⟩, .int .i64 0, .int .i64 0, .int .i64 0, .int .i64 0, .string ⟨#[]⟩, .int .i64 0, .int .i64 0, .int .i64 0, .string ⟨#[]⟩, .string ⟨#[]⟩, .string ⟨#[]⟩, .string ⟨#[]⟩] 52)
  have hF := (Frm.refl (fun _ => False) w).alloc (.cells #[.int .i64 0, .string ⟨#[]⟩, .int .i64 0, .int .i64 0, .int .i64 0, .int .i64 0, .string ⟨#[]⟩, .int .i64 0, .int .i64 0, .int .i64 0, .string ⟨#[]⟩, .string ⟨#[]⟩, .string ⟨#[]⟩, .string ⟨#[]⟩] 52)
  go_enter Try.func32, Try.ntmps32
  go_wp2_with fail
  generalize w.alloc (.cells #[.int .i64 0, .string ⟨#[]⟩, .int .i64 0, .int .i64 0, .int .i64 0, .int .i64 0, .string ⟨#[]⟩, .int .i64 0, .int .i64 0, .int .i64 0, .string ⟨#[]⟩, .string ⟨#[]⟩, .string ⟨#[]⟩, .string ⟨#[]⟩] 52) = W at *
  generalize hrb : w.heap.size = rb at *
  refine (len_nil _).mono ?_
  rintro e1 w1 ⟨rfl, rfl⟩
  go_wp2_with (refine wpList_store_blk rfl 52 (.tmp 4) (.tmp 14) rfl hz rfl rfl iE (us := #[.int .i64 0, .string ⟨#[]⟩, .int .i64 0, .int .i64 0, .int .i64 0, .int .i64 0, .string ⟨#[]⟩, .int .i64 0, .int .i64 0, .int .i64 0, .string ⟨#[]⟩, .string ⟨#[]⟩, .string ⟨#[]⟩, .string ⟨#[]⟩]) rfl rfl rfl ?_; intro w9 hb9 hf9)
  (try simp only [Exit.inBlock, Exit.then])
  refine ret_cell1 (l := [.int .i64 0, .string ⟨#[]⟩, .int .i64 0, .int .i64 0, .int .i64 0, .int .i64 0, .string ⟨#[]⟩, .int .i64 0, .int .i64 0, .int .i64 0, .string ⟨#[]⟩, .string ⟨#[]⟩, .string ⟨#[]⟩, .string ⟨#[]⟩]) rfl Try.underlying52 rfl iE hb9 rfl rfl rfl rfl ?_
  exact ⟨rfl, hF.then_ hf9 (fun i hi e => by omega)⟩
theorem put_nil (e : En) (w : World) : Calls Try.prog 25 #[.pointer none, .agg e.cells.toArray] w fun e_ w' => e_ = .returned (.bool false) ∧ Frm0 w w' := by
  have hF := (Frm.refl (fun _ => False) w).alloc (.cells e.cells.toArray 52)
  go_enter Try.func25, Try.ntmps25
  go_wp2
  go_ret
  exact ⟨rfl, hF⟩

end
end Ix
end Go.Proofs.Ythggbohoedfkpaa
