/- The walk of PackBack. -/
import Derived.Test.YthmhihmbciigdaaPkh
import Derived.Test.YthmhihmbciigdaaR
import Derived.Deep.RegionHeld3
namespace Go.Proofs.Ythmhihmbciigdaa
open Go.RowKit Go.ChangeShapes Go.WideShapes
set_option linter.unusedVariables false
set_option linter.unusedSimpArgs false

structure PItem where
  kind : Int
  n : Int
  s : ByteArray
def PItem.cells (x : PItem) : List Value := [.int .u8 x.kind, .int .i64 x.n, .string x.s]
structure PItem.Good (x : PItem) : Prop where
  kind : (Lit.int .u8 x.kind).wf = true
  n : (Lit.int .i64 x.n).wf = true
  s : x.s.size ≤ maxLen
theorem PItem.cells_len (x : PItem) : x.cells.length = 3 := rfl
theorem parse_PItem : (∃ fs, Try.prog.underlying 72 = some (.struct fs)) ∧ Try.prog.cellsOf 72 = 3 ∧ ∀ {H : Type} {enc : TypeId × Value → H} {w : World} {base : Nat} {spare : Nat → Bool} {held : Bool} n cs x, cs.length = 3 → DataW.trod enc Try.prog w base spare held n 72 cs = some x →
    ∃ a : PItem, cs = a.cells ∧ a.Good := by
  refine ⟨⟨_, Try.underlying72⟩, by kernel_rfl, fun n cs x hl h => ?_⟩
  have hc0 : Try.prog.cellsOf 5 = 1 := by kernel_rfl
  have hc1 : Try.prog.cellsOf 3 = 1 := by kernel_rfl
  have hc2 : Try.prog.cellsOf 9 = 1 := by kernel_rfl
  match cs, hl with
  | [c0, c1, c2], _ =>
    obtain ⟨xs, m, rfl, hx, _, hxl, hf⟩ := DataW.trod_struct Try.underlying72 h
    match xs, hxl with
    | [x0, x1, x2], _ =>
      have h0 := hf 0 _ rfl
      have h1 := hf 1 _ rfl
      have h2 := hf 2 _ rfl
      clear hf
      simp [hc0, hc1, hc2] at h0
      simp [hc0, hc1, hc2] at h1
      simp [hc0, hc1, hc2] at h2
      obtain ⟨a0, e0, _, g0⟩ := DataW.trod_int Try.underlying5 h0
      simp at e0
      subst e0
      obtain ⟨a1, e1, _, g1⟩ := DataW.trod_int Try.underlying3 h1
      simp at e1
      subst e1
      obtain ⟨a2, e2, _, g2⟩ := DataW.trod_string Try.underlying9 h2
      simp at e2
      subst e2
      exact ⟨⟨a0, a1, a2⟩, rfl, ⟨g0, g1, g2⟩⟩


theorem pitem_at {w : World} {b o : Nat} {l : List PItem} (h : ∀ j u, (l.flatMap PItem.cells)[j]? = some u → w.cell? ⟨b, o + j, none⟩ = some u) (k : Nat) (hk : k < l.length) :
    w.cell? ⟨b, o + k * 3, none⟩ = some (.int .u8 (l[k]).kind) ∧ w.cell? ⟨b, o + k * 3 + 1, none⟩ = some (.int .i64 (l[k]).n) ∧ w.cell? ⟨b, o + k * 3 + 2, none⟩ = some (.string (l[k]).s) := by
  have h0 := flat_at PItem.cells 3 PItem.cells_len l k 0 l[k] (List.getElem?_eq_getElem hk) (by omega)
  have h1 := flat_at PItem.cells 3 PItem.cells_len l k 1 l[k] (List.getElem?_eq_getElem hk) (by omega)
  have h2 := flat_at PItem.cells 3 PItem.cells_len l k 2 l[k] (List.getElem?_eq_getElem hk) (by omega)
  exact ⟨h _ _ h0, h _ _ h1, h _ _ h2⟩

namespace Pk
/-- May the item be laid? -/
def fits (x : PItem) : Bool := !(decide (x.kind % 3 = 0) && (decide (x.n < 0) || decide (4611686018427387904 < x.n)))
/-- The bytes that an item adds. -/
def piece (x : PItem) : List Nat := if x.kind % 3 = 0 then (if fits x then numB x.n.toNat else []) else if x.kind % 3 = 1 then numB x.s.size ++ bytes x.s else bytes x.s
def lay (l : List PItem) : List Nat := l.flatMap piece
def fit (l : List PItem) : Bool := l.all fits
theorem numB_len {n : Nat} (hn : n ≤ 9223372036854775807) : (numB n).length ≤ 10 := by
  have := pre_len9 (n / 128) (by omega)
  simp [numB]; omega
theorem piece_len (x : PItem) (hs : x.s.size ≤ 300) : (piece x).length ≤ 310 := by
  unfold piece
  split
  · split
    · rename_i h1 h2
      have : x.n ≤ 4611686018427387904 := by
        unfold fits at h2
        simp [h1] at h2
        omega
      have := numB_len (n := x.n.toNat) (by omega)
      omega
    · simp
  · split
    · have := numB_len (n := x.s.size) (by omega)
      rw [List.length_append, bytes_len]; omega
    · rw [bytes_len]; omega
theorem piece_lt (x : PItem) : ∀ b ∈ piece x, b < 256 := by
  intro b hb
  unfold piece at hb
  split at hb
  · split at hb
    · exact numB_lt _ b hb
    · simp at hb
  · split at hb
    · rcases List.mem_append.1 hb with hb | hb
      · exact numB_lt _ b hb
      · exact bytes_lt _ b hb
    · exact bytes_lt _ b hb
theorem lay_lt (l : List PItem) : ∀ b ∈ lay l, b < 256 := by
  intro b hb
  obtain ⟨x, _, hx⟩ := List.mem_flatMap.1 hb
  exact piece_lt x b hx
theorem lay_len : ∀ (l : List PItem), (∀ x ∈ l, x.s.size ≤ 300) → (lay l).length ≤ 310 * l.length
  | [], _ => by simp [lay]
  | x :: l, h => by
    have := lay_len l (fun y hy => h y (List.mem_cons_of_mem _ hy))
    have h2 := piece_len x (h x List.mem_cons_self)
    simp only [lay, List.flatMap_cons, List.length_append, List.length_cons] at *
    omega
theorem lay_take {l : List PItem} {k : Nat} (hk : k < l.length) : lay (l.take (k + 1)) = lay (l.take k) ++ piece l[k] := by
  unfold lay
  rw [List.take_add_one, List.flatMap_append, List.getElem?_eq_getElem hk]
  simp
theorem fit_take {l : List PItem} {k : Nat} (hk : k < l.length) : fit (l.take (k + 1)) = (fit (l.take k) && fits l[k]) := by
  unfold fit
  rw [List.take_add_one, List.all_append, List.getElem?_eq_getElem hk]
  simp
theorem lay_drop {l : List PItem} {k : Nat} (hk : k < l.length) : lay (l.drop k) = piece l[k] ++ lay (l.drop (k + 1)) := by
  unfold lay
  conv => lhs; rw [List.drop_eq_getElem_cons hk]
  rw [List.flatMap_cons]
theorem At.out {w0 w w1 : World} {pb : Nat} {u : Value} {l : List Nat} {bad : Bool} (h : At w pb u l bad) (hF : Frm0 w0 w) (hbb : w0.heap.size ≤ pb) (hf : Frm (fun k => k = pb ∨ u.ownBlock = some k) w w1) : Frm0 w0 w1 :=
  hF.then_ hf (fun i hi e => by
    rcases e with e | e
    · omega
    · have := h.own i e; omega)
theorem string_to {pb : Nat} {v : Value} {l : List Nat} {w : World} {X : ByteArray} (h : At w pb v l false) (hlen : l.length ≤ 1000000) (hX : txt l = X) :
    Calls Try.prog 44 #[.pointer (some ⟨pb, 0, none⟩)] w fun e w' => e = .returned (.string X) ∧ w = w' := by
  subst hX
  exact string_ok pb v l w h hlen
theorem keepP {w wa wb : World} {D ob : Nat} {i : Nat} {u : Value} (h : wa.cell? ⟨D, i, none⟩ = some u ∧ Frm0 w wa) (hf : Frm (fun k => k = ob) wa wb) (hD : D ≠ ob) (ho : w.heap.size ≤ ob) : wb.cell? ⟨D, i, none⟩ = some u ∧ Frm0 w wb :=
  ⟨hf.cell h.1 hD, h.2.then_ hf (fun i hi e => by omega)⟩
theorem ext0 (s t : ByteArray) : (s ++ t).extract 0 s.size = s := by
  refine bytes_inj ?_
  rw [bytes_extract, bytes_append]
  simp only [List.drop_zero, Nat.sub_zero]
  rw [← bytes_len s, List.take_left]
theorem ext1 (s t : ByteArray) : (s ++ t).extract s.size (s ++ t).size = t := by
  refine bytes_inj ?_
  rw [bytes_extract, bytes_append, ← bytes_len s, List.drop_left, List.take_of_length_le]
  rw [bytes_len, ByteArray.size_append, bytes_len]
  omega

set_option maxHeartbeats 2000000 in
set_option maxRecDepth 100000 in
theorem back_walk (v : Value) (l : List PItem) (w : World) (hs : Sl w v l.length (l.flatMap PItem.cells)) (hg : ∀ a ∈ l, PItem.Good a) :
    Calls Try.prog 10 #[v] w fun e w' => e = .returned (.bool true) ∧ Below w.heap.size w w' := by
  have hlen := hs.len
  obtain ⟨A, c, rfl⟩ := hs.form
  by_cases h40 : 40 < l.length
  · go_enter Try.func10, Try.ntmps10
    go_wp2_with fail
    refine (kawake _).mono ?_
    rintro e w1 ⟨rfl, hf1⟩
    go_wp2
    go_ret
    exact ⟨rfl, hf1.below (fun _ _ h => h)⟩
  have hcell : ∀ k (hk : k < l.length), ∃ b o, A = some ⟨b, o, none⟩ ∧ w.cell? ⟨b, o + k * 3, none⟩ = some (.int .u8 (l[k]).kind) ∧ w.cell? ⟨b, o + k * 3 + 1, none⟩ = some (.int .i64 (l[k]).n) ∧ w.cell? ⟨b, o + k * 3 + 2, none⟩ = some (.string (l[k]).s) ∧ (0 ≤ (l[k]).kind ∧ (l[k]).kind ≤ 255) ∧ (l[k]).s.size ≤ maxLen := by
    intro k hk
    rcases hs with ⟨A', c', _, hn, _⟩ | ⟨b, o, c', he, h0, h1, h2, h3, h4⟩
    · omega
    · cases he
      obtain ⟨x0, x1, x2⟩ := pitem_at h4 k hk
      have gg := hg _ (List.getElem_mem hk)
      exact ⟨b, o, rfl, x0, x1, x2, bounds_u8 gg.kind, gg.s⟩
  have HC := Lib.hid hcell
  clear hcell hs hg
  go_enter Try.func10, Try.ntmps10
  go_wp2_with fail
  refine (kawake _).mono ?_
  rintro e w1 ⟨rfl, hf1⟩
  have hA := new_packer w1
  have hF2 := hf1.alloc (.cells #[.slice none 0 0, .bool false] 70)
  have hbb : w.heap.size ≤ w1.heap.size := hf1.size
  clear hf1
  go_wp2_with fail
  generalize w1.alloc (.cells #[.slice none 0 0, .bool false] 70) = w2 at *
  generalize w1.heap.size = pb at *
  go_loopw [4, 5, 19] (fun t o i wr => ∃ (k : Nat) (u : Value), k ≤ l.length ∧ i = .int .i64 k ∧ t = .string (txt (lay (l.take k))) ∧ o = .bool (fit (l.take k)) ∧ At wr pb u (lay (l.take k)) (!fit (l.take k)) ∧ Hid (∀ x ∈ l.take k, x.s.size ≤ 300) ∧ Frm0 w wr) (fun _ _ i _ => l.length - (intOf i).toNat)
  case atStart => exact ⟨0, _, by omega, rfl, rfl, rfl, hA, by simp [Hid], hF2⟩
  case round =>
    clear hA hF2
    obtain ⟨k, u, hk, rfl, rfl, rfl, hA, hsm, hF⟩ := hrel
    have hL0 := lay_len _ hsm.out
    rw [List.length_take] at hL0
    have hLL : (lay (l.take k)).length ≤ 12400 := by omega
    by_cases hlt : k < l.length
    · have hLt := Lib.hid (lay_take hlt)
      have hFt := Lib.hid (fit_take hlt)
      have hsm2 : (l[k]).s.size ≤ 300 → Hid (∀ x ∈ l.take (k + 1), x.s.size ≤ 300) := by
        intro h x hx
        rw [List.take_add_one, List.getElem?_eq_getElem hlt] at hx
        rcases List.mem_append.1 hx with hx | hx
        · exact hsm.out x hx
        · simp at hx
          subst hx
          exact h
      obtain ⟨b, o, rfl, c0, c1, c2, hkd, hsm'⟩ := HC.out k hlt
      have c0 := hF.cell c0 (fun h => h)
      have c1 := hF.cell c1 (fun h => h)
      have c2 := hF.cell c2 (fun h => h)
      have hpd : piece l[k] = if (l[k]).kind % 3 = 0 then (if fits l[k] then numB (l[k]).n.toNat else []) else if (l[k]).kind % 3 = 1 then numB (l[k]).s.size ++ bytes (l[k]).s else bytes (l[k]).s := rfl
      have hfd : fits l[k] = !(decide ((l[k]).kind % 3 = 0) && (decide ((l[k]).n < 0) || decide (4611686018427387904 < (l[k]).n))) := rfl
      generalize piece l[k] = pc at *
      generalize fits l[k] = fs at *
      generalize (l[k]).kind = kd at *
      generalize (l[k]).s = s at *
      generalize (l[k]).n = n at *
      have hzt : (txt (lay (l.take k))).size = (lay (l.take k)).length := txt_size _
      clear hsm hL0
      generalize lay (l.take k) = L at *
      generalize fit (l.take k) = B at *
      generalize hTL : txt L = T at hzt ⊢
      have HTA : Hid (∀ m, txt (L ++ m) = T ++ txt m) := fun m => by rw [txt_app, hTL]
      have HTL := Lib.hid hTL
      clear hTL
      have HPD := Lib.hid hpd
      have HFD := Lib.hid hfd
      clear hpd hfd
      have hA2 := hA.frm0 ((Frm.refl (fun _ => False) wr).alloc (.cells #[.int .u8 kd, .int .i64 n, .string s] 72))
      have hF3 := hF.alloc (.cells #[.int .u8 kd, .int .i64 n, .string s] 72)
      have hbD := Bk.new wr (.cells #[.int .u8 kd, .int .i64 n, .string s] 72)
      have hDb := hA.lt
      have hDo := hA.own
      by_cases hs3 : 300 < s.size
      · go_wp2_with fail
        go_ret
        exact ⟨rfl, hF3.below (fun _ _ h => h)⟩
      have hsm3 := hsm2 (by omega)
      have HDO : ∀ X : Nat, Hid (∀ kk, kk = pb ∨ u.ownBlock = some kk → kk < wr.heap.size) := fun _ => by
        intro kk hkk
        rcases hkk with h | h
        · omega
        · exact (hDo kk h).2
      have HDO := HDO 0
      have x1 : (wr.alloc (.cells #[.int .u8 kd, .int .i64 n, .string s] 72)).cell? ⟨wr.heap.size, 1, none⟩ = some (.int .i64 n) := Bk.cell hbD 1
      have x2 : (wr.alloc (.cells #[.int .u8 kd, .int .i64 n, .string s] 72)).cell? ⟨wr.heap.size, 2, none⟩ = some (.string s) := Bk.cell hbD 2
      have k3 : kd % 3 = 0 ∨ kd % 3 = 1 ∨ kd % 3 = 2 := by omega
      rcases k3 with k3 | k3 | k3
      · have hcs : (n < 0 ∨ 4611686018427387904 < n) ∨ ∃ m : Nat, n = m ∧ m ≤ 4611686018427387904 := by
          by_cases h1 : n < 0
          · exact .inl (.inl h1)
          · by_cases h2 : 4611686018427387904 < n
            · exact .inl (.inr h2)
            · exact .inr ⟨n.toNat, by omega, by omega⟩
        rcases hcs with hbad | ⟨m, rfl, hm⟩
        · have e1 : fs = false := by
            rw [HFD.out]
            rcases hbad with h | h <;> simp [k3, h]
          have e2 : pc = [] := by rw [HPD.out, if_pos k3, e1]; rfl
          subst e1 e2
          have hdd : decide (n < 0) = true ∨ (decide (n < 0) = false ∧ decide (4611686018427387904 < n) = true) := by
            simp only [decide_eq_true_eq, decide_eq_false_iff_not]; omega
          have HNB := Lib.hid (num_bad n pb u L (!B) _ hA2 hbad)
          rcases hdd with d1 | ⟨d1, d2⟩
          all_goals
            go_wp2_with fail
            refine HNB.out.mono ?_
            rintro e w3 ⟨rfl, h3, hf3⟩
            have x1 := hf3.cell x1 (by simp; omega)
            have hF4 := hA2.out hF3 hbb (hf3.mono (fun _ _ e => .inl e))
            go_wp2_with fail
            go_roundw
            case rel => exact ⟨k + 1, u, by omega, by go_num, by rw [hLt.out, List.append_nil, HTL.out], by rw [hFt.out, Bool.and_false], by rw [hLt.out, hFt.out, List.append_nil, Bool.and_false]; exact h3, hsm3, hF4⟩
            case measure => simp [intOf]; omega
        · have d1 : decide ((m : Int) < 0) = false := decide_eq_false (by omega)
          have d2 : decide (4611686018427387904 < (m : Int)) = false := decide_eq_false (by omega)
          have e1 : fs = true := by
            rw [HFD.out, d1, d2]
            simp
          have e2 : pc = numB m := by rw [HPD.out, if_pos k3, e1, if_pos rfl]; rfl
          subst e1 e2
          have HNB := Lib.hid (num_any m pb u L (!B) _ hA2 hm (by omega))
          have HRN := Lib.hid (fun w => rnum_any m w (by omega))
          have HX := Lib.hid (HTA.out (numB m))
          have hxz : (txt (numB m)).size ≤ 10 := by rw [txt_size]; exact numB_len (by omega)
          generalize txt (numB m) = X at *
          go_wp2_with fail
          refine HNB.out.mono ?_
          rintro e w3 ⟨v3, rfl, h3, hm3, hf3⟩
          have x1 := hf3.cell x1 (fun e => by have := HDO.out _ e; simp at this)
          have hF4 := hA2.out hF3 hbb hf3
          go_wp2_with fail
          refine (HRN.out _).mono ?_
          rintro e w4 ⟨rfl, hf4⟩
          go_wp2_with fail
          go_roundw
          case rel => exact ⟨k + 1, v3, by omega, by go_num, by rw [hLt.out, HX.out], by rw [hFt.out, Bool.and_true], by rw [hLt.out, hFt.out, Bool.and_true]; exact h3.frm0 hf4, hsm3, hF4.trans hf4⟩
          case measure => simp [intOf]; omega
      · have e1 : fs = true := by
          rw [HFD.out]
          simp [k3]
        have e2 : pc = numB s.size ++ bytes s := by rw [HPD.out, if_neg (by omega), if_pos k3]
        subst e1 e2
        have HNB := Lib.hid (text_fine s pb u L (!B) _ hA2 (by omega) (by omega))
        have HRN := Lib.hid (fun w => rtext_any s w (by omega))
        have HX := Lib.hid (HTA.out (numB s.size ++ bytes s))
        rw [txt_app (numB s.size), txt_bytes] at HX
        have hxz : (txt (numB s.size) ++ s).size ≤ 310 := by
          rw [ByteArray.size_append, txt_size]
          have := numB_len (n := s.size) (by omega)
          omega
        generalize txt (numB s.size) ++ s = X at *
        rw [List.append_assoc] at HNB
        go_wp2_with fail
        refine HNB.out.mono ?_
        rintro e w3 ⟨v3, rfl, h3, hf3⟩
        have x2 := hf3.cell x2 (fun e => by have := HDO.out _ e; simp at this)
        have hF4 := hA2.out hF3 hbb hf3
        go_wp2_with fail
        refine (HRN.out _).mono ?_
        rintro e w4 ⟨rfl, hf4⟩
        go_wp2_with fail
        go_roundw
        case rel => exact ⟨k + 1, v3, by omega, by go_num, by rw [hLt.out, HX.out], by rw [hFt.out, Bool.and_true], by rw [hLt.out, hFt.out, Bool.and_true]; exact h3.frm0 hf4, hsm3, hF4.trans hf4⟩
        case measure => simp [intOf]; omega
      · have e1 : fs = true := by
          rw [HFD.out]
          simp [k3]
        have e2 : pc = bytes s := by rw [HPD.out, if_neg (by omega), if_neg (by omega)]
        subst e1 e2
        have HNB := Lib.hid (raw_any s pb u L (!B) _ hA2 (by omega) (by omega))
        have HX := Lib.hid (HTA.out (bytes s))
        rw [txt_bytes] at HX
        go_wp2_with fail
        refine HNB.out.mono ?_
        rintro e w3 ⟨v3, rfl, h3, hf3⟩
        have x2 := hf3.cell x2 (fun e => by have := HDO.out _ e; simp at this)
        have hF4 := hA2.out hF3 hbb hf3
        go_wp2_with fail
        go_roundw
        case rel => exact ⟨k + 1, v3, by omega, by go_num, by rw [hLt.out, HX.out], by rw [hFt.out, Bool.and_true], by rw [hLt.out, hFt.out, Bool.and_true]; exact h3, hsm3, hF4⟩
        case measure => simp [intOf]; omega
    · obtain rfl : k = l.length := by omega
      rw [List.take_length] at *
      cases hB : fit l with
      | false =>
        rw [hB] at hA
        clear hB hsm
        have HOK := Lib.hid (ok_any pb u _ _ _ hA)
        have HST := Lib.hid (string_bad pb u _ _ hA)
        go_wp2_with fail
        refine HOK.out.mono ?_
        rintro e w3 ⟨rfl, rfl⟩
        go_wp2_with fail
        refine HST.out.mono ?_
        rintro e w3 ⟨rfl, rfl⟩
        go_wp2
        go_ret
        exact ⟨rfl, hF.below (fun _ _ h => h)⟩
      | true =>
        rw [hB] at hA
        have HOK := Lib.hid (ok_any pb u _ _ _ hA)
        have HST := Lib.hid (string_to hA (by omega) rfl)
        have HFI := Lib.hid hB
        clear hB
        have hTz : (txt (lay l)).size ≤ 12400 := by rw [txt_size]; exact hLL
        have hlay : lay l = lay (l.drop 0) := by rw [List.drop_zero]
        have HLY := Lib.hid hlay
        clear hlay
        have HSM := Lib.hid (fun k (hk : k < l.length) => hsm.out l[k] (List.getElem_mem hk))
        clear hsm
        generalize hT : txt (lay l) = T at hTz HST ⊢
        have HT := Lib.hid hT
        clear hT
        go_wp2_with fail
        refine HOK.out.mono ?_
        rintro e w3 ⟨rfl, rfl⟩
        go_wp2_with fail
        refine HST.out.mono ?_
        rintro e w3 ⟨rfl, rfl⟩
        go_wp2_with fail
        refine (open_any T _).mono ?_
        rintro e w4 ⟨rfl, hO, hf4⟩
        have hF4 := hF.trans hf4
        have hob : w.heap.size ≤ wr.heap.size := hF.size
        generalize wr.heap.size = ob at *
        clear HOK HST hA hF hf4
        go_wp2_with fail
        go_loopw [82] (fun i wr => ∃ (k : Nat) (S : ByteArray), k ≤ l.length ∧ i = .int .i64 k ∧ Op wr ob S false ∧ Hid (S = txt (lay (l.drop k))) ∧ Frm0 w wr) (fun i _ => l.length - (intOf i).toNat)
        case atStart => exact ⟨0, T, by omega, rfl, hO, by rw [← HLY.out]; exact HT.out.symm, hF4⟩
        case round =>
          clear hO hF4
          obtain ⟨k, S, hk, rfl, hO, hS, hF⟩ := hrel
          by_cases hlt : k < l.length
          · have hLd := Lib.hid (lay_drop hlt)
            have hs3 : (l[k]).s.size ≤ 300 := HSM.out k hlt
            have hft : fits l[k] = true := List.all_eq_true.1 HFI.out _ (List.getElem_mem hlt)
            have hSz : S.size ≤ 12400 := by
              rw [hS.out, txt_size]
              have h1 := lay_len (l.drop k) (fun x hx => by
                obtain ⟨i, hi, rfl⟩ := List.getElem_of_mem hx
                rw [List.getElem_drop]
                exact HSM.out _ (by rw [List.length_drop] at hi; omega))
              rw [List.length_drop] at h1
              omega
            have hLlt := lay_lt (l.drop (k + 1))
            obtain ⟨b, o, rfl, c0, c1, c2, hkd, hsm'⟩ := HC.out k hlt
            have c0 := hF.cell c0 (fun h => h)
            have c1 := hF.cell c1 (fun h => h)
            have c2 := hF.cell c2 (fun h => h)
            have hpd : piece l[k] = if (l[k]).kind % 3 = 0 then (if fits l[k] then numB (l[k]).n.toNat else []) else if (l[k]).kind % 3 = 1 then numB (l[k]).s.size ++ bytes (l[k]).s else bytes (l[k]).s := rfl
            have hfd : fits l[k] = !(decide ((l[k]).kind % 3 = 0) && (decide ((l[k]).n < 0) || decide (4611686018427387904 < (l[k]).n))) := rfl
            rw [hft] at hpd hfd
            generalize piece l[k] = pc at *
            clear hft
            generalize (l[k]).kind = kd at *
            generalize (l[k]).s = s at *
            generalize (l[k]).n = n at *
            have hSd := hS.out
            rw [hLd.out] at hSd
            have HSD := Lib.hid hSd
            clear hSd hS
            obtain ⟨L, hL⟩ : ∃ L, lay (l.drop (k + 1)) = L := ⟨_, rfl⟩
            rw [hL] at HSD hLlt
            have HL := Lib.hid hL
            clear hL
            have HLT := Lib.hid hLlt
            have HPD := Lib.hid hpd
            have HFD := Lib.hid hfd
            clear hLd hLlt hpd hfd
            have hO2 := hO.frm ((Frm.refl (fun _ => False) wr).alloc (.cells #[.int .u8 kd, .int .i64 n, .string s] 72)) (fun h => h)
            have hF3 := hF.alloc (.cells #[.int .u8 kd, .int .i64 n, .string s] 72)
            have hbD := Bk.new wr (.cells #[.int .u8 kd, .int .i64 n, .string s] 72)
            have hDb := hO.lt
            have hDne : wr.heap.size ≠ ob := by omega
            have x1 : (wr.alloc (.cells #[.int .u8 kd, .int .i64 n, .string s] 72)).cell? ⟨wr.heap.size, 1, none⟩ = some (.int .i64 n) := Bk.cell hbD 1
            have x2 : (wr.alloc (.cells #[.int .u8 kd, .int .i64 n, .string s] 72)).cell? ⟨wr.heap.size, 2, none⟩ = some (.string s) := Bk.cell hbD 2
            have k3 : kd % 3 = 0 ∨ kd % 3 = 1 ∨ kd % 3 = 2 := by omega
            rcases k3 with k3 | k3 | k3
            · obtain ⟨m, rfl, hm⟩ : ∃ m : Nat, n = m ∧ m ≤ 4611686018427387904 := by
                have := HFD.out
                simp [k3] at this
                exact ⟨n.toNat, by omega, by omega⟩
              have e2 : pc = numB m := by rw [HPD.out, if_pos k3, if_pos rfl]; rfl
              subst e2
              have hr : rd 9 0 0 S = ((m : Int), txt L, false) := by rw [HSD.out]; exact rd_num m hm L HLT.out
              have HNB := Lib.hid (fun w (h : Op w ob S false) => onum_ok 4611686018427387904 h (by omega) hr hm (by omega))
              have hbb : ((m : Int) == (m : Int)) = true := beq_iff_eq.2 rfl
              clear hr
              go_wp2_with fail
              go_region_held3 (fun w' => w'.cell? ⟨wr.heap.size, 1, none⟩ = some (.int .i64 m) ∧ Frm0 w w')
                (first
                  | exact ⟨x1, hF3.drew⟩
                  | exact keepP (by assumption) hf9 hDne hob)
                (first
                  | (go_at_call 46; refine (HNB.out _ ⟨Bk.drew hO2.blk⟩).mono ?_; rintro e w5 ⟨rfl, h5, hf9⟩))
              rename_i hH
              have hF5 := hH.2
              have HOO := Lib.hid (ook_any ob _ _ _ h5)
              go_wp2_with fail
              refine HOO.out.mono ?_
              rintro e w6 ⟨rfl, rfl⟩
              go_wp2_with fail
              go_roundw
              case rel => exact ⟨k + 1, _, by omega, by go_num, h5, by rw [HL.out]; rfl, hF5⟩
              case measure => simp [intOf]; omega
            · have e2 : pc = numB s.size ++ bytes s := by rw [HPD.out, if_neg (by omega), if_pos k3]
              subst e2
              have hr : rd 9 0 0 S = ((s.size : Int), s ++ txt L, false) := by
                have := rd_num s.size (by omega) (bytes s ++ L) (by
                  intro x hx
                  rcases List.mem_append.1 hx with hx | hx
                  · exact bytes_lt _ x hx
                  · exact HLT.out x hx)
                rw [HSD.out, List.append_assoc, this, txt_app, txt_bytes]
              have hz2 : (s ++ txt L).size ≤ 12400 := by
                have e := congrArg ByteArray.size HSD.out
                rw [txt_size, List.length_append, List.length_append, bytes_len] at e
                rw [ByteArray.size_append, txt_size]
                omega
              have hz3 : s.size ≤ (s ++ txt L).size := by rw [ByteArray.size_append]; omega
              have HNB := Lib.hid (fun w (h : Op w ob S false) => otext_ok 300 h (by omega) hr (by omega) (by omega) hz3 (by omega))
              rw [ext0, ext1] at HNB
              have hbb : (s.toList == s.toList) = true := beq_iff_eq.2 rfl
              clear hr hz2 hz3
              go_wp2_with fail
              go_region_held3 (fun w' => w'.cell? ⟨wr.heap.size, 2, none⟩ = some (.string s) ∧ Frm0 w w')
                (first
                  | exact ⟨x2, hF3.drew⟩
                  | exact keepP (by assumption) hf9 hDne hob)
                (first
                  | (go_at_call 47; refine (HNB.out _ ⟨Bk.drew hO2.blk⟩).mono ?_; rintro e w5 ⟨rfl, h5, hf9⟩))
              rename_i hH
              have hF5 := hH.2
              have HOO := Lib.hid (ook_any ob _ _ _ h5)
              go_wp2_with fail
              refine HOO.out.mono ?_
              rintro e w6 ⟨rfl, rfl⟩
              go_wp2_with fail
              go_roundw
              case rel => exact ⟨k + 1, _, by omega, by go_num, h5, by rw [HL.out]; rfl, hF5⟩
              case measure => simp [intOf]; omega
            · have e2 : pc = bytes s := by rw [HPD.out, if_neg (by omega), if_neg (by omega)]
              subst e2
              have hSe : S = s ++ txt L := by rw [HSD.out, txt_app, txt_bytes]
              have hz3 : s.size ≤ S.size := by rw [hSe, ByteArray.size_append]; omega
              have HNB := Lib.hid (fun w (h : Op w ob S false) => oraw_ok (s.size : Int) s.size ob S w h (if_neg (by omega)) hz3 (by omega))
              rw [hSe, ext0, ext1, ← hSe] at HNB
              have hbb : (s.toList == s.toList) = true := beq_iff_eq.2 rfl
              clear hSe hz3
              go_wp2_with fail
              go_region_held3 (fun w' => w'.cell? ⟨wr.heap.size, 2, none⟩ = some (.string s) ∧ Frm0 w w')
                (first
                  | exact ⟨x2, hF3.drew⟩
                  | exact keepP (by assumption) hf9 hDne hob)
                (first
                  | (go_at_call 48; refine (HNB.out _ ⟨Bk.drew hO2.blk⟩).mono ?_; rintro e w5 ⟨rfl, h5, hf9⟩))
              rename_i hH
              have hF5 := hH.2
              have HOO := Lib.hid (ook_any ob _ _ _ h5)
              go_wp2_with fail
              refine HOO.out.mono ?_
              rintro e w6 ⟨rfl, rfl⟩
              go_wp2_with fail
              go_roundw
              case rel => exact ⟨k + 1, _, by omega, by go_num, h5, by rw [HL.out]; rfl, hF5⟩
              case measure => simp [intOf]; omega
          · obtain rfl : k = l.length := by omega
            have h0 : S = ⟨#[]⟩ := by rw [hS.out, List.drop_length]; rfl
            subst h0
            have HD := Lib.hid (done_any ob _ _ _ hO)
            have hd : decide ((⟨#[]⟩ : ByteArray).size = 0) = true := by decide
            rw [hd] at HD
            go_wp2_with fail
            refine HD.out.mono ?_
            rintro e w6 ⟨rfl, rfl⟩
            go_wp2
            go_ret
            exact ⟨rfl, hF.below (fun _ _ h => h)⟩
end Pk
end Go.Proofs.Ythmhihmbciigdaa
