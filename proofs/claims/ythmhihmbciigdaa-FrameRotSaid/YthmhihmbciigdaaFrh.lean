/- awake and whole of the law of frame. -/
import Derived.Test.YthmhihmbciigdaaFrg
namespace Go.Proofs.Ythmhihmbciigdaa
open Go.RowKit CrcMath
set_option linter.unusedVariables false
set_option linter.unusedSimpArgs false

theorem app_empty (a : ByteArray) : a ++ ⟨#[]⟩ = a := by apply bytes_inj; rw [bytes_append]; simp [bytes]
theorem splits_whole (l : List ByteArray) (hl : ∀ x ∈ l, x.size ≤ 2000) : splits (cat l) 0 = (l, (cat l).size, 0) := by
  have h := splits_cat l hl ⟨#[]⟩
  rw [app_empty] at h
  rw [h, splits_end (Nat.lt_irrefl _), List.append_nil]
theorem first_to {s x : ByteArray} {n e0 : Nat} {w : World} (hs : s.size ≤ 100000) (h : fst s = (x, n, e0)) :
    Calls Try.prog 19 #[.string s] w fun e w' => e = .returned (.tuple #[.string x, .int .i64 n, .int .i64 e0]) ∧ Frm0 w w' := by
  have := first_any s w (by omega)
  rwa [h] at this
theorem split_to {s : ByteArray} {l : List ByteArray} {n e0 : Nat} {w : World} (hs : s.size ≤ 100000) (h : splits s 0 = (l, n, e0)) :
    Calls Try.prog 17 #[.string s] w fun e w' => ∃ v, e = .returned (.tuple #[v, .int .i64 n, .int .i64 e0]) ∧ w'.ownsRow w.heap.size 9 1 v l.length (strs l) ∧ Frm0 w w' := by
  have := split_any s w hs
  rwa [h] at this

def abc : ByteArray := ⟨#[97, 98, 99]⟩
theorem abc_size : abc.size = 3 := rfl
theorem fawake (w : World) : Calls Try.prog 13 #[] w fun e w' => e = .returned (.bool true) ∧ Frm0 w w' := by
  have h3 : (mkF abc).size = 13 := by rw [mkF_size, abc_size]
  have hcat : cat [abc, abc] = mkF abc ++ mkF abc := by
    show (⟨#[]⟩ ++ mkF abc) ++ mkF abc = _
    congr 1
  have h26 : (mkF abc ++ mkF abc).size = 26 := by rw [ByteArray.size_append, h3]
  have HM := Lib.hid (fun w => fmake_ok abc w (by decide))
  have HF := Lib.hid (fun w => first_to (w := w) (s := mkF abc) (x := abc) (n := 13) (e0 := 0) (by omega) (by have := fst_mk abc ⟨#[]⟩ (by decide); rwa [app_empty] at this))
  have HS := Lib.hid (fun w => split_to (w := w) (s := mkF abc ++ mkF abc) (l := [abc, abc]) (n := 26) (e0 := 0) (by omega) (by have := splits_whole [abc, abc] (by simp [abc_size]); rwa [hcat, h26] at this))
  clear hcat h26
  generalize mkF abc = m at *
  unfold abc at HM HF HS
  go_enter Try.func13, Try.ntmps13
  go_wp2_with fail
  refine (HM.out _).mono ?_
  rintro e w1 ⟨rfl, hf1⟩
  go_wp2_with fail
  refine (HF.out _).mono ?_
  rintro e w2 ⟨rfl, hf2⟩
  go_wp2_with fail
  refine (HS.out _).mono ?_
  rintro e w3 ⟨v, rfl, hown, hf3⟩
  obtain ⟨g, cap, rfl⟩ := owns_form hown
  go_wp2
  go_ret
  exact ⟨rfl, (hf1.trans hf2).trans hf3⟩

/-- Up to 20 contents of up to 200 bytes. -/
def Few (l : List ByteArray) : Prop := l.length ≤ 20 ∧ ∀ x ∈ l, x.size ≤ 200
def ends (l : List ByteArray) : List Int := (List.range l.length).map (fun k => (csize (l.take (k + 1)) : Int))
theorem ends_len (l : List ByteArray) : (ends l).length = l.length := by simp [ends]
theorem ends_at (l : List ByteArray) (k : Nat) (h : k < (ends l).length) : (ends l)[k] = (csize (l.take (k + 1)) : Int) := by simp [ends]
theorem csize_le {l : List ByteArray} (h : ∀ x ∈ l, x.size ≤ 200) : csize l ≤ 210 * l.length := by
  suffices ∀ (l : List ByteArray) (a : Nat), (∀ x ∈ l, x.size ≤ 200) → l.foldl (fun a s => a + (s.size + 10)) a ≤ a + 210 * l.length by
    have := this l 0 h
    unfold csize
    omega
  intro l
  induction l with
  | nil => intro a _; simp
  | cons s l ih =>
    intro a h
    have := ih (a + (s.size + 10)) (fun x hx => h x (by simp [hx]))
    have := h s (by simp)
    simp only [List.foldl_cons, List.length_cons]
    omega
theorem wpush {l : List Int} {k : Nat} (h : k < l.length) : wints (l.take (k + 1)) = wints (l.take k) ++ [.int .i64 l[k]] := by rw [← List.take_append_getElem h, wints_app]

theorem whole_any (l : List ByteArray) (v : Value) (w : World) (hs : Sl w v l.length (strs l)) (hsz : ∀ x ∈ l, x.size ≤ 9223372036854775807) :
    Calls Try.prog 14 #[v] w fun e w' => (¬ Few l ∧ e = .returned (.tuple #[.string ⟨#[]⟩, .slice none 0 0, .bool false]) ∧ Frm0 w w') ∨
      (Few l ∧ ∃ v', e = .returned (.tuple #[.string (cat l), v', .bool true]) ∧ w'.ownsRow w.heap.size 3 1 v' l.length (wints (ends l)) ∧ Frm0 w w') := by
  have hlen := hs.len
  by_cases h20 : 20 < l.length
  · obtain ⟨A, c, rfl⟩ := hs.form
    have hno : ¬ Few l := fun h => by have := h.1; omega
    have HN := Lib.hid hno
    clear hno
    go_enter Try.func14, Try.ntmps14
    go_wp2
    go_ret3
    exact .inl ⟨HN.out, rfl, Frm.refl _ _⟩
  have hcell : ∀ k (hk : k < l.length), ∃ b o c, v = .slice (some ⟨b, o, none⟩) l.length c ∧ w.cell? ⟨b, o + k, none⟩ = some (.string l[k]) := by
    intro k hk
    rcases hs with ⟨A, c, rfl, hn, _⟩ | ⟨b, o, c, rfl, h0, h1, h2, _, hc⟩
    · omega
    · exact ⟨b, o, c, rfl, hc k _ (strs_at l k hk)⟩
  obtain ⟨A, c, rfl⟩ := hs.form
  have HC := Lib.hid hcell
  clear hcell hs
  go_enter Try.func14, Try.ntmps14
  go_wp2
  go_loopw [5, 6, 14] (fun s u i wr => ∃ (k : Nat), k ≤ l.length ∧ i = .int .i64 k ∧ s = .string (cat (l.take k)) ∧ wr.ownsRow w.heap.size 3 1 u k (wints ((ends l).take k)) ∧ Hid (∀ x ∈ l.take k, x.size ≤ 200) ∧ Frm0 w wr) (fun _ _ i _ => l.length - (intOf i).toNat)
  case atStart => exact ⟨0, Nat.zero_le _, rfl, rfl, World.ownsRow_nil _ _ _ _, by simp [Hid], Frm.refl _ _⟩
  case round =>
    obtain ⟨k, hk, rfl, rfl, hown, hsm, hF⟩ := hrel
    by_cases hlt : k < l.length
    · obtain ⟨b, o, c', he, hc⟩ := HC.out k hlt
      cases he
      have hck := hF.cell hc (fun h => h)
      have hxs := hsz l[k] (List.getElem_mem hlt)
      have hct := Lib.hid (cat_take l k hlt)
      have hcz := Lib.hid (csize_take l k hlt)
      have hmem := Lib.hid (List.getElem_mem hlt)
      have htk := Lib.hid (List.take_append_getElem hlt)
      have hpu := Lib.hid (wpush (l := ends l) (k := k) (by rw [ends_len]; exact hlt))
      have hcs := Lib.hid (cat_size (l.take k))
      have hle := csize_le (l := l.take k) (fun x hx => by unfold Hid at hsm; exact hsm x hx)
      rw [List.length_take, Nat.min_eq_left hk] at hle
      have hcs' := hcs.out
      have hea : (ends l)[k]'(by rw [ends_len]; exact hlt) = (csize (l.take k) + (l[k].size + 10) : Nat) := by rw [ends_at, hcz.out]
      have HEA := Lib.hid hea
      clear hea
      have hm : (mkF l[k]).size = l[k].size + 10 := mkF_size _
      have HMK := Lib.hid (fun w (h : l[k].size ≤ 200) => rfmake_any l[k] w (by omega))
      generalize csize (l.take k) = z at *
      generalize cat (l.take k) = cc at *
      generalize hgx : l[k] = x at *
      have HG := Lib.hid hgx
      clear hgx
      by_cases hb : 200 < x.size
      · have hno : ¬ Few l := fun h => by have := h.2 _ hmem.out; omega
        have HN := Lib.hid hno
        clear hno
        go_wp2
        go_ret3
        exact .inl ⟨HN.out, rfl, hF⟩
      · have hxb : x.size ≤ 200 := by omega
        have hM : k + 1 ≤ maxLen := by unfold maxLen; omega
        have HMK2 := Lib.hid (fun w => HMK.out w hxb)
        generalize mkF x = m at *
        go_wp2_with fail
        refine (HMK2.out _).mono ?_
        rintro e w1 ⟨rfl, hf1⟩
        have hown1 := owns_frm0 hown hf1
        go_wp2_with (at_builtin; refine wpList_append_sl rfl (.tmp 25) (.tmp 28) rfl Ewin w.heap.size _ (.slice (some ⟨w1.heap.size, 0, none⟩) 1 1) k 1 (wints ((ends l).take k)) (wints [((z + (x.size + 10) : Nat) : Int)]) rfl rfl (hown1.alloc _) (by have := Sl.new w1 #[.int .i64 ((z + (x.size + 10) : Nat) : Int)] 3 1 (by decide) (by omega); simpa [wints, ByteArray.size_append, hcs', hm] using this) rfl (wints_one _) (by omega) (by omega) (by have := hF.size; have := hf1.size; simp at this ⊢; omega) ?_; intro v2 w2 hown2 hf2 hat2)
        go_roundw
        case rel =>
          refine ⟨k + 1, by omega, by go_num, by rw [hct.out], ?_, ?_, ?_⟩
          · rw [hpu.out, HEA.out]; exact hown2
          · unfold Hid at hsm ⊢
            rw [← htk.out]
            intro y hy
            rcases List.mem_append.1 hy with h | h
            · exact hsm y h
            · rw [List.mem_singleton.1 h]; exact hxb
          · exact ((hF.trans hf1).alloc _).then_ hf2 (fun i hi h => by have := (hown1.lt i h).1; omega)
        case measure => simp [intOf]; omega
    · obtain rfl : k = l.length := by omega
      have hyes : Few l := ⟨by omega, fun x hx => by unfold Hid at hsm; rw [List.take_length] at hsm; exact hsm x hx⟩
      have HY := Lib.hid hyes
      clear hyes
      have e1 := Lib.hid (List.take_length (l := l))
      have e2 := Lib.hid (show (ends l).take l.length = ends l by rw [List.take_of_length_le]; rw [ends_len]; exact Nat.le_refl _)
      go_wp2
      go_ret3
      rw [e1.out]
      rw [e2.out] at hown
      exact .inr ⟨HY.out, _, rfl, hown, hF⟩
end Go.Proofs.Ythmhihmbciigdaa
