/- Histograms: contracts of the reference's Sorted and Place. -/
import Derived.Test.YtmpbgnopejeelaaHig
namespace Go.Proofs.Ytmpbgnopejeelaa
open Go.RowKit
set_option linter.unusedVariables false
set_option linter.unusedSimpArgs false

theorem wints_take (l : List Int) (k : Nat) : (wints l).take k = wints (l.take k) := by simp [wints]
theorem wints_drop (l : List Int) (k : Nat) : (wints l).drop k = wints (l.drop k) := by simp [wints]
theorem Sl.cap {w : World} {A : Option Addr} {n m c : Nat} {cs : List Value} (h : Sl w (.slice A n c) m cs) : m ≤ c := by
  rcases h with ⟨A', c', he, hn, _⟩ | ⟨b, o, c', he, h0, h1, h2, _, hc⟩
  · omega
  · cases he; exact h1
theorem owns_take {w : World} {base : Nat} {e : TypeId} {g n cap : Nat} {xs : List Value} (h : w.ownsRow base e 1 (.slice (some ⟨g, 0, none⟩) n cap) n xs) (k : Nat) (hk : k ≤ n) : w.ownsRow base e 1 (.slice (some ⟨g, 0, none⟩) k cap) k (xs.take k) := by
  have hl := h.1
  refine ⟨by rw [List.length_take]; omega, ?_⟩
  rcases h.2 with ⟨h, _⟩ | ⟨g', cap', cur, he, hb, hg, hn, hc, hsz, ht⟩
  · cases h
  · cases he
    refine .inr ⟨g, cap, cur, rfl, hb, hg, by omega, hc, hsz, ?_⟩
    rw [← ht, List.take_take, Nat.mul_one, Nat.mul_one, Nat.min_eq_left hk]
namespace Hs
set_option maxHeartbeats 2000000 in
set_option maxRecDepth 10000 in
theorem rsorted_any (l : List Int) (v : Value) (w : World) (hs : Sl w v l.length (wints l)) (hlen : l.length ≤ 100) :
    Calls Try.prog 23 #[v] w fun e w' => ∃ u, e = .returned u ∧ w'.ownsRow w.heap.size 3 1 u l.length (wints (srt l)) ∧ Frm0 w w' := by
  have hcell : ∀ k (hk : k < l.length), ∃ b o c, v = .slice (some ⟨b, o, none⟩) l.length c ∧ w.cell? ⟨b, o + k, none⟩ = some (.int .i64 l[k]) := by
    intro k hk
    rcases hs with ⟨A, c, rfl, hn, _⟩ | ⟨b, o, c, rfl, h0, h1, h2, _, hc⟩
    · omega
    · exact ⟨b, o, c, rfl, hc k _ (wints_at l k hk)⟩
  obtain ⟨A, c, rfl⟩ := hs.form
  have HC := Lib.hid hcell
  clear hcell hs
  go_enter Try.func23, Try.ntmps23
  go_wp2
  go_loopw [3, 4] (fun u i wr => ∃ (k : Nat), k ≤ l.length ∧ i = .int .i64 k ∧ wr.ownsRow w.heap.size 3 1 u k (wints (srt (l.take k))) ∧ Frm0 w wr) (fun _ i _ => l.length - (intOf i).toNat)
  case atStart => exact ⟨0, Nat.zero_le _, rfl, World.ownsRow_nil _ _ _ _, Frm.refl _ _⟩
  case round =>
    obtain ⟨k, hk, rfl, hown, hF⟩ := hrel
    by_cases hlt : k < l.length
    · obtain ⟨b, o, c', he, hc⟩ := HC.out k hlt
      cases he
      have hck := hF.cell hc (fun h => h)
      have hst := Lib.hid (srt_take l k hlt)
      have hsl : (srt (l.take k)).length = k := by rw [srt_len, List.length_take]; omega
      have HT := Lib.hid (rtime_any l[k])
      generalize l[k] = a at *
      generalize tm a = n at *
      generalize srt (l.take k) = ys at *
      have hpl := pos_le n ys
      have hbe := Lib.hid (pos_before n ys)
      have hat := Lib.hid (pos_at n ys)
      have hins : Hid (ins n ys = ys.take (pos n ys) ++ [n] ++ ys.drop (pos n ys)) := rfl
      generalize pos n ys = p at *
      have HYL := Lib.hid hsl
      rw [hsl] at hpl
      clear hsl
      obtain ⟨A3, c3, rfl⟩ := (Sl.of_own hown).form
      have hyc : ∀ j (hj : j < ys.length), ∃ g, A3 = some ⟨g, 0, none⟩ ∧ wr.cell? ⟨g, j, none⟩ = some (.int .i64 ys[j]) := by
        intro j hj
        rcases hown.2 with ⟨h, h0⟩ | ⟨g, cap, cur, he, _⟩
        · have := HYL.out; omega
        · cases he
          exact ⟨g, rfl, by rw [hown.cellAt j (by have := HYL.out; omega), wints_at ys j hj]⟩
      have HY := Lib.hid hyc
      clear hyc
      go_wp2_with fail
      refine (HT.out _).mono ?_
      rintro e w' ⟨rfl, rfl⟩
      go_wp2_with fail
      go_loop [6] (fun j => ∃ (x : Nat), x ≤ p ∧ j = .int .i64 x) (fun j => p - (intOf j).toNat)
      case atStart => exact ⟨0, Nat.zero_le _, rfl⟩
      case round =>
        obtain ⟨x, hx, rfl⟩ := hrel
        by_cases hxp : x < p
        · have hxl : x < ys.length := by have := HYL.out; omega
          obtain ⟨g, rfl, hg⟩ := HY.out x hxl
          have hle := hbe.out x hxl hxp
          generalize ys[x] = y at *
          have d1 : decide ((x : Int) < (k : Int)) = true := decide_eq_true (by omega)
          have d2 : decide (y ≤ n) = true := decide_eq_true hle
          have hxi : (x : Int) < (k : Int) := by omega
          go_wp2
          go_round
          case rel => exact ⟨x + 1, by omega, by go_num⟩
          case measure => simp [intOf]; omega
        · obtain rfl : x = p := by omega
          have hxk9 : x ≤ k := by omega
          have hMM : 1000 ≤ maxLen := by unfold maxLen; omega
          have hxi : (x : Int) ≤ (k : Int) := by omega
          rcases hown.2 with ⟨he, h0⟩ | ⟨g, cap, cur, he, hgb, _⟩
          · cases he
            have hy0 : ys = [] := List.eq_nil_of_length_eq_zero (by have := HYL.out; omega)
            subst hy0
            obtain rfl : x = 0 := by omega
            clear h0
            have hS2 : Sl wr (.slice none 0 0) 0 ((wints []).drop 0) := Sl.nil _
            go_wp2_with (first
              | (at_builtin; refine wpList_append_sl rfl (.tmp 33) (.tmp 36) rfl Ewin wr.heap.size (.slice (some ⟨wr.heap.size, 0, none⟩) 0 0) (.slice none 0 0) 0 0 [] ((wints []).drop 0) rfl rfl (World.ownsRow_made wr #[] 0 (Nat.le_refl _) (by decide) rfl) (hS2.frm0 ((Frm.refl _ _).alloc _)) (by simp [wints]) (fun c hc => wints_one [] c (List.mem_of_mem_drop hc)) (by omega) (by omega) (by simp) ?_; intro v1 w1 hown1 hf1 hat1; have f1 : Frm0 wr w1 := ((Frm.refl _ _).alloc _).then_ hf1 (fun i hi h => by simp [Value.ownBlock] at h; omega))
              | (at_builtin; refine wpList_append_sl rfl (.tmp 40) (.tmp 42) rfl Ewin w.heap.size (.slice none 0 0) (.slice (some ⟨w1.heap.size, 0, none⟩) 1 1) 0 1 ((wints []).take 0) (wints [n]) rfl rfl ((World.ownsRow_nil _ _ _ _ : w1.ownsRow w.heap.size 3 1 (.slice none 0 0) 0 []).alloc _) (Sl.new _ _ _ 1 (by decide) (by omega)) rfl (wints_one _) (by omega) (by omega) (by have := hF.size; have := f1.size; simp at this ⊢; omega) ?_; intro v2 w2 hown2 hf2 hat2; have hS1 := (Sl.of_own (hown1.alloc (.cells #[.int .i64 n] 3))).frm hf2 (fun j hj e1 e2 => by have := (hown1.lt j e1).1; simp [Value.ownBlock] at e2))
              | (at_builtin; refine wpList_append_sl rfl (.tmp 43) (.tmp 44) rfl Ewin w.heap.size v2 v1 (0 + 1) (0 + 0) ((wints []).take 0 ++ wints [n]) ([] ++ (wints []).drop 0) rfl rfl hown2 hS1 (by have := HYL.out; simp [wints]; try omega) (fun c hc => wints_one [] c (List.mem_of_mem_drop (show c ∈ List.drop 0 (wints []) from hc))) (by omega) (by omega) (by have := hF.size; have := f1.size; have := hf2.size; simp at this ⊢; omega) ?_; intro v3 w3 hown3 hf3 hat3))
            go_roundw
            case rel =>
              refine ⟨0 + 1, by omega, by go_num, ?_, ?_⟩
              · rw [hst.out, hins.out]
                have e1 : wints (([] : List Int).take 0 ++ [n] ++ ([] : List Int).drop 0) = (wints []).take 0 ++ wints [n] ++ ([] ++ (wints []).drop 0) := by simp [wints]
                have e2 : 0 + 1 = 0 + 1 + (0 + 0) := by omega
                rw [e1, e2]
                exact hown3
              · exact (((hF.trans f1).alloc _).then_ hf2 (fun i hi e => by simp [Value.ownBlock] at e)).then_ hf3 (fun i hi e => by have := (hown2.lt i e).1; omega)
            case measure => simp [intOf]; omega
          · cases he
            have hxc : x ≤ c3 := by
              have := (Sl.of_own hown).cap
              omega
            have hxci : (x : Int) ≤ (c3 : Int) := by omega
            have hgl := (hown.lt g rfl).2
            have hS2 := (Sl.of_own hown).drop1 x (by omega) (by rw [wints_len]; exact HYL.out)
            rw [Nat.zero_add] at hS2
            obtain ⟨A4, hA4⟩ : ∃ A4 : Option Addr, (if c3 = x then some (⟨g, 0, none⟩ : Addr) else some ⟨g, x, none⟩) = A4 := ⟨_, rfl⟩
            have hexit : decide ((x : Int) < (k : Int)) = false ∨ (decide ((x : Int) < (k : Int)) = true ∧ (x : Int) < (k : Int) ∧ ∃ y, wr.cell? ⟨g, x, none⟩ = some (.int .i64 y) ∧ decide (y ≤ n) = false) := by
              rcases Nat.lt_or_ge x k with h | h
              · right
                obtain ⟨g', he', hg'⟩ := HY.out x (by have := HYL.out; omega)
                cases he'
                exact ⟨decide_eq_true (by omega), by omega, _, hg', decide_eq_false (by have := hat.out (by have := HYL.out; omega); omega)⟩
              · left
                exact decide_eq_false (by omega)
            rcases hexit with hd | ⟨hd, hxlt, y, hcy, hdy⟩
            · rw [hA4] at hS2
              have hnl : ¬ x < k := by have := of_decide_eq_false hd; omega
              have hnd : decide (x < k) = false := decide_eq_false hnl
              clear hd
              go_wp2_with (first
                | (at_builtin; refine wpList_append_sl rfl (.tmp 33) (.tmp 36) rfl Ewin wr.heap.size (.slice (some ⟨wr.heap.size, 0, none⟩) 0 0) (.slice A4 (k - x) (c3 - x)) 0 (k - x) [] ((wints ys).drop x) rfl rfl (World.ownsRow_made wr #[] 0 (Nat.le_refl _) (by decide) rfl) (hS2.frm0 ((Frm.refl _ _).alloc _)) (by have := HYL.out; simp [wints]; omega) (fun c hc => wints_one ys c (List.mem_of_mem_drop hc)) (by omega) (by omega) (by simp) ?_; intro v1 w1 hown1 hf1 hat1; have f1 : Frm0 wr w1 := ((Frm.refl _ _).alloc _).then_ hf1 (fun i hi h => by simp [Value.ownBlock] at h; omega))
                | (at_builtin; refine wpList_append_sl rfl (.tmp 40) (.tmp 42) rfl Ewin w.heap.size (.slice (some ⟨g, 0, none⟩) x c3) (.slice (some ⟨w1.heap.size, 0, none⟩) 1 1) x 1 ((wints ys).take x) (wints [n]) rfl rfl ((owns_take (owns_frm0 hown f1) x hxk9).alloc _) (Sl.new _ _ _ 1 (by decide) (by omega)) rfl (wints_one _) (by omega) (by omega) (by have := hF.size; have := f1.size; simp at this ⊢; omega) ?_; intro v2 w2 hown2 hf2 hat2; have hS1 := (Sl.of_own (hown1.alloc (.cells #[.int .i64 n] 3))).frm hf2 (fun j hj e1 e2 => by have := (hown1.lt j e1).1; have e3 : g = j := Option.some.inj e2; omega))
                | (at_builtin; refine wpList_append_sl rfl (.tmp 43) (.tmp 44) rfl Ewin w.heap.size v2 v1 (x + 1) (0 + (k - x)) ((wints ys).take x ++ wints [n]) ([] ++ (wints ys).drop x) rfl rfl hown2 hS1 (by have := HYL.out; simp [wints]; omega) (fun c hc => wints_one ys c (List.mem_of_mem_drop (show c ∈ List.drop x (wints ys) from hc))) (by omega) (by omega) (by have := hF.size; have := f1.size; have := hf2.size; simp at this ⊢; omega) ?_; intro v3 w3 hown3 hf3 hat3))
              go_roundw
              case rel =>
                refine ⟨k + 1, by omega, by go_num, ?_, ?_⟩
                · rw [hst.out, hins.out]
                  have e1 : wints (ys.take x ++ [n] ++ ys.drop x) = (wints ys).take x ++ wints [n] ++ ([] ++ (wints ys).drop x) := by simp [wints]
                  have e2 : k + 1 = x + 1 + (0 + (k - x)) := by omega
                  rw [e1, e2]
                  exact hown3
                · exact (((hF.trans f1).alloc _).then_ hf2 (fun i hi e => by have e3 : g = i := Option.some.inj e; omega)).then_ hf3 (fun i hi e => by have := (hown2.lt i e).1; omega)
              case measure => simp [intOf]; omega
            · rw [if_neg (by omega)] at hS2
              go_wp2_with (first
                | (at_builtin; refine wpList_append_sl rfl (.tmp 33) (.tmp 36) rfl Ewin wr.heap.size (.slice (some ⟨wr.heap.size, 0, none⟩) 0 0) (.slice (some ⟨g, x, none⟩) (k - x) (c3 - x)) 0 (k - x) [] ((wints ys).drop x) rfl rfl (World.ownsRow_made wr #[] 0 (Nat.le_refl _) (by decide) rfl) (hS2.frm0 ((Frm.refl _ _).alloc _)) (by have := HYL.out; simp [wints]; omega) (fun c hc => wints_one ys c (List.mem_of_mem_drop hc)) (by omega) (by omega) (by simp) ?_; intro v1 w1 hown1 hf1 hat1; have f1 : Frm0 wr w1 := ((Frm.refl _ _).alloc _).then_ hf1 (fun i hi h => by simp [Value.ownBlock] at h; omega))
                | (at_builtin; refine wpList_append_sl rfl (.tmp 40) (.tmp 42) rfl Ewin w.heap.size (.slice (some ⟨g, 0, none⟩) x c3) (.slice (some ⟨w1.heap.size, 0, none⟩) 1 1) x 1 ((wints ys).take x) (wints [n]) rfl rfl ((owns_take (owns_frm0 hown f1) x hxk9).alloc _) (Sl.new _ _ _ 1 (by decide) (by omega)) rfl (wints_one _) (by omega) (by omega) (by have := hF.size; have := f1.size; simp at this ⊢; omega) ?_; intro v2 w2 hown2 hf2 hat2; have hS1 := (Sl.of_own (hown1.alloc (.cells #[.int .i64 n] 3))).frm hf2 (fun j hj e1 e2 => by have := (hown1.lt j e1).1; have e3 : g = j := Option.some.inj e2; omega))
                | (at_builtin; refine wpList_append_sl rfl (.tmp 43) (.tmp 44) rfl Ewin w.heap.size v2 v1 (x + 1) (0 + (k - x)) ((wints ys).take x ++ wints [n]) ([] ++ (wints ys).drop x) rfl rfl hown2 hS1 (by have := HYL.out; simp [wints]; omega) (fun c hc => wints_one ys c (List.mem_of_mem_drop (show c ∈ List.drop x (wints ys) from hc))) (by omega) (by omega) (by have := hF.size; have := f1.size; have := hf2.size; simp at this ⊢; omega) ?_; intro v3 w3 hown3 hf3 hat3))
              go_roundw
              case rel =>
                refine ⟨k + 1, by omega, by go_num, ?_, ?_⟩
                · rw [hst.out, hins.out]
                  have e1 : wints (ys.take x ++ [n] ++ ys.drop x) = (wints ys).take x ++ wints [n] ++ ([] ++ (wints ys).drop x) := by simp [wints]
                  have e2 : k + 1 = x + 1 + (0 + (k - x)) := by omega
                  rw [e1, e2]
                  exact hown3
                · exact (((hF.trans f1).alloc _).then_ hf2 (fun i hi e => by have e3 : g = i := Option.some.inj e; omega)).then_ hf3 (fun i hi e => by have := (hown2.lt i e).1; omega)
              case measure => simp [intOf]; omega
    · obtain rfl : k = l.length := by omega
      have e1 := Lib.hid (List.take_length (l := l))
      rw [e1.out] at hown
      go_wp2
      go_ret
      exact ⟨_, rfl, hown, hF⟩
end Hs
end Go.Proofs.Ytmpbgnopejeelaa
