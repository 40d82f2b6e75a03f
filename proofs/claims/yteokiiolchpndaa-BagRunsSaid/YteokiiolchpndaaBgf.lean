/- The walk of BagRuns. -/
import Derived.Test.YteokiiolchpndaaBge
import Derived.Deep.RegionWith
import Derived.Deep.RegionHeld3
namespace Go.Proofs.Yteokiiolchpndaa
open Go.RowKit Go.ChangeShapes
set_option linter.unusedVariables false
set_option linter.unusedSimpArgs false

namespace Bg
theorem disj2 {wa w3 : World} {u u3 y y3 : Value} (hu : Moved wa u u3) (hy : Moved w3 y y3) (hd : ∀ k, y.ownBlock = some k → u.ownBlock ≠ some k) (hyl : ∀ k, y.ownBlock = some k → k < wa.heap.size) (hul : ∀ k, u3.ownBlock = some k → k < w3.heap.size) :
    ∀ k, y3.ownBlock = some k → u3.ownBlock ≠ some k := by
  intro k h1 h2
  have l2 := hul k h2
  rcases hy k h1 with h | h
  · have l1 := hyl k h
    rcases hu k h2 with h' | h'
    · exact hd k h h'
    · omega
  · omega
theorem rtake_to {i : Int} {base : Nat} {v : Value} {xs ys : List ByteArray} {x : ByteArray} {b : Bool} {w : World} (h : w.ownsRow base 9 1 v xs.length (strs xs)) (hb : base ≤ w.heap.size) (hlen : xs.length ≤ 1000) (ha : at_ xs i = (x, b)) (hy : cut xs i = ys) :
    Calls Try.prog 26 #[v, .int .i64 i] w fun e w' => ∃ v', e = .returned (.tuple #[v', .string x, .bool b]) ∧ w'.ownsRow base 9 1 v' ys.length (strs ys) ∧ Moved w v v' ∧ Frm0 w w' := by
  have := rtake_any i base v xs w h hb hlen
  rwa [ha, hy] at this
theorem rtwice_to {i : Int} {base : Nat} {v : Value} {xs ys : List ByteArray} {e0 : Int} {w : World} (h : w.ownsRow base 9 1 v xs.length (strs xs)) (hb : base ≤ w.heap.size) (hlen : xs.length ≤ 900) (hy : twice xs i = (ys, e0)) :
    Calls Try.prog 27 #[v, .int .i64 i] w fun e w' => ∃ v', e = .returned (.tuple #[v', .int .i64 e0]) ∧ w'.ownsRow base 9 1 v' ys.length (strs ys) ∧ Moved w v v' ∧ Frm0 w w' := by
  have := rtwice_any i base v xs w h hb hlen
  rwa [hy] at this
theorem owns_form0 {w : World} {base : Nat} {e : TypeId} {size : Nat} {v : Value} {n : Nat} {xs : List Value} (h : w.ownsRow base e size v n xs) (h0 : 0 < n) : ∃ g cap, v = .slice (some ⟨g, 0, none⟩) n cap := by
  obtain ⟨m, rfl⟩ : ∃ m, n = m + 1 := ⟨n - 1, by omega⟩
  exact owns_form h
theorem moved_of {w : World} {o : Obj} {y y4 : Value} (h : y4.ownBlock = y.ownBlock ∨ y4.ownBlock = some (w.alloc o).heap.size) : Moved w y y4 := fun k hk => by
  rcases h with e | e
  · exact .inl (e ▸ hk)
  · rw [e] at hk
    cases hk
    exact .inr (by simp)
theorem cut_le (xs : List ByteArray) (n : Int) : (cut xs n).length ≤ xs.length := by
  by_cases hi : 0 ≤ n ∧ n < xs.length
  · rw [cut_len hi]; omega
  · rw [cut_no hi]; exact Nat.le_refl _
theorem twice_le (xs : List ByteArray) (n : Int) : (twice xs n).1.length ≤ xs.length + 1 := by
  unfold twice
  split
  · split <;> simp
  · simp
theorem owns_nil_form {w : World} {base : Nat} {e : TypeId} {size : Nat} {v : Value} {n : Nat} {xs : List Value} (h : w.ownsRow base e size v n xs) : ∃ A c, v = .slice A n c := by
  rcases h.2 with ⟨h, hn⟩ | ⟨g, cap, cur, he, _⟩
  · exact ⟨none, 0, by rw [h, hn]⟩
  · exact ⟨_, _, he⟩
theorem wpAnyH_strong {P : Program} {md : Region.Mode} {ops : Array Oper} {Q : Exit → Act → World → Prop} {S S' : World → Prop} (hS : ∀ w, S' w → S w) :
    ∀ {fuel : Nat} {listed : Array Bool} {a : Act} {w : World}, wpAnyH P md ops Q S' fuel listed a w → wpAnyH P md ops Q S fuel listed a w
  | 0, _, _, _, h => h
  | fuel + 1, _, _, _, h => ⟨h.1, fun i hi => wpOp_mono (fun _ _ h' => ⟨hS _ h'.1, wpAnyH_strong hS h'.2⟩) (h.2 i hi)⟩
theorem room_to {bb : Nat} {v : Value} {xs : List ByteArray} {w : World} {b : Bool} (h : At w bb v xs) (hb : decide (xs.length < 64) = b) :
    Calls Try.prog 31 #[.pointer (some ⟨bb, 0, none⟩)] w fun e w' => e = .returned (.bool b) ∧ w = w' := by
  subst hb
  exact room_any bb v xs w h

set_option maxHeartbeats 4000000 in
set_option maxRecDepth 100000 in
theorem runs_walk (v : Value) (l : List BDeed) (at0 : Int) (w : World) (hs : Sl w v l.length (l.flatMap BDeed.cells)) (hg : ∀ a ∈ l, BDeed.Good a) :
    Calls Try.prog 7 #[v, .int .i64 at0] w fun e w' => e = .returned (.bool true) ∧ Below w.heap.size w w' := by
  have hlen := hs.len
  by_cases h150 : 150 < l.length
  · obtain ⟨A, c, rfl⟩ := hs.form
    go_enter Try.func7, Try.ntmps7
    go_wp2_with fail
    refine (bawake _).mono ?_
    rintro e w1 ⟨rfl, hf1⟩
    go_wp2
    go_ret
    exact ⟨rfl, hf1.below (fun _ _ h => h)⟩
  obtain ⟨A, c, rfl⟩ := hs.form
  have hcell : ∀ k (hk : k < l.length), ∃ b o, A = some ⟨b, o, none⟩ ∧ w.cell? ⟨b, o + k * 3, none⟩ = some (.int .u8 (l[k]).kind) ∧ w.cell? ⟨b, o + k * 3 + 1, none⟩ = some (.string (l[k]).s) ∧ w.cell? ⟨b, o + k * 3 + 2, none⟩ = some (.int .i64 (l[k]).n) ∧ (0 ≤ (l[k]).kind ∧ (l[k]).kind ≤ 255) ∧ (l[k]).s.size ≤ maxLen := by
    intro k hk
    rcases hs with ⟨A', c', _, hn, _⟩ | ⟨b, o, c', he, h0, h1, h2, h3, h4⟩
    · omega
    · cases he
      obtain ⟨x0, x1, x2⟩ := bdeed_at h4 k hk
      have gg := hg _ (List.getElem_mem hk)
      exact ⟨b, o, rfl, x0, x1, x2, bounds_u8 gg.kind, gg.s⟩
  have HC := Lib.hid hcell
  clear hcell hs hg
  go_enter Try.func7, Try.ntmps7
  go_wp2_with fail
  refine (bawake _).mono ?_
  rintro e w1 ⟨rfl, hf1⟩
  go_wp2_with fail
  refine (new_any _).mono ?_
  rintro e w2 ⟨rfl, hA, hf2⟩
  have hF2 := hf1.trans hf2
  have hbb : w.heap.size ≤ w1.heap.size := hf1.size
  generalize w1.heap.size = bb at *
  clear hf1 hf2
  go_wp2_with fail
  go_loopw [6, 30] (fun y i wr => ∃ (k : Nat) (xs : List ByteArray) (u : Value), k ≤ l.length ∧ i = .int .i64 k ∧ At wr bb u xs ∧ wr.ownsRow (bb + 1) 9 1 y xs.length (strs xs) ∧ Hid (∀ k, y.ownBlock = some k → u.ownBlock ≠ some k) ∧ xs.length ≤ k ∧ Frm0 w wr) (fun _ i _ => l.length - (intOf i).toNat)
  case atStart => exact ⟨0, [], _, by omega, rfl, hA, World.ownsRow_nil _ _ _ _, by unfold Hid; simp [Value.ownBlock], by simp, hF2⟩
  case round =>
    clear hA hF2
    obtain ⟨k, xs, u, hk, rfl, hA, hY, hdj, hxk, hF⟩ := hrel
    by_cases hlt : k < l.length
    · obtain ⟨b, o, rfl, c0, c1, c2, hkd, hsm⟩ := HC.out k hlt
      have c0 := hF.cell c0 (fun h => h)
      have c1 := hF.cell c1 (fun h => h)
      have c2 := hF.cell c2 (fun h => h)
      generalize (l[k]).kind = kd at *
      generalize (l[k]).s = s at *
      generalize (l[k]).n = n at *
      have hA2 := hA.frm0 ((Frm.refl (fun _ => False) wr).alloc (.cells #[.int .u8 kd, .string s, .int .i64 n] 59))
      have hY2 := owns_frm0 hY ((Frm.refl (fun _ => False) wr).alloc (.cells #[.int .u8 kd, .string s, .int .i64 n] 59))
      have hF3 := hF.alloc (.cells #[.int .u8 kd, .string s, .int .i64 n] 59)
      have hbD := Bk.new wr (.cells #[.int .u8 kd, .string s, .int .i64 n] 59)
      have hDb := hA.lt
      have hDo := hA.own
      obtain ⟨⟨x, ib⟩, hag⟩ : ∃ r, at_ xs n = r := ⟨_, rfl⟩
      obtain ⟨⟨zs, e0⟩, htw⟩ : ∃ r, twice xs n = r := ⟨_, rfl⟩
      have hzl := twice_le xs n
      rw [htw] at hzl
      have hcl := cut_le xs n
      have HAG := Lib.hid hag
      have HTW := Lib.hid htw
      clear hag htw
      go_wp2_with fail
      all_goals
        generalize wr.alloc (.cells #[.int .u8 kd, .string s, .int .i64 n] 59) = wa at *
        have hYl := fun k hk => (hY.lt k hk).2
        generalize wr.heap.size = D at *
        clear c0 c1 c2 hA hF hY
        have x1 : wa.cell? ⟨D, 1, none⟩ = some (.string s) := Bk.cell hbD 1
        have x2 : wa.cell? ⟨D, 2, none⟩ = some (.int .i64 n) := Bk.cell hbD 2
        have hbw : bb + 1 ≤ wa.heap.size := hA2.lt
      · go_ret
        exact ⟨rfl, hF3.below (fun _ _ h => h)⟩
      · refine (take_to hA2 (by omega) HAG.out rfl).mono ?_
        rintro e w3 ⟨u3, rfl, h3, hm3, hf3⟩
        have hF4 := hA2.out hF3 hbb hf3
        have hY3 := owns_frm hY2 hf3 (fun k hk e => by
          rcases e with e | e
          · have := (hY2.lt k hk).1; omega
          · exact hdj.out k hk e)
        have x23 := hf3.cell x2 (by
          rintro (e | e)
          · simp only at e; omega
          · have := (hDo _ e).2; simp only at this; omega)
        have hs3 := hf3.size
        go_wp2_with fail
        refine (rtake_to hY3 (by omega) (by omega) HAG.out rfl).mono ?_
        rintro e w4 ⟨y3, rfl, hY4, hmy, hf4⟩
        have h4 := h3.frm0 hf4
        obtain ⟨A3, c3, rfl⟩ := owns_nil_form hY4
        have HD : Hid (decide (((cut xs n).length : Int) < 64) = decide ((cut xs n).length < 64)) := decide_eq_decide.2 (by omega)
        have hdj4 := Lib.hid (disj2 hm3 hmy hdj.out (fun k hk => (hY2.lt k hk).2) (fun k hk => (h3.own k hk).2))
        go_wp2_with fail
        refine (len_to h4 rfl).mono ?_
        rintro e w5 ⟨rfl, rfl⟩
        go_wp2_with fail
        refine (room_to h4 HD.out.symm).mono ?_
        rintro e w5 ⟨rfl, rfl⟩
        go_wp2_with fail
        go_roundw
        case rel => exact ⟨k + 1, _, _, by omega, by go_num, h4, hY4, hdj4, by omega, hF4.trans hf4⟩
        case measure => simp [intOf]; omega
      · refine (rtwice_to hY2 hbw (by omega) HTW.out).mono ?_
        rintro e w3 ⟨y3, rfl, hY3, hmy, hf3⟩
        have h3 := hA2.frm0 hf3
        have hF4 := hF3.trans hf3
        have x23 := hf3.cell x2 (fun h => h)
        obtain ⟨A3, c3, rfl⟩ := owns_nil_form hY3
        go_wp2_with fail
        refine (twice_to h3 (by omega) HTW.out).mono ?_
        rintro e w4 ⟨u3, rfl, h4, hm3, hf4⟩
        have hF5 := h3.out hF4 hbb hf4
        have hdj3 : ∀ k, u.ownBlock = some k → (Value.slice A3 zs.length c3).ownBlock ≠ some k := fun k hk e => by
          rcases hmy k e with h | h
          · exact hdj.out k h hk
          · have := (hA2.own k hk).2; omega
        have hY4 := owns_frm hY3 hf4 (fun k hk e => by
          rcases e with e | e
          · have := (hY3.lt k hk).1; omega
          · exact hdj3 k e hk)
        have hdj4 := Lib.hid (show ∀ k, (Value.slice A3 zs.length c3).ownBlock = some k → u3.ownBlock ≠ some k from fun k hk e => by
          rcases hm3 k e with h | h
          · exact hdj3 k h hk
          · have := (hY3.lt k hk).2; omega)
        have HD : Hid (decide ((zs.length : Int) < 64) = decide (zs.length < 64)) := decide_eq_decide.2 (by omega)
        go_wp2_with fail
        refine (len_to h4 rfl).mono ?_
        rintro e w5 ⟨rfl, rfl⟩
        go_wp2_with fail
        refine (room_to h4 HD.out.symm).mono ?_
        rintro e w5 ⟨rfl, rfl⟩
        go_wp2_with fail
        go_roundw
        case rel => exact ⟨k + 1, _, _, by omega, by go_num, h4, hY4, hdj4, by omega, hF5⟩
        case measure => simp [intOf]; omega
      · refine (put_to hA2 (by omega) rfl).mono ?_
        rintro e w3 ⟨u3, rfl, h3, hm3, hf3⟩
        have hF4 := hA2.out hF3 hbb hf3
        have hY3 := owns_frm hY2 hf3 (fun k hk e => by
          rcases e with e | e
          · have := (hY2.lt k hk).1; omega
          · exact hdj.out k hk e)
        have x13 := hf3.cell x1 (by
          rintro (e | e)
          · simp only at e; omega
          · have := (hDo _ e).2; simp only at this; omega)
        have hs3 := hf3.size
        have hM : xs.length + 1 ≤ maxLen := by unfold maxLen; omega
        have HD : Hid (decide (((xs.length : Int) + 1) < 64) = decide ((xs ++ [s]).length < 64)) := decide_eq_decide.2 (by simp; omega)
        go_wp2_with (at_builtin; refine wpList_append_sl rfl (.tmp 46) (.tmp 49) rfl Estr (bb + 1) _ (.slice (some ⟨w3.heap.size, 0, none⟩) 1 1) xs.length 1 (strs xs) (strs [s]) rfl rfl (hY3.alloc _) (Sl.new _ _ _ 1 (by decide) (by omega)) rfl (strs_one [s]) (by omega) (by omega) (by simp; omega) ?_; intro y4 w4 hown4 hf4 hat4)
        have hFF := ((Frm.refl (fun k => _ = some k) w3).alloc (.cells #[.string s] 9)).trans hf4
        have h4 := h3.frm hFF (fun e => by have := (hY3.lt _ e).1; omega) (fun k hk e => by
          rcases hm3 k hk with h | h
          · exact hdj.out k e h
          · have := (hY2.lt k e).2; omega)
        have hY4 : w4.ownsRow (bb + 1) 9 1 y4 (xs.length + 1) (strs (xs ++ [s])) := by
          rw [strs_app]; exact hown4
        have hmy := moved_of hat4
        have hdj4 := Lib.hid (disj2 hm3 hmy hdj.out (fun k hk => (hY2.lt k hk).2) (fun k hk => (h3.own k hk).2))
        have hF5 : Frm0 w w4 := hF4.then_ hFF (fun i hi e => by have := (hY3.lt _ e).1; omega)
        obtain ⟨A3, c3, rfl⟩ := owns_nil_form hY4
        go_wp2_with fail
        refine (len_to h4 (n := xs.length + 1) (by simp)).mono ?_
        rintro e w5 ⟨rfl, rfl⟩
        go_wp2_with fail
        refine (room_to h4 HD.out.symm).mono ?_
        rintro e w5 ⟨rfl, rfl⟩
        go_wp2_with fail
        go_roundw
        case rel => exact ⟨k + 1, _, _, by omega, by go_num, h4, by rw [List.length_append]; exact hY4, hdj4, by simp; omega, hF5⟩
        case measure => simp [intOf]; omega
    · obtain rfl : k = l.length := by omega
      obtain ⟨A3, c3, rfl⟩ := owns_nil_form hY
      go_wp2_with fail
      refine (all_any bb u xs _ hA (by omega)).mono ?_
      rintro e w5 ⟨t, rfl, hT, hf5⟩
      have hA5 := hA.frm0 hf5
      have hY5 := owns_frm0 hY hf5
      have hF5 := hF.trans hf5
      have hTu : ∀ k, t.ownBlock = some k → k ≠ bb ∧ u.ownBlock ≠ some k ∧ (Value.slice A3 xs.length c3).ownBlock ≠ some k := fun k hk => by
        have h1 := (hT.lt k hk).1
        have h2 := hA.lt
        refine ⟨by omega, fun e => ?_, fun e => ?_⟩
        · have := (hA.own k e).2; omega
        · have := (hY.lt k e).2; omega
      have hYc : ∀ k (hk : k < xs.length), ∃ b, A3 = some ⟨b, 0, none⟩ ∧ w5.cell? ⟨b, k, none⟩ = some (.string xs[k]) := by
        intro k hk
        rcases hY5.2 with ⟨h, h0⟩ | ⟨g, cap, cur, he, _⟩
        · omega
        · cases he
          exact ⟨g, rfl, by rw [hY5.cellAt k (by omega), strs_at xs k hk]⟩
      have hTc : ∀ k (hk : k < xs.length), ∃ b cap, t = .slice (some ⟨b, 0, none⟩) xs.length cap ∧ w5.cell? ⟨b, k, none⟩ = some (.string xs[k]) ∧ w5.frozen? ⟨b, k, none⟩ = false := by
        intro k hk
        rcases hT.2 with ⟨h, h0⟩ | ⟨g, cap, cur, rfl, hb, hg, hr⟩
        · omega
        · exact ⟨g, cap, rfl, by rw [hT.cellAt k (by omega), strs_at xs k hk], Bk.frozen hg k⟩
      have hTl := fun k hk => (hT.lt k hk).1
      obtain ⟨A4, c4, rfl⟩ := owns_nil_form hT
      have HYC := Lib.hid hYc
      have HTC := Lib.hid hTc
      have HTU := Lib.hid hTu
      have HTL := Lib.hid hTl
      have HA := Lib.hid hA5
      have hwsz := hA.lt
      clear hYc hTc hTu hTl hT hA hY hdj hA5
      generalize wr.heap.size = S0 at *
      go_wp2_with fail
      go_loopw [116] (fun i wq => ∃ (k : Nat), k ≤ xs.length ∧ i = .int .i64 k ∧ Frm (fun j => (Value.slice A4 xs.length c4).ownBlock = some j) w5 wq ∧ Hid (∀ j (hj : j < xs.length), k ≤ j → ∃ b, A4 = some ⟨b, 0, none⟩ ∧ wq.cell? ⟨b, j, none⟩ = some (.string xs[j]) ∧ wq.frozen? ⟨b, j, none⟩ = false)) (fun i _ => xs.length - (intOf i).toNat)
      case atStart => exact ⟨0, Nat.zero_le _, rfl, Frm.refl _ _, fun j hj _ => by
        obtain ⟨b, cap, he, h1, h2⟩ := HTC.out j hj
        cases he
        exact ⟨b, rfl, h1, h2⟩⟩
      case round =>
        obtain ⟨k, hk, rfl, hFq, hcc⟩ := hrel
        have hAq := HA.out.frm hFq (fun e => (HTU.out _ e).1 rfl) (fun j hj e => (HTU.out _ e).2.1 hj)
        by_cases hkx : k < xs.length
        · obtain ⟨b, rfl, h1⟩ := HYC.out k hkx
          obtain ⟨b', rfl, h3, h4⟩ := hcc.out k hkx (Nat.le_refl _)
          have h1 := hFq.cell h1 (fun e => (HTU.out _ e).2.2 rfl)
          have hg := Lib.hid (show at_ xs (k : Int) = (xs[k], true) from (at_get (by omega)).trans (by simp [List.getD_eq_getElem?_getD, List.getElem?_eq_getElem hkx]))
          have hi1 : (k : Int) < (xs.length : Int) := by omega
          have hn : ∀ m, Hid (∀ j (hj : j < xs.length), k + 1 ≤ j → ∃ b, (some (⟨b', 0, none⟩ : Addr)) = some ⟨b, 0, none⟩ ∧ ((wr.drewN m).setCell ⟨b', k, none⟩ (.string ⟨#[116, 117, 114, 110, 101, 100]⟩)).cell? ⟨b, j, none⟩ = some (.string xs[j]) ∧ ((wr.drewN m).setCell ⟨b', k, none⟩ (.string ⟨#[116, 117, 114, 110, 101, 100]⟩)).frozen? ⟨b, j, none⟩ = false) := fun m j hj hkj => by
            obtain ⟨b9, he, h5, h6⟩ := hcc.out j hj (by omega)
            cases he
            refine ⟨b', rfl, ?_, ?_⟩
            · rw [World.cell?_setCell_other _ _ _ _ (by first | (simp; done) | (simp; omega))]
              exact h5
            · rw [World.frozen?_setCell]
              exact h6
          have hFn : ∀ m, Frm (fun j => (Value.slice (some ⟨b', 0, none⟩) xs.length c4).ownBlock = some j) w5 ((wr.drewN m).setCell ⟨b', k, none⟩ (.string ⟨#[116, 117, 114, 110, 101, 100]⟩)) := fun m => (hFq.drewN m).setCell ⟨b', k, none⟩ (fun _ => rfl) _
          generalize xs[k] = x at *
          go_wp2_with fail
          refine (at_to hAq (by omega) hg.out).mono ?_
          rintro e w6 ⟨rfl, rfl⟩
          go_wp2_with fail
          go_quiet (fail)
          go_wp2_with fail
          go_roundw
          case rel => exact ⟨k + 1, by omega, by go_num, hFn _, hn _⟩
          case measure => simp [intOf]; omega
        · obtain rfl : k = xs.length := by omega
          have hF6 : Frm0 w wr := hF5.then_ hFq (fun i hi e => by have := HTL.out i e; omega)
          have hcs : (decide ((0 : Int) ≤ at0) = true ∧ decide (at0 < (xs.length : Int)) = true ∧ ∃ x, at_ xs at0 = (x, true)) ∨ (decide ((0 : Int) ≤ at0) = true ∧ decide (at0 < (xs.length : Int)) = false ∧ ∃ x, at_ xs at0 = (x, false)) ∨ (decide ((0 : Int) ≤ at0) = false ∧ decide (at0 < (xs.length : Int)) = decide (at0 < (xs.length : Int)) ∧ ∃ x, at_ xs at0 = (x, false)) := by
            by_cases h1 : 0 ≤ at0
            · by_cases h2 : at0 < xs.length
              · exact .inl ⟨decide_eq_true h1, decide_eq_true h2, _, at_get ⟨h1, h2⟩⟩
              · exact .inr (.inl ⟨decide_eq_true h1, decide_eq_false h2, _, at_no (fun h => h2 h.2)⟩)
            · exact .inr (.inr ⟨decide_eq_false h1, rfl, _, at_no (fun h => h1 h.1)⟩)
          by_cases hx : 0 < xs.length
          · obtain ⟨b, rfl, h1⟩ := HYC.out 0 hx
            have h1 := hFq.cell h1 (fun e => (HTU.out _ e).2.2 rfl)
            have hx0 : ∀ w, At w bb u xs → Calls Try.prog 32 #[.pointer (some ⟨bb, 0, none⟩)] w (fun e w' => ∃ b cap, e = .returned (.slice (some ⟨b, 0, none⟩) xs.length cap) ∧ w'.cell? ⟨b, 0, none⟩ = some (.string (xs[0]'hx)) ∧ Frm0 w w') := fun w h => (all_any bb u xs w h (by omega)).mono (by
              rintro e w' ⟨t, rfl, hT, hf⟩
              obtain ⟨b, cap, rfl⟩ := owns_form0 hT hx
              exact ⟨b, cap, rfl, (hT.cellAt 0 (by omega)).trans (strs_at xs 0 hx), hf⟩)
            have HX0 := Lib.hid hx0
            clear hx0
            have hz : ((xs.length : Int) == 0) = false := by rw [beq_eq_false_iff_ne]; omega
            have hxp : (0 : Int) < (xs.length : Int) := by omega
            generalize xs[0]'hx = x at *
            rcases hcs with ⟨hda, hdb, x9, hag⟩ | ⟨hda, hdb, x9, hag⟩ | ⟨hda, _, x9, hag⟩
            · have hag := Lib.hid hag
              go_wp2_with fail
              refine (at_to hAq (by omega) hag.out).mono ?_
              rintro e w6 ⟨rfl, rfl⟩
              go_wp2_with fail
              have hAd : At wr.drew bb u xs := ⟨hAq.blk, hAq.row.drew⟩
              refine wp_region_held_drew (S := (fun w' => At w' bb u xs ∧ w'.cell? ⟨b, 0, none⟩ = some (.string x) ∧ Frm0 w w')) (by kernel_rfl) (⟨hAd, h1.trans rfl, hF6.drew⟩) (fun hHeld => ?_)
              skip
              refine wpAnyH_take (i := 0) (v := ?_) rfl (by kernel_rfl) (by kernel_rfl) (by kernel_rfl) (fun _ _ _ h => h) (Or.inl ⟨by rfl, ?_⟩) (by assumption) ?_
              rotate_left 1
              focus (intro w hSw; (try dsimp only at hSw); go_simp; (try with_reducible rfl))
              (try simp only [Act.put, List.getElem_toArray, List.getElem_cons_succ, List.getElem_cons_zero, List.setIfInBounds_toArray, List.set_cons_zero, List.set_cons_succ])
              refine wpAnyH_take (i := 1) (v := ?_) rfl (by kernel_rfl) (by kernel_rfl) (by kernel_rfl) (fun _ _ _ h => h) (Or.inl ⟨by rfl, ?_⟩) (by assumption) ?_
              rotate_left 1
              focus (intro w hSw; (try dsimp only at hSw); go_simp; (try with_reducible rfl))
              (try simp only [Act.put, List.getElem_toArray, List.getElem_cons_succ, List.getElem_cons_zero, List.setIfInBounds_toArray, List.set_cons_zero, List.set_cons_succ])
              refine wpAnyH_take (i := 2) (v := ?_) rfl (by kernel_rfl) (by kernel_rfl) (by kernel_rfl) (fun _ _ _ h => h) (Or.inl ⟨by rfl, ?_⟩) (by assumption) ?_
              rotate_left 1
              focus (intro w hSw; (try dsimp only at hSw); go_simp; (try with_reducible rfl))
              (try simp only [Act.put, List.getElem_toArray, List.getElem_cons_succ, List.getElem_cons_zero, List.setIfInBounds_toArray, List.set_cons_zero, List.set_cons_succ])
              refine wpAnyH_take (i := 3) (v := ?_) rfl (by kernel_rfl) (by kernel_rfl) (by kernel_rfl) (fun _ _ _ h => h) (Or.inl ⟨by rfl, ?_⟩) (by assumption) ?_
              rotate_left 1
              focus (intro w hSw; (try dsimp only at hSw); go_simp; (try with_reducible rfl))
              (try simp only [Act.put, List.getElem_toArray, List.getElem_cons_succ, List.getElem_cons_zero, List.setIfInBounds_toArray, List.set_cons_zero, List.set_cons_succ])
              refine wpAnyH_take (i := 4) (v := ?_) rfl (by kernel_rfl) (by kernel_rfl) (by kernel_rfl) (fun _ _ _ h => h) (Or.inl ⟨by rfl, ?_⟩) (by assumption) ?_
              rotate_left 1
              focus (intro w hSw; (try dsimp only at hSw); go_simp; (try with_reducible rfl))
              (try simp only [Act.put, List.getElem_toArray, List.getElem_cons_succ, List.getElem_cons_zero, List.setIfInBounds_toArray, List.set_cons_zero, List.set_cons_succ])
              refine wpAnyH_take (i := 5) (v := ?_) rfl (by kernel_rfl) (by kernel_rfl) (by kernel_rfl) (fun _ _ _ h => h) (Or.inl ⟨by rfl, ?_⟩) (by assumption) ?_
              rotate_left 1
              focus (intro w hSw; (try dsimp only at hSw); go_simp; (try with_reducible rfl))
              (try simp only [Act.put, List.getElem_toArray, List.getElem_cons_succ, List.getElem_cons_zero, List.setIfInBounds_toArray, List.set_cons_zero, List.set_cons_succ])
              refine wpAnyH_take (i := 6) (v := ?_) rfl (by kernel_rfl) (by kernel_rfl) (by kernel_rfl) (fun _ _ _ h => h) (Or.inl ⟨by rfl, ?_⟩) (by assumption) ?_
              rotate_left 1
              focus (intro w hSw; (try dsimp only at hSw); go_simp; (try with_reducible rfl))
              (try simp only [Act.put, List.getElem_toArray, List.getElem_cons_succ, List.getElem_cons_zero, List.setIfInBounds_toArray, List.set_cons_zero, List.set_cons_succ])
              refine wpAnyH_take (i := 7) (v := ?_) rfl (by kernel_rfl) (by kernel_rfl) (by kernel_rfl) (fun _ _ _ h => h) (Or.inl ⟨by rfl, ?_⟩) (by assumption) ?_
              rotate_left 1
              focus (intro w hSw; (try dsimp only at hSw); go_simp; (try with_reducible rfl))
              (try simp only [Act.put, List.getElem_toArray, List.getElem_cons_succ, List.getElem_cons_zero, List.setIfInBounds_toArray, List.set_cons_zero, List.set_cons_succ])
              refine wpAnyH_take (i := 8) (v := ?_) rfl (by kernel_rfl) (by kernel_rfl) (by kernel_rfl) (fun _ _ _ h => h) (Or.inl ⟨by rfl, ?_⟩) (by assumption) ?_
              rotate_left 1
              focus (intro w hSw; (try dsimp only at hSw); go_simp; (try with_reducible rfl))
              (try simp only [Act.put, List.getElem_toArray, List.getElem_cons_succ, List.getElem_cons_zero, List.setIfInBounds_toArray, List.set_cons_zero, List.set_cons_succ])
              refine wpAnyH_take (i := 9) (v := ?_) rfl (by kernel_rfl) (by kernel_rfl) (by kernel_rfl) (fun _ _ _ h => h) (Or.inl ⟨by rfl, ?_⟩) (by assumption) ?_
              rotate_left 1
              focus (intro w hSw; (try dsimp only at hSw); go_simp; (try with_reducible rfl))
              (try simp only [Act.put, List.getElem_toArray, List.getElem_cons_succ, List.getElem_cons_zero, List.setIfInBounds_toArray, List.set_cons_zero, List.set_cons_succ])
              refine wpAnyH_take (i := 10) (v := ?_) rfl (by kernel_rfl) (by kernel_rfl) (by kernel_rfl) (fun _ _ _ h => h) (Or.inl ⟨by rfl, ?_⟩) (by assumption) ?_
              rotate_left 1
              focus (intro w hSw; (try dsimp only at hSw); go_simp; (try with_reducible rfl))
              (try simp only [Act.put, List.getElem_toArray, List.getElem_cons_succ, List.getElem_cons_zero, List.setIfInBounds_toArray, List.set_cons_zero, List.set_cons_succ])
              refine wpAnyH_take (i := 11) (v := ?_) rfl (by kernel_rfl) (by kernel_rfl) (by kernel_rfl) (fun _ _ _ h => h) (Or.inl ⟨by rfl, ?_⟩) (by assumption) ?_
              rotate_left 1
              focus (intro w hSw; (try dsimp only at hSw); go_simp; (try with_reducible rfl))
              (try simp only [Act.put, List.getElem_toArray, List.getElem_cons_succ, List.getElem_cons_zero, List.setIfInBounds_toArray, List.set_cons_zero, List.set_cons_succ])
              refine wpAnyH_take (i := 12) (v := ?_) rfl (by kernel_rfl) (by kernel_rfl) (by kernel_rfl) (fun _ _ _ h => h) (Or.inl ⟨by rfl, ?_⟩) (by assumption) ?_
              rotate_left 1
              focus (intro w hSw; (try dsimp only at hSw); go_simp; (try with_reducible rfl))
              (try simp only [Act.put, List.getElem_toArray, List.getElem_cons_succ, List.getElem_cons_zero, List.setIfInBounds_toArray, List.set_cons_zero, List.set_cons_succ])
              refine wpAnyH_take (i := 13) (v := ?_) rfl (by kernel_rfl) (by kernel_rfl) (by kernel_rfl) (fun _ _ _ h => h) (Or.inl ⟨by rfl, ?_⟩) (by assumption) ?_
              rotate_left 1
              focus (intro w hSw; (try dsimp only at hSw); go_simp; (try with_reducible rfl))
              (try simp only [Act.put, List.getElem_toArray, List.getElem_cons_succ, List.getElem_cons_zero, List.setIfInBounds_toArray, List.set_cons_zero, List.set_cons_succ])
              refine wpAnyH_take (i := 14) (v := ?_) rfl (by kernel_rfl) (by kernel_rfl) (by kernel_rfl) (fun _ _ _ h => h) (Or.inl ⟨by rfl, ?_⟩) (by assumption) ?_
              rotate_left 1
              focus (intro w hSw; (try dsimp only at hSw); go_simp; (try with_reducible rfl))
              (try simp only [Act.put, List.getElem_toArray, List.getElem_cons_succ, List.getElem_cons_zero, List.setIfInBounds_toArray, List.set_cons_zero, List.set_cons_succ])
              refine wpAnyH_take (i := 15) (v := ?_) rfl (by kernel_rfl) (by kernel_rfl) (by kernel_rfl) (fun _ _ _ h => h) (Or.inl ⟨by rfl, ?_⟩) (by assumption) ?_
              rotate_left 1
              focus (intro w hSw; (try dsimp only at hSw); go_simp; (try with_reducible rfl))
              (try simp only [Act.put, List.getElem_toArray, List.getElem_cons_succ, List.getElem_cons_zero, List.setIfInBounds_toArray, List.set_cons_zero, List.set_cons_succ])
              refine wpAnyH_take (i := 19) (v := ?_) rfl (by kernel_rfl) (by kernel_rfl) (by kernel_rfl) (fun _ _ _ h => h) (Or.inl ⟨by rfl, ?_⟩) (by assumption) ?_
              rotate_left 1
              focus (intro w hSw; (try dsimp only at hSw); go_simp; (try with_reducible rfl))
              (try simp only [Act.put, List.getElem_toArray, List.getElem_cons_succ, List.getElem_cons_zero, List.setIfInBounds_toArray, List.set_cons_zero, List.set_cons_succ])
              refine wpAnyH_take (i := 20) (v := ?_) rfl (by kernel_rfl) (by kernel_rfl) (by kernel_rfl) (fun _ _ _ h => h) (Or.inl ⟨by rfl, ?_⟩) (by assumption) ?_
              rotate_left 1
              focus (intro w hSw; (try dsimp only at hSw); go_simp; (try with_reducible rfl))
              (try simp only [Act.put, List.getElem_toArray, List.getElem_cons_succ, List.getElem_cons_zero, List.setIfInBounds_toArray, List.set_cons_zero, List.set_cons_succ])
              refine wpAnyH_take (i := 21) (v := ?_) rfl (by kernel_rfl) (by kernel_rfl) (by kernel_rfl) (fun _ _ _ h => h) (Or.inl ⟨by rfl, ?_⟩) (by assumption) ?_
              rotate_left 1
              focus (intro w hSw; (try dsimp only at hSw); obtain ⟨e0, e1, e2⟩ := hSw; go_simp; (try with_reducible rfl))
              (try simp only [Act.put, List.getElem_toArray, List.getElem_cons_succ, List.getElem_cons_zero, List.setIfInBounds_toArray, List.set_cons_zero, List.set_cons_succ])
              refine wpAnyH_ready (rs := [16]) (by kernel_rfl) (by simp) ?_
              refine AllReadyH.cons rfl (fun K hK => ?_) AllReadyH.nil
              go_simp
              refine (HX0.out _ hHeld.1).mono ?_
              rintro e w81 ⟨b7, cap7, rfl, h7, hf7⟩
              (try go_wp2_with fail)
              refine hK.out _ _ ?_ (fun hHeld => ?_)
              focus (exact ⟨hHeld.1.frm0 hf7, hf7.cell hHeld.2.1 (fun h => h), hHeld.2.2.trans hf7⟩)
              clear hK K
              (try simp only [Act.put, List.getElem_toArray, List.getElem_cons_succ, List.getElem_cons_zero, List.setIfInBounds_toArray, List.set_cons_zero, List.set_cons_succ])
              refine wpAnyH_strong (S' := fun w' => At w' bb u xs ∧ w'.cell? ⟨b, 0, none⟩ = some (.string x) ∧ Frm0 w w' ∧ w'.cell? ⟨b7, 0, none⟩ = some (.string x)) (fun _ h => ⟨h.1, h.2.1, h.2.2.1⟩) ?_
              have hHeld2 : (fun w' => At w' bb u xs ∧ w'.cell? ⟨b, 0, none⟩ = some (.string x) ∧ Frm0 w w' ∧ w'.cell? ⟨b7, 0, none⟩ = some (.string x)) w81 := ⟨hHeld.1, hHeld.2.1, hHeld.2.2, h7⟩
              refine wpAnyH_take (i := 17) (v := ?_) rfl (by kernel_rfl) (by kernel_rfl) (by kernel_rfl) (fun _ _ _ h => h) (Or.inl ⟨by rfl, ?_⟩) (by assumption) ?_
              rotate_left 1
              focus (intro w hSw; (try dsimp only at hSw); go_simp; (try with_reducible rfl))
              (try simp only [Act.put, List.getElem_toArray, List.getElem_cons_succ, List.getElem_cons_zero, List.setIfInBounds_toArray, List.set_cons_zero, List.set_cons_succ])
              refine wpAnyH_take (i := 18) (v := ?_) rfl (by kernel_rfl) (by kernel_rfl) (by kernel_rfl) (fun _ _ _ h => h) (Or.inl ⟨by rfl, ?_⟩) (by assumption) ?_
              rotate_left 1
              focus (intro w hSw; (try dsimp only at hSw); obtain ⟨e0, e1, e2, e3⟩ := hSw; go_simp; (try with_reducible rfl))
              (try simp only [Act.put, List.getElem_toArray, List.getElem_cons_succ, List.getElem_cons_zero, List.setIfInBounds_toArray, List.set_cons_zero, List.set_cons_succ])
              refine wpAnyH_take (i := 22) (v := ?_) rfl (by kernel_rfl) (by kernel_rfl) (by kernel_rfl) (fun _ _ _ h => h) (Or.inl ⟨by rfl, ?_⟩) (by assumption) ?_
              rotate_left 1
              focus (intro w hSw; (try dsimp only at hSw); go_simp; (try with_reducible rfl))
              (try simp only [Act.put, List.getElem_toArray, List.getElem_cons_succ, List.getElem_cons_zero, List.setIfInBounds_toArray, List.set_cons_zero, List.set_cons_succ])
              refine wpAnyH_take (i := 23) (v := ?_) rfl (by kernel_rfl) (by kernel_rfl) (by kernel_rfl) (fun _ _ _ h => h) (Or.inl ⟨by rfl, ?_⟩) (by assumption) ?_
              rotate_left 1
              focus (intro w hSw; (try dsimp only at hSw); go_simp; (try with_reducible rfl))
              (try simp only [Act.put, List.getElem_toArray, List.getElem_cons_succ, List.getElem_cons_zero, List.setIfInBounds_toArray, List.set_cons_zero, List.set_cons_succ])
              refine wpAnyH_take (i := 24) (v := ?_) rfl (by kernel_rfl) (by kernel_rfl) (by kernel_rfl) (fun _ _ _ h => h) (Or.inl ⟨by rfl, ?_⟩) (by assumption) ?_
              rotate_left 1
              focus (intro w hSw; (try dsimp only at hSw); go_simp; (try with_reducible rfl))
              (try simp only [Act.put, List.getElem_toArray, List.getElem_cons_succ, List.getElem_cons_zero, List.setIfInBounds_toArray, List.set_cons_zero, List.set_cons_succ])
              refine wpAnyH_take (i := 25) (v := ?_) rfl (by kernel_rfl) (by kernel_rfl) (by kernel_rfl) (fun _ _ _ h => h) (Or.inl ⟨by rfl, ?_⟩) (by assumption) ?_
              rotate_left 1
              focus (intro w hSw; (try dsimp only at hSw); go_simp; (try with_reducible rfl))
              (try simp only [Act.put, List.getElem_toArray, List.getElem_cons_succ, List.getElem_cons_zero, List.setIfInBounds_toArray, List.set_cons_zero, List.set_cons_succ])
              refine wpAnyH_done (by kernel_rfl) ?_ _
              go_wp2
              go_ret
              exact ⟨rfl, hHeld2.2.2.1.below (fun _ _ h => h)⟩
            · have hag := Lib.hid hag
              go_wp2_with fail
              refine (at_to hAq (by omega) hag.out).mono ?_
              rintro e w6 ⟨rfl, rfl⟩
              go_wp2_with fail
              have hAd : At wr.drew bb u xs := ⟨hAq.blk, hAq.row.drew⟩
              refine wp_region_held_drew (S := (fun w' => At w' bb u xs ∧ w'.cell? ⟨b, 0, none⟩ = some (.string x) ∧ Frm0 w w')) (by kernel_rfl) (⟨hAd, h1.trans rfl, hF6.drew⟩) (fun hHeld => ?_)
              skip
              refine wpAnyH_take (i := 0) (v := ?_) rfl (by kernel_rfl) (by kernel_rfl) (by kernel_rfl) (fun _ _ _ h => h) (Or.inl ⟨by rfl, ?_⟩) (by assumption) ?_
              rotate_left 1
              focus (intro w hSw; (try dsimp only at hSw); go_simp; (try with_reducible rfl))
              (try simp only [Act.put, List.getElem_toArray, List.getElem_cons_succ, List.getElem_cons_zero, List.setIfInBounds_toArray, List.set_cons_zero, List.set_cons_succ])
              refine wpAnyH_take (i := 1) (v := ?_) rfl (by kernel_rfl) (by kernel_rfl) (by kernel_rfl) (fun _ _ _ h => h) (Or.inl ⟨by rfl, ?_⟩) (by assumption) ?_
              rotate_left 1
              focus (intro w hSw; (try dsimp only at hSw); go_simp; (try with_reducible rfl))
              (try simp only [Act.put, List.getElem_toArray, List.getElem_cons_succ, List.getElem_cons_zero, List.setIfInBounds_toArray, List.set_cons_zero, List.set_cons_succ])
              refine wpAnyH_take (i := 2) (v := ?_) rfl (by kernel_rfl) (by kernel_rfl) (by kernel_rfl) (fun _ _ _ h => h) (Or.inl ⟨by rfl, ?_⟩) (by assumption) ?_
              rotate_left 1
              focus (intro w hSw; (try dsimp only at hSw); go_simp; (try with_reducible rfl))
              (try simp only [Act.put, List.getElem_toArray, List.getElem_cons_succ, List.getElem_cons_zero, List.setIfInBounds_toArray, List.set_cons_zero, List.set_cons_succ])
              refine wpAnyH_take (i := 3) (v := ?_) rfl (by kernel_rfl) (by kernel_rfl) (by kernel_rfl) (fun _ _ _ h => h) (Or.inl ⟨by rfl, ?_⟩) (by assumption) ?_
              rotate_left 1
              focus (intro w hSw; (try dsimp only at hSw); go_simp; (try with_reducible rfl))
              (try simp only [Act.put, List.getElem_toArray, List.getElem_cons_succ, List.getElem_cons_zero, List.setIfInBounds_toArray, List.set_cons_zero, List.set_cons_succ])
              refine wpAnyH_take (i := 4) (v := ?_) rfl (by kernel_rfl) (by kernel_rfl) (by kernel_rfl) (fun _ _ _ h => h) (Or.inl ⟨by rfl, ?_⟩) (by assumption) ?_
              rotate_left 1
              focus (intro w hSw; (try dsimp only at hSw); go_simp; (try with_reducible rfl))
              (try simp only [Act.put, List.getElem_toArray, List.getElem_cons_succ, List.getElem_cons_zero, List.setIfInBounds_toArray, List.set_cons_zero, List.set_cons_succ])
              refine wpAnyH_take (i := 5) (v := ?_) rfl (by kernel_rfl) (by kernel_rfl) (by kernel_rfl) (fun _ _ _ h => h) (Or.inl ⟨by rfl, ?_⟩) (by assumption) ?_
              rotate_left 1
              focus (intro w hSw; (try dsimp only at hSw); go_simp; (try with_reducible rfl))
              (try simp only [Act.put, List.getElem_toArray, List.getElem_cons_succ, List.getElem_cons_zero, List.setIfInBounds_toArray, List.set_cons_zero, List.set_cons_succ])
              refine wpAnyH_take (i := 6) (v := ?_) rfl (by kernel_rfl) (by kernel_rfl) (by kernel_rfl) (fun _ _ _ h => h) (Or.inl ⟨by rfl, ?_⟩) (by assumption) ?_
              rotate_left 1
              focus (intro w hSw; (try dsimp only at hSw); go_simp; (try with_reducible rfl))
              (try simp only [Act.put, List.getElem_toArray, List.getElem_cons_succ, List.getElem_cons_zero, List.setIfInBounds_toArray, List.set_cons_zero, List.set_cons_succ])
              refine wpAnyH_take (i := 7) (v := ?_) rfl (by kernel_rfl) (by kernel_rfl) (by kernel_rfl) (fun _ _ _ h => h) (Or.inl ⟨by rfl, ?_⟩) (by assumption) ?_
              rotate_left 1
              focus (intro w hSw; (try dsimp only at hSw); go_simp; (try with_reducible rfl))
              (try simp only [Act.put, List.getElem_toArray, List.getElem_cons_succ, List.getElem_cons_zero, List.setIfInBounds_toArray, List.set_cons_zero, List.set_cons_succ])
              refine wpAnyH_take (i := 8) (v := ?_) rfl (by kernel_rfl) (by kernel_rfl) (by kernel_rfl) (fun _ _ _ h => h) (Or.inl ⟨by rfl, ?_⟩) (by assumption) ?_
              rotate_left 1
              focus (intro w hSw; (try dsimp only at hSw); go_simp; (try with_reducible rfl))
              (try simp only [Act.put, List.getElem_toArray, List.getElem_cons_succ, List.getElem_cons_zero, List.setIfInBounds_toArray, List.set_cons_zero, List.set_cons_succ])
              refine wpAnyH_take (i := 9) (v := ?_) rfl (by kernel_rfl) (by kernel_rfl) (by kernel_rfl) (fun _ _ _ h => h) (Or.inl ⟨by rfl, ?_⟩) (by assumption) ?_
              rotate_left 1
              focus (intro w hSw; (try dsimp only at hSw); go_simp; (try with_reducible rfl))
              (try simp only [Act.put, List.getElem_toArray, List.getElem_cons_succ, List.getElem_cons_zero, List.setIfInBounds_toArray, List.set_cons_zero, List.set_cons_succ])
              refine wpAnyH_take (i := 10) (v := ?_) rfl (by kernel_rfl) (by kernel_rfl) (by kernel_rfl) (fun _ _ _ h => h) (Or.inl ⟨by rfl, ?_⟩) (by assumption) ?_
              rotate_left 1
              focus (intro w hSw; (try dsimp only at hSw); go_simp; (try with_reducible rfl))
              (try simp only [Act.put, List.getElem_toArray, List.getElem_cons_succ, List.getElem_cons_zero, List.setIfInBounds_toArray, List.set_cons_zero, List.set_cons_succ])
              refine wpAnyH_take (i := 11) (v := ?_) rfl (by kernel_rfl) (by kernel_rfl) (by kernel_rfl) (fun _ _ _ h => h) (Or.inl ⟨by rfl, ?_⟩) (by assumption) ?_
              rotate_left 1
              focus (intro w hSw; (try dsimp only at hSw); go_simp; (try with_reducible rfl))
              (try simp only [Act.put, List.getElem_toArray, List.getElem_cons_succ, List.getElem_cons_zero, List.setIfInBounds_toArray, List.set_cons_zero, List.set_cons_succ])
              refine wpAnyH_take (i := 12) (v := ?_) rfl (by kernel_rfl) (by kernel_rfl) (by kernel_rfl) (fun _ _ _ h => h) (Or.inl ⟨by rfl, ?_⟩) (by assumption) ?_
              rotate_left 1
              focus (intro w hSw; (try dsimp only at hSw); go_simp; (try with_reducible rfl))
              (try simp only [Act.put, List.getElem_toArray, List.getElem_cons_succ, List.getElem_cons_zero, List.setIfInBounds_toArray, List.set_cons_zero, List.set_cons_succ])
              refine wpAnyH_take (i := 13) (v := ?_) rfl (by kernel_rfl) (by kernel_rfl) (by kernel_rfl) (fun _ _ _ h => h) (Or.inl ⟨by rfl, ?_⟩) (by assumption) ?_
              rotate_left 1
              focus (intro w hSw; (try dsimp only at hSw); go_simp; (try with_reducible rfl))
              (try simp only [Act.put, List.getElem_toArray, List.getElem_cons_succ, List.getElem_cons_zero, List.setIfInBounds_toArray, List.set_cons_zero, List.set_cons_succ])
              refine wpAnyH_take (i := 14) (v := ?_) rfl (by kernel_rfl) (by kernel_rfl) (by kernel_rfl) (fun _ _ _ h => h) (Or.inl ⟨by rfl, ?_⟩) (by assumption) ?_
              rotate_left 1
              focus (intro w hSw; (try dsimp only at hSw); go_simp; (try with_reducible rfl))
              (try simp only [Act.put, List.getElem_toArray, List.getElem_cons_succ, List.getElem_cons_zero, List.setIfInBounds_toArray, List.set_cons_zero, List.set_cons_succ])
              refine wpAnyH_take (i := 15) (v := ?_) rfl (by kernel_rfl) (by kernel_rfl) (by kernel_rfl) (fun _ _ _ h => h) (Or.inl ⟨by rfl, ?_⟩) (by assumption) ?_
              rotate_left 1
              focus (intro w hSw; (try dsimp only at hSw); go_simp; (try with_reducible rfl))
              (try simp only [Act.put, List.getElem_toArray, List.getElem_cons_succ, List.getElem_cons_zero, List.setIfInBounds_toArray, List.set_cons_zero, List.set_cons_succ])
              refine wpAnyH_take (i := 19) (v := ?_) rfl (by kernel_rfl) (by kernel_rfl) (by kernel_rfl) (fun _ _ _ h => h) (Or.inl ⟨by rfl, ?_⟩) (by assumption) ?_
              rotate_left 1
              focus (intro w hSw; (try dsimp only at hSw); go_simp; (try with_reducible rfl))
              (try simp only [Act.put, List.getElem_toArray, List.getElem_cons_succ, List.getElem_cons_zero, List.setIfInBounds_toArray, List.set_cons_zero, List.set_cons_succ])
              refine wpAnyH_take (i := 20) (v := ?_) rfl (by kernel_rfl) (by kernel_rfl) (by kernel_rfl) (fun _ _ _ h => h) (Or.inl ⟨by rfl, ?_⟩) (by assumption) ?_
              rotate_left 1
              focus (intro w hSw; (try dsimp only at hSw); go_simp; (try with_reducible rfl))
              (try simp only [Act.put, List.getElem_toArray, List.getElem_cons_succ, List.getElem_cons_zero, List.setIfInBounds_toArray, List.set_cons_zero, List.set_cons_succ])
              refine wpAnyH_take (i := 21) (v := ?_) rfl (by kernel_rfl) (by kernel_rfl) (by kernel_rfl) (fun _ _ _ h => h) (Or.inl ⟨by rfl, ?_⟩) (by assumption) ?_
              rotate_left 1
              focus (intro w hSw; (try dsimp only at hSw); obtain ⟨e0, e1, e2⟩ := hSw; go_simp; (try with_reducible rfl))
              (try simp only [Act.put, List.getElem_toArray, List.getElem_cons_succ, List.getElem_cons_zero, List.setIfInBounds_toArray, List.set_cons_zero, List.set_cons_succ])
              refine wpAnyH_ready (rs := [16]) (by kernel_rfl) (by simp) ?_
              refine AllReadyH.cons rfl (fun K hK => ?_) AllReadyH.nil
              go_simp
              refine (HX0.out _ hHeld.1).mono ?_
              rintro e w81 ⟨b7, cap7, rfl, h7, hf7⟩
              (try go_wp2_with fail)
              refine hK.out _ _ ?_ (fun hHeld => ?_)
              focus (exact ⟨hHeld.1.frm0 hf7, hf7.cell hHeld.2.1 (fun h => h), hHeld.2.2.trans hf7⟩)
              clear hK K
              (try simp only [Act.put, List.getElem_toArray, List.getElem_cons_succ, List.getElem_cons_zero, List.setIfInBounds_toArray, List.set_cons_zero, List.set_cons_succ])
              refine wpAnyH_strong (S' := fun w' => At w' bb u xs ∧ w'.cell? ⟨b, 0, none⟩ = some (.string x) ∧ Frm0 w w' ∧ w'.cell? ⟨b7, 0, none⟩ = some (.string x)) (fun _ h => ⟨h.1, h.2.1, h.2.2.1⟩) ?_
              have hHeld2 : (fun w' => At w' bb u xs ∧ w'.cell? ⟨b, 0, none⟩ = some (.string x) ∧ Frm0 w w' ∧ w'.cell? ⟨b7, 0, none⟩ = some (.string x)) w81 := ⟨hHeld.1, hHeld.2.1, hHeld.2.2, h7⟩
              refine wpAnyH_take (i := 17) (v := ?_) rfl (by kernel_rfl) (by kernel_rfl) (by kernel_rfl) (fun _ _ _ h => h) (Or.inl ⟨by rfl, ?_⟩) (by assumption) ?_
              rotate_left 1
              focus (intro w hSw; (try dsimp only at hSw); go_simp; (try with_reducible rfl))
              (try simp only [Act.put, List.getElem_toArray, List.getElem_cons_succ, List.getElem_cons_zero, List.setIfInBounds_toArray, List.set_cons_zero, List.set_cons_succ])
              refine wpAnyH_take (i := 18) (v := ?_) rfl (by kernel_rfl) (by kernel_rfl) (by kernel_rfl) (fun _ _ _ h => h) (Or.inl ⟨by rfl, ?_⟩) (by assumption) ?_
              rotate_left 1
              focus (intro w hSw; (try dsimp only at hSw); obtain ⟨e0, e1, e2, e3⟩ := hSw; go_simp; (try with_reducible rfl))
              (try simp only [Act.put, List.getElem_toArray, List.getElem_cons_succ, List.getElem_cons_zero, List.setIfInBounds_toArray, List.set_cons_zero, List.set_cons_succ])
              refine wpAnyH_take (i := 22) (v := ?_) rfl (by kernel_rfl) (by kernel_rfl) (by kernel_rfl) (fun _ _ _ h => h) (Or.inl ⟨by rfl, ?_⟩) (by assumption) ?_
              rotate_left 1
              focus (intro w hSw; (try dsimp only at hSw); go_simp; (try with_reducible rfl))
              (try simp only [Act.put, List.getElem_toArray, List.getElem_cons_succ, List.getElem_cons_zero, List.setIfInBounds_toArray, List.set_cons_zero, List.set_cons_succ])
              refine wpAnyH_take (i := 23) (v := ?_) rfl (by kernel_rfl) (by kernel_rfl) (by kernel_rfl) (fun _ _ _ h => h) (Or.inl ⟨by rfl, ?_⟩) (by assumption) ?_
              rotate_left 1
              focus (intro w hSw; (try dsimp only at hSw); go_simp; (try with_reducible rfl))
              (try simp only [Act.put, List.getElem_toArray, List.getElem_cons_succ, List.getElem_cons_zero, List.setIfInBounds_toArray, List.set_cons_zero, List.set_cons_succ])
              refine wpAnyH_take (i := 24) (v := ?_) rfl (by kernel_rfl) (by kernel_rfl) (by kernel_rfl) (fun _ _ _ h => h) (Or.inl ⟨by rfl, ?_⟩) (by assumption) ?_
              rotate_left 1
              focus (intro w hSw; (try dsimp only at hSw); go_simp; (try with_reducible rfl))
              (try simp only [Act.put, List.getElem_toArray, List.getElem_cons_succ, List.getElem_cons_zero, List.setIfInBounds_toArray, List.set_cons_zero, List.set_cons_succ])
              refine wpAnyH_take (i := 25) (v := ?_) rfl (by kernel_rfl) (by kernel_rfl) (by kernel_rfl) (fun _ _ _ h => h) (Or.inl ⟨by rfl, ?_⟩) (by assumption) ?_
              rotate_left 1
              focus (intro w hSw; (try dsimp only at hSw); go_simp; (try with_reducible rfl))
              (try simp only [Act.put, List.getElem_toArray, List.getElem_cons_succ, List.getElem_cons_zero, List.setIfInBounds_toArray, List.set_cons_zero, List.set_cons_succ])
              refine wpAnyH_done (by kernel_rfl) ?_ _
              go_wp2
              go_ret
              exact ⟨rfl, hHeld2.2.2.1.below (fun _ _ h => h)⟩
            · have hag := Lib.hid hag
              go_wp2_with fail
              refine (at_to hAq (by omega) hag.out).mono ?_
              rintro e w6 ⟨rfl, rfl⟩
              go_wp2_with fail
              have hAd : At wr.drew bb u xs := ⟨hAq.blk, hAq.row.drew⟩
              refine wp_region_held_drew (S := (fun w' => At w' bb u xs ∧ w'.cell? ⟨b, 0, none⟩ = some (.string x) ∧ Frm0 w w')) (by kernel_rfl) (⟨hAd, h1.trans rfl, hF6.drew⟩) (fun hHeld => ?_)
              skip
              refine wpAnyH_take (i := 0) (v := ?_) rfl (by kernel_rfl) (by kernel_rfl) (by kernel_rfl) (fun _ _ _ h => h) (Or.inl ⟨by rfl, ?_⟩) (by assumption) ?_
              rotate_left 1
              focus (intro w hSw; (try dsimp only at hSw); go_simp; (try with_reducible rfl))
              (try simp only [Act.put, List.getElem_toArray, List.getElem_cons_succ, List.getElem_cons_zero, List.setIfInBounds_toArray, List.set_cons_zero, List.set_cons_succ])
              refine wpAnyH_take (i := 1) (v := ?_) rfl (by kernel_rfl) (by kernel_rfl) (by kernel_rfl) (fun _ _ _ h => h) (Or.inl ⟨by rfl, ?_⟩) (by assumption) ?_
              rotate_left 1
              focus (intro w hSw; (try dsimp only at hSw); go_simp; (try with_reducible rfl))
              (try simp only [Act.put, List.getElem_toArray, List.getElem_cons_succ, List.getElem_cons_zero, List.setIfInBounds_toArray, List.set_cons_zero, List.set_cons_succ])
              refine wpAnyH_take (i := 2) (v := ?_) rfl (by kernel_rfl) (by kernel_rfl) (by kernel_rfl) (fun _ _ _ h => h) (Or.inl ⟨by rfl, ?_⟩) (by assumption) ?_
              rotate_left 1
              focus (intro w hSw; (try dsimp only at hSw); go_simp; (try with_reducible rfl))
              (try simp only [Act.put, List.getElem_toArray, List.getElem_cons_succ, List.getElem_cons_zero, List.setIfInBounds_toArray, List.set_cons_zero, List.set_cons_succ])
              refine wpAnyH_take (i := 3) (v := ?_) rfl (by kernel_rfl) (by kernel_rfl) (by kernel_rfl) (fun _ _ _ h => h) (Or.inl ⟨by rfl, ?_⟩) (by assumption) ?_
              rotate_left 1
              focus (intro w hSw; (try dsimp only at hSw); go_simp; (try with_reducible rfl))
              (try simp only [Act.put, List.getElem_toArray, List.getElem_cons_succ, List.getElem_cons_zero, List.setIfInBounds_toArray, List.set_cons_zero, List.set_cons_succ])
              refine wpAnyH_take (i := 4) (v := undef) rfl (by kernel_rfl) (by kernel_rfl) (by kernel_rfl) (fun _ _ _ h => h) (Or.inr ⟨by rfl, rfl⟩) (by assumption) ?_
              (try simp only [Act.put, List.getElem_toArray, List.getElem_cons_succ, List.getElem_cons_zero, List.setIfInBounds_toArray, List.set_cons_zero, List.set_cons_succ])
              refine wpAnyH_take (i := 5) (v := undef) rfl (by kernel_rfl) (by kernel_rfl) (by kernel_rfl) (fun _ _ _ h => h) (Or.inr ⟨by rfl, rfl⟩) (by assumption) ?_
              (try simp only [Act.put, List.getElem_toArray, List.getElem_cons_succ, List.getElem_cons_zero, List.setIfInBounds_toArray, List.set_cons_zero, List.set_cons_succ])
              refine wpAnyH_take (i := 6) (v := undef) rfl (by kernel_rfl) (by kernel_rfl) (by kernel_rfl) (fun _ _ _ h => h) (Or.inr ⟨by rfl, rfl⟩) (by assumption) ?_
              (try simp only [Act.put, List.getElem_toArray, List.getElem_cons_succ, List.getElem_cons_zero, List.setIfInBounds_toArray, List.set_cons_zero, List.set_cons_succ])
              refine wpAnyH_take (i := 7) (v := undef) rfl (by kernel_rfl) (by kernel_rfl) (by kernel_rfl) (fun _ _ _ h => h) (Or.inr ⟨by rfl, rfl⟩) (by assumption) ?_
              (try simp only [Act.put, List.getElem_toArray, List.getElem_cons_succ, List.getElem_cons_zero, List.setIfInBounds_toArray, List.set_cons_zero, List.set_cons_succ])
              refine wpAnyH_take (i := 8) (v := ?_) rfl (by kernel_rfl) (by kernel_rfl) (by kernel_rfl) (fun _ _ _ h => h) (Or.inl ⟨by rfl, ?_⟩) (by assumption) ?_
              rotate_left 1
              focus (intro w hSw; (try dsimp only at hSw); go_simp; (try with_reducible rfl))
              (try simp only [Act.put, List.getElem_toArray, List.getElem_cons_succ, List.getElem_cons_zero, List.setIfInBounds_toArray, List.set_cons_zero, List.set_cons_succ])
              refine wpAnyH_take (i := 9) (v := ?_) rfl (by kernel_rfl) (by kernel_rfl) (by kernel_rfl) (fun _ _ _ h => h) (Or.inl ⟨by rfl, ?_⟩) (by assumption) ?_
              rotate_left 1
              focus (intro w hSw; (try dsimp only at hSw); go_simp; (try with_reducible rfl))
              (try simp only [Act.put, List.getElem_toArray, List.getElem_cons_succ, List.getElem_cons_zero, List.setIfInBounds_toArray, List.set_cons_zero, List.set_cons_succ])
              refine wpAnyH_take (i := 10) (v := ?_) rfl (by kernel_rfl) (by kernel_rfl) (by kernel_rfl) (fun _ _ _ h => h) (Or.inl ⟨by rfl, ?_⟩) (by assumption) ?_
              rotate_left 1
              focus (intro w hSw; (try dsimp only at hSw); go_simp; (try with_reducible rfl))
              (try simp only [Act.put, List.getElem_toArray, List.getElem_cons_succ, List.getElem_cons_zero, List.setIfInBounds_toArray, List.set_cons_zero, List.set_cons_succ])
              refine wpAnyH_take (i := 11) (v := ?_) rfl (by kernel_rfl) (by kernel_rfl) (by kernel_rfl) (fun _ _ _ h => h) (Or.inl ⟨by rfl, ?_⟩) (by assumption) ?_
              rotate_left 1
              focus (intro w hSw; (try dsimp only at hSw); go_simp; (try with_reducible rfl))
              (try simp only [Act.put, List.getElem_toArray, List.getElem_cons_succ, List.getElem_cons_zero, List.setIfInBounds_toArray, List.set_cons_zero, List.set_cons_succ])
              refine wpAnyH_take (i := 12) (v := ?_) rfl (by kernel_rfl) (by kernel_rfl) (by kernel_rfl) (fun _ _ _ h => h) (Or.inl ⟨by rfl, ?_⟩) (by assumption) ?_
              rotate_left 1
              focus (intro w hSw; (try dsimp only at hSw); go_simp; (try with_reducible rfl))
              (try simp only [Act.put, List.getElem_toArray, List.getElem_cons_succ, List.getElem_cons_zero, List.setIfInBounds_toArray, List.set_cons_zero, List.set_cons_succ])
              refine wpAnyH_take (i := 13) (v := ?_) rfl (by kernel_rfl) (by kernel_rfl) (by kernel_rfl) (fun _ _ _ h => h) (Or.inl ⟨by rfl, ?_⟩) (by assumption) ?_
              rotate_left 1
              focus (intro w hSw; (try dsimp only at hSw); go_simp; (try with_reducible rfl))
              (try simp only [Act.put, List.getElem_toArray, List.getElem_cons_succ, List.getElem_cons_zero, List.setIfInBounds_toArray, List.set_cons_zero, List.set_cons_succ])
              refine wpAnyH_take (i := 14) (v := ?_) rfl (by kernel_rfl) (by kernel_rfl) (by kernel_rfl) (fun _ _ _ h => h) (Or.inl ⟨by rfl, ?_⟩) (by assumption) ?_
              rotate_left 1
              focus (intro w hSw; (try dsimp only at hSw); go_simp; (try with_reducible rfl))
              (try simp only [Act.put, List.getElem_toArray, List.getElem_cons_succ, List.getElem_cons_zero, List.setIfInBounds_toArray, List.set_cons_zero, List.set_cons_succ])
              refine wpAnyH_take (i := 15) (v := ?_) rfl (by kernel_rfl) (by kernel_rfl) (by kernel_rfl) (fun _ _ _ h => h) (Or.inl ⟨by rfl, ?_⟩) (by assumption) ?_
              rotate_left 1
              focus (intro w hSw; (try dsimp only at hSw); go_simp; (try with_reducible rfl))
              (try simp only [Act.put, List.getElem_toArray, List.getElem_cons_succ, List.getElem_cons_zero, List.setIfInBounds_toArray, List.set_cons_zero, List.set_cons_succ])
              refine wpAnyH_take (i := 19) (v := ?_) rfl (by kernel_rfl) (by kernel_rfl) (by kernel_rfl) (fun _ _ _ h => h) (Or.inl ⟨by rfl, ?_⟩) (by assumption) ?_
              rotate_left 1
              focus (intro w hSw; (try dsimp only at hSw); go_simp; (try with_reducible rfl))
              (try simp only [Act.put, List.getElem_toArray, List.getElem_cons_succ, List.getElem_cons_zero, List.setIfInBounds_toArray, List.set_cons_zero, List.set_cons_succ])
              refine wpAnyH_take (i := 20) (v := ?_) rfl (by kernel_rfl) (by kernel_rfl) (by kernel_rfl) (fun _ _ _ h => h) (Or.inl ⟨by rfl, ?_⟩) (by assumption) ?_
              rotate_left 1
              focus (intro w hSw; (try dsimp only at hSw); go_simp; (try with_reducible rfl))
              (try simp only [Act.put, List.getElem_toArray, List.getElem_cons_succ, List.getElem_cons_zero, List.setIfInBounds_toArray, List.set_cons_zero, List.set_cons_succ])
              refine wpAnyH_take (i := 21) (v := ?_) rfl (by kernel_rfl) (by kernel_rfl) (by kernel_rfl) (fun _ _ _ h => h) (Or.inl ⟨by rfl, ?_⟩) (by assumption) ?_
              rotate_left 1
              focus (intro w hSw; (try dsimp only at hSw); obtain ⟨e0, e1, e2⟩ := hSw; go_simp; (try with_reducible rfl))
              (try simp only [Act.put, List.getElem_toArray, List.getElem_cons_succ, List.getElem_cons_zero, List.setIfInBounds_toArray, List.set_cons_zero, List.set_cons_succ])
              refine wpAnyH_ready (rs := [16]) (by kernel_rfl) (by simp) ?_
              refine AllReadyH.cons rfl (fun K hK => ?_) AllReadyH.nil
              go_simp
              refine (HX0.out _ hHeld.1).mono ?_
              rintro e w81 ⟨b7, cap7, rfl, h7, hf7⟩
              (try go_wp2_with fail)
              refine hK.out _ _ ?_ (fun hHeld => ?_)
              focus (exact ⟨hHeld.1.frm0 hf7, hf7.cell hHeld.2.1 (fun h => h), hHeld.2.2.trans hf7⟩)
              clear hK K
              (try simp only [Act.put, List.getElem_toArray, List.getElem_cons_succ, List.getElem_cons_zero, List.setIfInBounds_toArray, List.set_cons_zero, List.set_cons_succ])
              refine wpAnyH_strong (S' := fun w' => At w' bb u xs ∧ w'.cell? ⟨b, 0, none⟩ = some (.string x) ∧ Frm0 w w' ∧ w'.cell? ⟨b7, 0, none⟩ = some (.string x)) (fun _ h => ⟨h.1, h.2.1, h.2.2.1⟩) ?_
              have hHeld2 : (fun w' => At w' bb u xs ∧ w'.cell? ⟨b, 0, none⟩ = some (.string x) ∧ Frm0 w w' ∧ w'.cell? ⟨b7, 0, none⟩ = some (.string x)) w81 := ⟨hHeld.1, hHeld.2.1, hHeld.2.2, h7⟩
              refine wpAnyH_take (i := 17) (v := ?_) rfl (by kernel_rfl) (by kernel_rfl) (by kernel_rfl) (fun _ _ _ h => h) (Or.inl ⟨by rfl, ?_⟩) (by assumption) ?_
              rotate_left 1
              focus (intro w hSw; (try dsimp only at hSw); go_simp; (try with_reducible rfl))
              (try simp only [Act.put, List.getElem_toArray, List.getElem_cons_succ, List.getElem_cons_zero, List.setIfInBounds_toArray, List.set_cons_zero, List.set_cons_succ])
              refine wpAnyH_take (i := 18) (v := ?_) rfl (by kernel_rfl) (by kernel_rfl) (by kernel_rfl) (fun _ _ _ h => h) (Or.inl ⟨by rfl, ?_⟩) (by assumption) ?_
              rotate_left 1
              focus (intro w hSw; (try dsimp only at hSw); obtain ⟨e0, e1, e2, e3⟩ := hSw; go_simp; (try with_reducible rfl))
              (try simp only [Act.put, List.getElem_toArray, List.getElem_cons_succ, List.getElem_cons_zero, List.setIfInBounds_toArray, List.set_cons_zero, List.set_cons_succ])
              refine wpAnyH_take (i := 22) (v := ?_) rfl (by kernel_rfl) (by kernel_rfl) (by kernel_rfl) (fun _ _ _ h => h) (Or.inl ⟨by rfl, ?_⟩) (by assumption) ?_
              rotate_left 1
              focus (intro w hSw; (try dsimp only at hSw); go_simp; (try with_reducible rfl))
              (try simp only [Act.put, List.getElem_toArray, List.getElem_cons_succ, List.getElem_cons_zero, List.setIfInBounds_toArray, List.set_cons_zero, List.set_cons_succ])
              refine wpAnyH_take (i := 23) (v := ?_) rfl (by kernel_rfl) (by kernel_rfl) (by kernel_rfl) (fun _ _ _ h => h) (Or.inl ⟨by rfl, ?_⟩) (by assumption) ?_
              rotate_left 1
              focus (intro w hSw; (try dsimp only at hSw); go_simp; (try with_reducible rfl))
              (try simp only [Act.put, List.getElem_toArray, List.getElem_cons_succ, List.getElem_cons_zero, List.setIfInBounds_toArray, List.set_cons_zero, List.set_cons_succ])
              refine wpAnyH_take (i := 24) (v := ?_) rfl (by kernel_rfl) (by kernel_rfl) (by kernel_rfl) (fun _ _ _ h => h) (Or.inl ⟨by rfl, ?_⟩) (by assumption) ?_
              rotate_left 1
              focus (intro w hSw; (try dsimp only at hSw); go_simp; (try with_reducible rfl))
              (try simp only [Act.put, List.getElem_toArray, List.getElem_cons_succ, List.getElem_cons_zero, List.setIfInBounds_toArray, List.set_cons_zero, List.set_cons_succ])
              refine wpAnyH_take (i := 25) (v := ?_) rfl (by kernel_rfl) (by kernel_rfl) (by kernel_rfl) (fun _ _ _ h => h) (Or.inl ⟨by rfl, ?_⟩) (by assumption) ?_
              rotate_left 1
              focus (intro w hSw; (try dsimp only at hSw); go_simp; (try with_reducible rfl))
              (try simp only [Act.put, List.getElem_toArray, List.getElem_cons_succ, List.getElem_cons_zero, List.setIfInBounds_toArray, List.set_cons_zero, List.set_cons_succ])
              refine wpAnyH_done (by kernel_rfl) ?_ _
              go_wp2
              go_ret
              exact ⟨rfl, hHeld2.2.2.1.below (fun _ _ h => h)⟩
          · have hx0 : xs = [] := List.eq_nil_of_length_eq_zero (by omega)
            subst hx0
            have hat : at_ [] at0 = (⟨#[]⟩, false) := at_no (by simp)
            have hag := Lib.hid hat
            clear hcs
            have hb1 : (decide ((0 : Int) ≤ at0) = true ∧ decide (at0 < 0) = false) ∨ decide ((0 : Int) ≤ at0) = false := by
              simp only [decide_eq_true_eq, decide_eq_false_iff_not]; omega
            rcases hb1 with ⟨hda, hdb⟩ | hda
            all_goals
              go_wp2_with fail
              refine (at_to hAq (by simp) hag.out).mono ?_
              rintro e w6 ⟨rfl, rfl⟩
              go_wp2_with fail
              go_quiet (fail)
              go_wp2
              go_ret
              exact ⟨rfl, (hF6.drewN _).below (fun _ _ h => h)⟩
end Bg
end Go.Proofs.Yteokiiolchpndaa
