/- The walk of RateWindow. -/
import Derived.Test.YtkmafgmlcocjiaaRe
import Derived.Deep.RegionHeld3
import Derived.Deep.AppendLies
import Derived.Deep.CutRange
namespace Go.Proofs.Ytkmafgmlcocjiaa
open Go.RowKit Rt
set_option linter.unusedVariables false
set_option linter.unusedSimpArgs false

def wints (xs : List Int) : List Value := xs.map (Value.int .i64)
theorem Ewin : Elt Try.prog 49 3 (.int .i64 0) 1 8 := Elt.mk' Try.underlying49 (by kernel_rfl) rfl (by omega)

theorem wints_len (xs : List Int) : (wints xs).length = xs.length := by simp [wints]
theorem wints_app (xs : List Int) (x : Int) : wints (xs ++ [x]) = wints xs ++ [.int .i64 x] := by simp [wints]
theorem wints_at (xs : List Int) (k : Nat) (h : k < xs.length) : (wints xs)[k]? = some (.int .i64 (xs.getD k 0)) := by
  simp [wints, List.getElem?_eq_getElem h]
theorem Bk.grown {w w' : World} {g : Nat} {o : Obj} {row : Option Nat} (h : w.heap[g]? = some o) (hg : w.grownBy w' row) (hne : row ≠ some g) : w'.heap[g]? = some o :=
  (hg.block g (Bk.lt h) (fun e => hne e.symm)).trans h
theorem owns_frm {w w' : World} {base : Nat} {e : TypeId} {size : Nat} {v : Value} {n : Nat} {xs : List Value} {S : Nat → Prop} (h : w.ownsRow base e size v n xs) (hf : Frm S w w') (hs : ∀ g, base ≤ g → ¬ S g) : w'.ownsRow base e size v n xs := by
  refine ⟨h.1, ?_⟩
  rcases h.2 with h | ⟨g, cap, cur, rfl, hb, hg, hr⟩
  · exact .inl h
  · exact .inr ⟨g, cap, cur, rfl, hb, hf.blk hg (hs g hb), hr⟩
theorem step_append_one {P : Program} {t e : TypeId} {ops : Array Oper} {o : Oper} {a : Act} {w : World} {K : Act → World → Prop} {Q : Exit → Act → World → Prop} {E : Prop} (hgd : o.guard = none) (s x : Operand)
    (ho : o.op = .call { callee := .builtin .append, args := #[s, x], argTypes := #[t, t] }) (EE : Elt P t e (.int .i64 0) 1 8)
    (base : Nat) (v : Value) (n : Nat) (xs : List Value) (X : Nat) (u : Int) (hs : a.eval s = v) (hx : a.eval x = .slice (some ⟨X, 0, none⟩) 1 1) (hown : w.ownsRow base e 1 v n xs)
    (hX : w.heap[X]? = some (.cells #[.int .i64 u] e (0, 0))) (hn : n ≤ 1000) (hbase : base ≤ w.heap.size)
    (h : ∀ v' w', w'.ownsRow base e 1 v' (n + 1) (xs ++ [.int .i64 u]) → w.grownBy w' v.ownBlock → (v'.ownBlock = v.ownBlock ∨ v'.ownBlock = some w.heap.size) → K (a.put o.dst v') w') :
    if Region.wanted o (yielded ops a.tmps) = true then Oper.wp P o a w K Q else E := by
  obtain ⟨i, hi, hz, hsize, hby⟩ := EE.info
  have hM : n + 1 ≤ maxLen := by unfold maxLen; omega
  exact step_append_lies w hgd s x t ho base e i _ 1 8 EE.und hi hz hsize hby rfl (by omega) v n xs hs hown ⟨X, 0, none⟩ 1 1 [.int .i64 u] hx rfl (World.news_of_block hX) (by simp [Value.oneCell']) (by omega) hM (by omega) hbase w.heap.size rfl
    (fun g cap w' h1 h2 h3 h4 => h _ _ h1 h2 (h3.imp (fun e => e.symm) (fun e => by rw [e]; rfl)))

theorem new_second (w : World) (o1 o2 : Obj) : ((w.alloc o1).alloc o2).heap[w.heap.size + 1]? = some o2 := by
  have h := Bk.new (w.alloc o1) o2
  rwa [show (w.alloc o1).heap.size = w.heap.size + 1 by simp] at h
/-- Two rows of the call's own, each grown once, one behind the other. -/
theorem two_grown {base : Nat} {e1 e2 : TypeId} {z1 z2 : Nat} {w6 wx w81 wy w82 : World} {v1o v2o : Option Nat} {v1 v2 : Value} {n1 n2 : Nat} {X1 X2 : List Value}
    (FA : Frm0 w6 wx) (hg1 : wx.grownBy w81 v1o) (hn1 : w81.ownsRow base e1 z1 v1 n1 X1) (ha1 : v1.ownBlock = v1o ∨ v1.ownBlock = some wx.heap.size)
    (FB : Frm0 w81 wy) (hg2 : wy.grownBy w82 v2o) (hn2 : w82.ownsRow base e2 z2 v2 n2 X2) (ha2 : v2.ownBlock = v2o ∨ v2.ownBlock = some wy.heap.size)
    (hd1 : v1o = none ∨ v1o ≠ v2o) (hl1 : ∀ g, v1o = some g → g < w6.heap.size) (hl2 : ∀ g, v2o = some g → g < w6.heap.size) (hb1 : ∀ g, v1o = some g → base ≤ g) (hb2 : ∀ g, v2o = some g → base ≤ g) :
    w82.ownsRow base e1 z1 v1 n1 X1 ∧ w82.ownsRow base e2 z2 v2 n2 X2 ∧ (v1.ownBlock = none ∨ v1.ownBlock ≠ v2.ownBlock) ∧ (v2.ownBlock = none ∨ v2.ownBlock ≠ v1.ownBlock) ∧ Frm (fun j => base ≤ j) w6 w82 := by
  have s0 := FA.size
  have s1 := hg1.size
  have s2 := FB.size
  have s3 := hg2.size
  have hv1 : v1.ownBlock = none ∨ v1.ownBlock ≠ v2o := by
    rcases ha1 with e | e
    · rw [e]; exact hd1
    · exact .inr (fun h => by have := hl2 _ (h ▸ e : v2o = some wx.heap.size); omega)
  have hk : v1.ownBlock = none ∨ v1.ownBlock ≠ v2.ownBlock := by
    rcases ha2 with e | e
    · rw [e]; exact hv1
    · cases h : v1.ownBlock with
      | none => exact .inl rfl
      | some g =>
        have := (hn1.lt g h).2
        rw [e]
        exact .inr (fun h' => by cases h'; omega)
  refine ⟨(owns_frm hn1 FB (fun _ _ h => h)).kept hg2 hv1, hn2, hk, ?_, ?_⟩
  · rcases hk with h | h
    · rw [h]
      cases v2.ownBlock with
      | none => exact .inl rfl
      | some g => exact .inr (by simp)
    · exact .inr (fun h' => h h'.symm)
  · exact (((FA.of0 (S := fun j => base ≤ j)).grown hg1 (fun k e _ => hb1 k e)).then0 FB).grown hg2 (fun k e _ => hb2 k e)
theorem owns_form {w : World} {base : Nat} {e : TypeId} {size : Nat} {v : Value} {n : Nat} {xs : List Value} (h : w.ownsRow base e size v (n + 1) xs) : ∃ g cap, v = .slice (some ⟨g, 0, none⟩) (n + 1) cap := by
  rcases h.2 with ⟨_, h⟩ | ⟨g, cap, cur, rfl, _⟩
  · omega
  · exact ⟨g, cap, rfl⟩
theorem wpair1 (xs : List (Int × Int)) (x y : Int) (j : Nat) : (xs.map (·.1) ++ [x]).getD j 0 = ((xs ++ [(x, y)]).getD j (0, 0)).1 := by
  rw [show xs.map (·.1) ++ [x] = (xs ++ [(x, y)]).map (·.1) by simp]
  simp only [List.getD_eq_getElem?_getD, List.getElem?_map]
  cases (xs ++ [(x, y)])[j]? <;> rfl
theorem wpair2 (xs : List (Int × Int)) (x y : Int) (j : Nat) : (xs.map (·.2) ++ [y]).getD j 0 = ((xs ++ [(x, y)]).getD j (0, 0)).2 := by
  rw [show xs.map (·.2) ++ [y] = (xs ++ [(x, y)]).map (·.2) by simp]
  simp only [List.getD_eq_getElem?_getD, List.getElem?_map]
  cases (xs ++ [(x, y)])[j]? <;> rfl
theorem cell_al {w : World} {a : Addr} {v : Value} {o : Obj} (h : w.cell? a = some v) : (w.alloc o).cell? a = some v := ((Frm.refl (fun _ => False) w).alloc o).cell h (fun h => h)
theorem cell_gr {w w' : World} {a : Addr} {v : Value} {row : Option Nat} (h : w.cell? a = some v) (hg : w.grownBy w' row) (hne : row ≠ some a.block) : w'.cell? a = some v :=
  (World.cell?_of_block (hg.block a.block (World.block_lt_of_cell? w a h) (fun e => hne e.symm))).trans h

set_option maxHeartbeats 2000000 in
set_option maxRecDepth 100000 in
theorem window_long (p : Int × Int) (tq : Int) (v : Value) (l : List (Int × Int × Int)) (w : World) (hs : Sl w v l.length (l.flatMap rdeed)) (h40 : 40 < l.length) :
    Calls Try.prog 12 #[arr2 p, v, .int .u8 tq] w fun e w' => e = .returned (.bool true) ∧ Below w.heap.size w w' := by
  have hlen := hs.len
  obtain ⟨A, c, rfl⟩ := hs.form
  obtain ⟨p0, p1⟩ := p
  unfold arr2
  simp only
  go_enter Try.func12, Try.ntmps12
  go_wp2_with fail
  refine (rawake _).mono ?_
  rintro e w1 ⟨rfl, hf1⟩
  have hF1 : Frm0 w w1 := (((Frm.refl _ _).alloc _)).trans hf1
  go_wp2
  go_ret
  exact ⟨rfl, hF1.below (fun _ _ h => h)⟩

set_option maxHeartbeats 4000000 in
set_option maxRecDepth 100000 in
theorem window_walk (p : Int × Int) (tq : Nat) (v : Value) (l : List (Int × Int × Int)) (w : World) (hs : Sl w v l.length (l.flatMap rdeed)) (hq8 : tq ≤ 255) :
    Calls Try.prog 12 #[arr2 p, v, .int .u8 tq] w fun e w' => e = .returned (.bool true) ∧ Below w.heap.size w w' := by
  by_cases h40 : 40 < l.length
  · exact window_long p tq v l w hs h40
  have hlen := hs.len
  obtain ⟨p0, p1⟩ := p
  obtain ⟨A, c, rfl⟩ := hs.form
  have hcell : ∀ k (hk : k < l.length), ∃ b o, A = some ⟨b, o, none⟩ ∧ w.cell? ⟨b, o + k * 3, none⟩ = some (.int .i64 (l[k]).1) ∧ w.cell? ⟨b, o + k * 3 + 1, none⟩ = some (.int .i64 (l[k]).2.1) ∧ w.cell? ⟨b, o + k * 3 + 2, none⟩ = some (.int .i64 (l[k]).2.2) := by
    intro k hk
    rcases hs with ⟨A', c', _, hn, _⟩ | ⟨b, o, c', he, h0, h1, h2, h3, h4⟩
    · omega
    · cases he
      exact ⟨b, o, rfl, rdeed_at h4 k hk⟩
  have HC := Lib.hid hcell
  clear hcell
  unfold arr2
  simp only
  go_enter Try.func12, Try.ntmps12
  go_wp2_with fail
  refine (rawake _).mono ?_
  rintro e w1 ⟨rfl, hf1⟩
  have hb2 := hf1.blk (Bk.new w _) (fun h => h)
  have hF1 : Frm0 w w1 := ((Frm.refl _ _).alloc _).trans hf1
  have hlt2 := Bk.lt hb2
  have d0 : w1.cell? ⟨w.heap.size, 0, none⟩ = some (.int .i64 p0) := Bk.cell hb2 0
  have d1 : w1.cell? ⟨w.heap.size, 1, none⟩ = some (.int .i64 p1) := Bk.cell hb2 1
  clear hf1 hb2
  go_wp2_with fail
  refine (rnew_any p0 p1 _).mono ?_
  rintro e w2 ⟨rfl, hq2, hf2⟩
  have d0 := hf2.cell d0 (fun h => h)
  have d1 := hf2.cell d1 (fun h => h)
  have hsz2 := Bk.lt hq2.blk
  have hF2 := hF1.trans hf2
  have hwz : w.heap.size < w1.heap.size := hlt2
  clear hf2 hF1
  generalize w1.heap.size = rb at *
  go_wp2_with fail
  refine (rnew_any p0 p1 _).mono ?_
  rintro e w3 ⟨rfl, hq3, hf3⟩
  have d0 := hf3.cell d0 (fun h => h)
  have d1 := hf3.cell d1 (fun h => h)
  have hr2 := hq2.frm hf3 (fun h => h)
  have hsz3 := Bk.lt hq3.blk
  have hF3 := hF2.trans hf3
  clear hf3 hF2 hq2
  generalize w2.heap.size = rb2 at *
  have hb1 := bring_bd p0 (show (0 : Int) ≤ 1000 by omega)
  have hb2 := bring_bd p1 (show (1 : Int) ≤ 1000 by omega)
  obtain ⟨each, hE⟩ : ∃ x, bring p0 0 1000 = x := ⟨_, rfl⟩
  obtain ⟨burst, hB⟩ : ∃ x, bring p1 1 1000 = x := ⟨_, rfl⟩
  have HBR0 := Lib.hid (show ∀ w, Calls Try.prog 52 #[.int .i64 p0, .int .i64 0, .int .i64 1000] w fun e w' => e = .returned (.int .i64 each) ∧ w = w' from fun w => hE ▸ rbring_any p0 0 1000 w)
  have HBR1 := Lib.hid (show ∀ w, Calls Try.prog 52 #[.int .i64 p1, .int .i64 1, .int .i64 1000] w fun e w' => e = .returned (.int .i64 burst) ∧ w = w' from fun w => hB ▸ rbring_any p1 1 1000 w)
  rw [hE] at hb1 hr2 hq3
  rw [hB] at hb2 hr2 hq3
  clear hE hB hlt2
  go_wp2_with fail
  go_region_held3 (fun w' => w'.cell? ⟨w.heap.size, 0, none⟩ = some (.int .i64 p0) ∧ w'.cell? ⟨w.heap.size, 1, none⟩ = some (.int .i64 p1) ∧ Rt.At w' rb each burst [(0, burst), (0, burst), (0, burst), (0, burst)] ∧ Rt.At w' rb2 each burst [(0, burst), (0, burst), (0, burst), (0, burst)] ∧ Frm (fun _ => False) w w' ∧ rb2 < w'.heap.size)
    (first
      | exact ⟨d0, d1, ⟨hr2.ok, hr2.blk⟩, ⟨hq3.ok, hq3.blk⟩, hF3.drew, hsz3⟩
      | assumption)
    (first
      | (go_at_call 52; with_reducible refine (HBR0.out _).mono ?_; rintro e w' ⟨rfl, rfl⟩)
      | (go_at_call 52; with_reducible refine (HBR1.out _).mono ?_; rintro e w' ⟨rfl, rfl⟩))
  clear d0 d1 hr2 hq3 hF3 hsz3
  rename_i hH
  obtain ⟨z0, z1, hr2, hq3, hF3, hsz3⟩ := hH
  clear z0 z1
  go_wp2_with fail
  have ht0 : 0 ≤ (tq : Int) % 4 ∧ (tq : Int) % 4 < 4 := by omega
  generalize (tq : Int) % 4 = t at *
  clear hs
  generalize w3.drew = w4 at *
  have hH0 : rb2 < w4.heap.size := hsz3
  go_loopw [12, 13, 14, 47] (fun v1 v2 t14 i wr => ∃ (k : Nat) (ms ms' : List Mk) (T : Int) (xs : List (Int × Int)), k ≤ l.length ∧ i = .int .i64 k ∧ t14 = .int .i64 T ∧ Rt.At wr rb each burst ms ∧ Rt.At wr rb2 each burst ms' ∧ Rt.get ms t = Rt.get ms' t ∧ (Rt.get ms t).1 ≤ T ∧ 0 ≤ T ∧ T ≤ 1099511627776 ∧
      Win each burst (Rt.get ms t) xs ∧ xs.length ≤ k ∧ wr.ownsRow w4.heap.size 3 1 v1 xs.length (wints (xs.map (·.1))) ∧ wr.ownsRow w4.heap.size 3 1 v2 xs.length (wints (xs.map (·.2))) ∧ (v1.ownBlock = none ∨ v1.ownBlock ≠ v2.ownBlock) ∧ (v2.ownBlock = none ∨ v2.ownBlock ≠ v1.ownBlock) ∧ Frm (fun j => j = rb ∨ j = rb2) w4 wr) (fun _ _ _ i _ => l.length - (intOf i).toNat)
  case atStart =>
    refine ⟨0, _, _, 0, [], by omega, rfl, rfl, hr2, hq3, rfl, ?_, by omega, by omega, Win.none _ _ _, by simp, World.ownsRow_nil _ _ _ _, World.ownsRow_nil _ _ _ _, .inl rfl, .inl rfl, Frm.refl _ _⟩
    obtain ⟨t, rfl⟩ := Int.eq_ofNat_of_zero_le ht0.1
    unfold Rt.get
    match t, ht0.2 with
    | 0, _ => exact Int.le_refl _
    | 1, _ => exact Int.le_refl _
    | 2, _ => exact Int.le_refl _
    | 3, _ => exact Int.le_refl _
  case round =>
    clear hr2 hq3
    obtain ⟨k, ms, ms', T, xs, hk, rfl, rfl, hr, hr', hget, hup, hT0, hT1, hwin, hxk, ho1, ho2, hd1, hd2, hFr⟩ := hrel
    by_cases hlt : k < l.length
    · obtain ⟨b, o, rfl, c0, c1, c2⟩ := HC.out k hlt
      have hbl := World.block_lt_of_cell? w _ c0
      simp only at hbl
      have c0 := hFr.cell (hF3.cell c0 (fun h => h)) (by simp; omega)
      have c1 := hFr.cell (hF3.cell c1 (fun h => h)) (by simp; omega)
      have c2 := hFr.cell (hF3.cell c2 (fun h => h)) (by simp; omega)
      generalize (l[k]).1 = t' at *
      generalize (l[k]).2.1 = now0 at *
      generalize (l[k]).2.2 = n at *
      obtain ⟨N, hN⟩ : ∃ N, tm now0 = N := ⟨_, rfl⟩
      have hNb := tm_bd now0
      rw [hN] at hNb
      have HN := Lib.hid hN
      clear hN
      obtain ⟨T2, hT2⟩ : ∃ T2, (if T < N then N else T) = T2 := ⟨_, rfl⟩
      have hTT : T ≤ T2 ∧ N ≤ T2 ∧ T2 ≤ 1099511627776 ∧ 0 ≤ T2 := by subst hT2; split <;> omega
      have m1 := max_is T N T2 hT2
      clear hT2
      have hHr : w4.heap.size ≤ wr.heap.size := hFr.size
      go_wp2_with (go_at_call 17; refine (rtime_to HN.out _).mono ?_; rintro e w' ⟨rfl, rfl⟩)
      have hbD := Bk.new wr (.cells #[.int .i64 t', .int .i64 now0, .int .i64 n] 70)
      have hra := hr.frm ((Frm.refl (fun _ => False) _).alloc (.cells #[.int .i64 t', .int .i64 now0, .int .i64 n] 70)) (fun h => h)
      have hra' := hr'.frm ((Frm.refl (fun _ => False) _).alloc (.cells #[.int .i64 t', .int .i64 now0, .int .i64 n] 70)) (fun h => h)
      have hoa1 := ho1.alloc (.cells #[.int .i64 t', .int .i64 now0, .int .i64 n] 70)
      have hoa2 := ho2.alloc (.cells #[.int .i64 t', .int .i64 now0, .int .i64 n] 70)
      have hFa := hFr.alloc (.cells #[.int .i64 t', .int .i64 now0, .int .i64 n] 70)
      have hDlt : wr.heap.size < (wr.alloc (.cells #[.int .i64 t', .int .i64 now0, .int .i64 n] 70)).heap.size := Bk.lt hbD
      have hl1 : ∀ g, u12.ownBlock = some g → g < wr.heap.size := fun g hg => (ho1.lt g hg).2
      have hl2 : ∀ g, u13.ownBlock = some g → g < wr.heap.size := fun g hg => (ho2.lt g hg).2
      clear m1 c0 c1 c2 hr hr' ho1 ho2 hFr
      generalize wr.alloc (.cells #[.int .i64 t', .int .i64 now0, .int .i64 n] 70) = wa at *
      generalize wr.heap.size = D at *
      by_cases htt : t' = t
      · subst htt
        have hsame := take_same (t := t') (now := T2) (n := n) hra.ok hra'.ok hget
        have hnot := fun h => take_not (each := each) (burst := burst) (ms := ms) (t := t') (now := T2) (n := n) h
        have hnot' := fun h => take_not (each := each) (burst := burst) (ms := ms') (t := t') (now := T2) (n := n) h
        have hgot := fun h => take_got (t := t') (now := T2) (n := n) hra.ok h
        have hmk := mkAt_bd T2 hra.ok.eb hra.ok.bb (hra.ok.get_bd t'.toNat (by omega))
        have hgb := hra.ok.get_bd t'.toNat (by omega)
        change 0 ≤ (Rt.get ms t').1 ∧ (Rt.get ms t').1 ≤ 1099511627776 ∧ 0 ≤ (Rt.get ms t').2 ∧ (Rt.get ms t').2 ≤ burst at hgb
        change 0 ≤ (mkAt each burst (Rt.get ms t') T2).1 ∧ (mkAt each burst (Rt.get ms t') T2).1 ≤ 1099511627776 ∧ 0 ≤ (mkAt each burst (Rt.get ms t') T2).2 ∧ (mkAt each burst (Rt.get ms t') T2).2 ≤ burst at hmk
        have HR1 := Lib.hid (rtake_any t' T2 n rb each burst ms _ hra)
        have HR2 := fun (w9 : World) (h9 : Rt.At w9 rb2 each burst ms') => rtake_any t' T2 n rb2 each burst ms' w9 h9
        rw [← hsame.1] at HR2 hnot'
        obtain ⟨r, hrr⟩ : ∃ r, (Rt.take each burst ms t' T2 n).2 = r := ⟨_, rfl⟩
        rw [hrr] at HR1 HR2 hnot hnot' hgot
        have HR2' := Lib.hid HR2
        have hs2 := hsame.2
        clear hsame HR2 hrr
        generalize (Rt.take each burst ms t' T2 n).1 = ms1 at *
        generalize (Rt.take each burst ms' t' T2 n).1 = ms1' at *
        have HB := Lib.hid (And.intro hnot (And.intro hnot' (And.intro hgot hmk)))
        clear hnot hnot' hgot hmk
        go_wp2_with fail
        refine HR1.out.mono ?_
        rintro e w5 ⟨rfl, hq5, hf5⟩
        have hb5 := hf5.blk hbD (by omega)
        have hr5 := hra'.frm hf5 (by omega)
        have ho51 := owns_frm hoa1 hf5 (fun g hg e => by omega)
        have ho52 := owns_frm hoa2 hf5 (fun g hg e => by omega)
        have d0 : w5.cell? ⟨D, 0, none⟩ = some (.int .i64 t') := Bk.cell hb5 0
        have d2 : w5.cell? ⟨D, 2, none⟩ = some (.int .i64 n) := Bk.cell hb5 2
        have hF5 := hFa.then_ hf5 (fun i hi e => .inl e)
        clear hra hra' hoa1 hoa2 hFa
        go_wp2_with fail
        refine (HR2'.out _ hr5).mono ?_
        rintro e w6 ⟨rfl, hq6, hf6⟩
        have hb6 := hf6.blk hb5 (by omega)
        have hq56 := hq5.frm hf6 (by omega)
        have ho61 := owns_frm ho51 hf6 (fun g hg e => by omega)
        have ho62 := owns_frm ho52 hf6 (fun g hg e => by omega)
        have d2' : w6.cell? ⟨D, 2, none⟩ = some (.int .i64 n) := Bk.cell hb6 2
        have hF6 := hF5.then_ hf6 (fun i hi e => .inr e)
        have hl6 : D < w6.heap.size := Bk.lt hb6
        clear d0 d2 hr5 ho51 ho52 hF5 hf5 hf6 hb5 hq5 hb6
        by_cases hr0 : r = 0
        · subst hr0
          have hgot := HB.out.2.2.1 rfl
          have hmk := HB.out.2.2.2
          have hnb : n ≤ burst ∧ 1 ≤ n := ⟨by omega, hgot.1⟩
          have hdn1 : decide (burst < n) = false := decide_eq_false (by omega)
          have hW := hwin.take hb1 hb2 ⟨hgb.1, (by omega : (Rt.get ms t').1 ≤ T2), hTT.2.2.1, hgb.2.2.1⟩ hgot.1 hgot.2.1
          have hG := hgot.2.2
          clear hgot HB
          go_wp2_with fail
          go_cut [12, 13, 47] from 48 to 122 (fun v1' v2' i' wc => i' = .int .i64 k ∧ wc.ownsRow w4.heap.size 3 1 v1' (xs.length + 1) (wints (xs.map (·.1) ++ [T2])) ∧ wc.ownsRow w4.heap.size 3 1 v2' (xs.length + 1) (wints (xs.map (·.2) ++ [n])) ∧
            (v1'.ownBlock = none ∨ v1'.ownBlock ≠ v2'.ownBlock) ∧ (v2'.ownBlock = none ∨ v2'.ownBlock ≠ v1'.ownBlock) ∧ Rt.At wc rb each burst ms1 ∧ Rt.At wc rb2 each burst ms1' ∧ Frm (fun j => j = rb ∨ j = rb2) w4 wc)
          case first =>
            go_region_held3 (fun w' => w'.cell? ⟨D, 2, none⟩ = some (.int .i64 n))
              (first
                | exact d2'
                | exact cell_al (by assumption)
                | exact cell_gr (by assumption) hg1 (fun e => Nat.lt_irrefl _ (hl1 _ e))
                | exact cell_gr (by assumption) hg2 (fun e => Nat.lt_irrefl _ (hl2 _ e)))
              (first
                | (refine step_append_one rfl (.tmp 88) (.tmp 90) rfl Ewin w4.heap.size u12 xs.length (wints (xs.map (·.1))) _ T2 (by rfl) (by rfl)
                    (by first
                      | exact (ho61.alloc _).drew
                      | exact ((ho61.alloc _).alloc _).drew
                      | exact (((ho61.alloc _).drew).kept hg2 hd1).alloc _
                      | exact (((ho61.alloc _).alloc _).drew).kept hg2 hd1)
                    (by first
                      | exact Bk.new _ _
                      | exact new_second _ _ _
                      | exact Bk.alloc (Bk.new _ _) _
                      | exact Bk.grown (Bk.drew (Bk.alloc (Bk.new _ _) _)) hg2 (fun e => by have := hl2 _ e; omega)
                      | exact Bk.grown (Bk.drew (new_second _ _ _)) hg2 (fun e => by have := hl2 _ e; omega)) (by omega)
                    (by first
                      | (simp; omega)
                      | (have := hg2.size; simp at this ⊢; omega)) ?_
                   intro v1' w81 hn1 hg1 ha1)
                | (refine step_append_one rfl (.tmp 92) (.tmp 95) rfl Ewin w4.heap.size u13 xs.length (wints (xs.map (·.2))) _ n (by rfl) (by rfl)
                    (by first
                      | exact (ho62.alloc _).drew
                      | exact ((ho62.alloc _).alloc _).drew
                      | exact (((ho62.alloc _).drew).kept hg1 hd2).alloc _
                      | exact (((ho62.alloc _).alloc _).drew).kept hg1 hd2)
                    (by first
                      | exact Bk.new _ _
                      | exact new_second _ _ _
                      | exact Bk.alloc (Bk.new _ _) _
                      | exact Bk.grown (Bk.drew (Bk.alloc (Bk.new _ _) _)) hg1 (fun e => by have := hl1 _ e; omega)
                      | exact Bk.grown (Bk.drew (new_second _ _ _)) hg1 (fun e => by have := hl1 _ e; omega)) (by omega)
                    (by first
                      | (simp; omega)
                      | (have := hg1.size; simp at this ⊢; omega)) ?_
                   intro v2' w82 hn2 hg2 ha2))
            all_goals
              go_wp2_with fail
              go_meet
              case rel =>
                have B1 := fun g e => (ho61.lt g e).1
                have B2 := fun g e => (ho62.lt g e).1
                have L1 : ∀ g, u12.ownBlock = some g → g < w6.heap.size := fun g e => by have := hl1 g e; omega
                have L2 : ∀ g, u13.ownBlock = some g → g < w6.heap.size := fun g e => by have := hl2 g e; omega
                first
                  | (obtain ⟨f1, f2, f3, f4, FF⟩ := two_grown (by first | exact ((Frm.refl _ _).alloc _).drew | exact (((Frm.refl _ _).alloc _).alloc _).drew) hg1 hn1 ha1 (by first | exact Frm.refl _ _ | exact (Frm.refl _ _).alloc _) hg2 hn2 ha2 hd1 L1 L2 B1 B2
                     exact ⟨rfl, by rw [wints_app]; exact f1, by rw [wints_app]; exact f2, f3, f4, hq56.frm FF (by omega), hq6.frm FF (by omega), hF6.then_ FF (fun i hi h => by omega)⟩)
                  | (obtain ⟨f2, f1, f4, f3, FF⟩ := two_grown (by first | exact ((Frm.refl _ _).alloc _).drew | exact (((Frm.refl _ _).alloc _).alloc _).drew) hg2 hn2 ha2 (by first | exact Frm.refl _ _ | exact (Frm.refl _ _).alloc _) hg1 hn1 ha1 hd2 L2 L1 B2 B1
                     exact ⟨rfl, by rw [wints_app]; exact f1, by rw [wints_app]; exact f2, f3, f4, hq56.frm FF (by omega), hq6.frm FF (by omega), hF6.then_ FF (fun i hi h => by omega)⟩)
          case rest =>
            obtain ⟨rfl, ho1, ho2, hd1', hd2', hqa, hqb, hFc⟩ := hcut
            obtain ⟨b1, k1, rfl⟩ := owns_form ho1
            obtain ⟨b2, k2, rfl⟩ := owns_form ho2
            have hcy : ∀ j, j < xs.length + 1 → wc.cell? ⟨b1, j, none⟩ = some (.int .i64 ((xs ++ [(T2, n)]).getD j (0, 0)).1) ∧ wc.cell? ⟨b2, j, none⟩ = some (.int .i64 ((xs ++ [(T2, n)]).getD j (0, 0)).2) := by
              intro j hj
              refine ⟨(ho1.cellAt j (by omega)).trans ?_, (ho2.cellAt j (by omega)).trans ?_⟩
              · rw [wints_at _ _ (by simp; omega), wpair1]
              · rw [wints_at _ _ (by simp; omega), wpair2]
            have HCY := Lib.hid hcy
            have HW := Lib.hid hW
            have HO := Lib.hid (And.intro ho1 ho2)
            have hL : (xs ++ [(T2, n)]).length = xs.length + 1 := by simp
            clear hcy hW ho1 ho2
            generalize hys : xs ++ [(T2, n)] = ys at *
            have HYS := Lib.hid hys
            clear hys
            go_wp2
            go_loop [19, 20] (fun a i => ∃ j : Nat, j ≤ xs.length + 1 ∧ i = .int .i64 ((j : Int) - 1) ∧ a = .int .i64 (suf ys j)) (fun _ i => (intOf i + 1).toNat)
            case atStart =>
              refine ⟨xs.length + 1, Nat.le_refl _, by go_num, ?_⟩
              rw [← hL, suf_end]
            case round =>
              obtain ⟨j, hj, rfl, rfl⟩ := hrel
              have hsb : 0 ≤ suf ys j ∧ suf ys j ≤ 41000 := by have := HW.out.1.sum_bd j (by omega); omega
              by_cases hj0 : j = 0
              · subst hj0
                have hneg : decide ((0 : Int) ≤ ((0 : Nat) : Int) - 1) = false := by decide
                generalize suf ys 0 = sa at *
                go_wp2
                go_roundw
                case rel =>
                  refine ⟨k + 1, ms1, ms1', T2, ys, by omega, by go_num, rfl, hqa, hqb, hs2, ?_, by omega, by omega, ?_, by omega, ?_, ?_, hd1', hd2', hFc⟩
                  · rw [hG, HW.out.2]; omega
                  · rw [hG]; exact HW.out.1
                  · have := HO.out.1
                    rw [hL, ← HYS.out]
                    simpa using this
                  · have := HO.out.2
                    rw [hL, ← HYS.out]
                    simpa using this
                case measure => simp [intOf]; omega
              · obtain ⟨j, rfl⟩ : ∃ j', j = j' + 1 := ⟨j - 1, by omega⟩
                rw [show ((j + 1 : Nat) : Int) - 1 = (j : Int) by omega]
                obtain ⟨c1, c2⟩ := HCY.out j (by omega)
                have hst := suf_step ys j (by omega)
                have hsum := HW.out.1.sums j (by omega)
                have helt := HW.out.1.elts j (by omega)
                have hm2 : 0 ≤ (mkGot each burst (Rt.get ms t') T2 n).2 := by rw [← hG]; exact (hqa.ok.get_bd t'.toNat (by omega)).2.2.1
                rw [HW.out.2] at hsum helt
                have hsb2 := HW.out.1.sum_bd j (by omega)
                have hsb2' : 0 ≤ suf ys j ∧ suf ys j ≤ 41000 := by omega
                rw [hst] at hsum hsb2'
                have HST := Lib.hid hst
                clear hst hsb2
                generalize suf ys (j + 1) = sa at *
                generalize (ys.getD j (0, 0)).1 = x at *
                generalize (ys.getD j (0, 0)).2 = y at *
                have hmul := mul_bd (g := T2 - x) hb1 (by omega)
                generalize hP : each * (T2 - x) = P at *
                have e2 : IntKind.i64.wrap P = P := IntWalk.i64_in _ (by omega)
                have hle : sa + y ≤ burst + P := by omega
                have hd : decide (burst + P < sa + y) = false := decide_eq_false (by omega)
                have HG := Lib.hid (And.intro hsum helt)
                clear hsum hm2
                go_wp2
                go_round
                case rel => exact ⟨j, by omega, by go_num, by rw [HST.out]⟩
                case measure => simp [intOf]
        · have hrb : (r == 0) = false := beq_eq_false_iff_ne.2 hr0
          have e1 := HB.out.1 hr0
          have e2 := HB.out.2.1 hr0
          subst e1
          subst e2
          go_wp2
          go_roundw
          case rel => exact ⟨k + 1, ms1, ms1', T2, xs, by omega, by go_num, rfl, hq56, hq6, hget, by omega, by omega, by omega, hwin, by omega, ho61, ho62, hd1, hd2, hF6⟩
          case measure => simp [intOf]; omega
      · have htb : (t' == t) = false := beq_eq_false_iff_ne.2 htt
        have hoth := take_other (each := each) (burst := burst) (ms := ms) (now := T2) (n := n) ht0.1 htt
        have HR1 := Lib.hid (rtake_any t' T2 n rb each burst ms _ hra)
        generalize (Rt.take each burst ms t' T2 n).2 = r at *
        generalize (Rt.take each burst ms t' T2 n).1 = ms1 at *
        go_wp2_with fail
        refine HR1.out.mono ?_
        rintro e w5 ⟨rfl, hq5, hf5⟩
        have hb5 := hf5.blk hbD (by omega)
        have hr5 := hra'.frm hf5 (by omega)
        have ho51 := owns_frm hoa1 hf5 (fun g hg e => by omega)
        have ho52 := owns_frm hoa2 hf5 (fun g hg e => by omega)
        have d0 : w5.cell? ⟨D, 0, none⟩ = some (.int .i64 t') := Bk.cell hb5 0
        have hF5 := hFa.then_ hf5 (fun i hi e => .inl e)
        go_wp2
        go_roundw
        case rel => exact ⟨k + 1, ms1, ms', T2, xs, by omega, by go_num, rfl, hq5, hr5, hoth.trans hget, by rw [hoth]; omega, by omega, by omega, by rw [hoth]; exact hwin, by omega, ho51, ho52, hd1, hd2, hF5⟩
        case measure => simp [intOf]; omega
    · obtain rfl : k = l.length := by omega
      go_wp2
      go_ret
      exact ⟨rfl, (hF3.then_ hFr (fun i hi e => by omega)).below (fun _ _ h => h)⟩
theorem window_walk' (p : Int × Int) (tq : Int) (v : Value) (l : List (Int × Int × Int)) (w : World) (hs : Sl w v l.length (l.flatMap rdeed)) (hq8 : 0 ≤ tq ∧ tq ≤ 255) :
    Calls Try.prog 12 #[arr2 p, v, .int .u8 tq] w fun e w' => e = .returned (.bool true) ∧ Below w.heap.size w w' := by
  obtain ⟨q, rfl⟩ := Int.eq_ofNat_of_zero_le hq8.1
  exact window_walk p q v l w hs (by omega)
end Go.Proofs.Ytkmafgmlcocjiaa
