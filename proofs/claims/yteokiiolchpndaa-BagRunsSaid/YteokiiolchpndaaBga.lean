/- Rows of texts: one is taken out of them in place (slices.Delete), and they are copied (slices.Clone). -/
import Derived.Test.YteokiiolchpndaaM
import Derived.Lib.SliceRun
import Derived.Lib.Walk
namespace Go.Proofs.Yteokiiolchpndaa
open Go.RowKit
set_option linter.unusedVariables false
set_option linter.unusedSimpArgs false

theorem Frm.setCells {S : Nat → Prop} {w : World} (b : Nat) (hp : b < w.heap.size → S b) : ∀ (vs : List Value) (o : Nat) (w1 : World), Frm S w w1 → Frm S w (w1.setCells b o vs)
  | [], _, _, h => h
  | v :: r, o, w1, h => Frm.setCells b hp r (o + 1) _ (h.setCell ⟨b, o, none⟩ hp v)
theorem Bk.setCells {g : Nat} {t : TypeId} : ∀ (vs : List Value) (o : Nat) (w : World) (cs : Array Value), w.heap[g]? = some (.cells cs t (0, 0)) → ∃ cs' : Array Value, (w.setCells g o vs).heap[g]? = some (.cells cs' t (0, 0)) ∧ cs'.size = cs.size
  | [], _, _, cs, h => ⟨cs, h, rfl⟩
  | v :: r, o, w, cs, h => by
    obtain ⟨cs', h1, h2⟩ := Bk.setCells r (o + 1) _ _ (Bk.set h o v)
    exact ⟨cs', h1, by rw [h2]; simp⟩
/-- A row of which some cells are written, cut or not. -/
theorem owns_setCells {w : World} {base : Nat} {e : TypeId} {g n cap : Nat} {xs : List Value} (h : w.ownsRow base e 1 (.slice (some ⟨g, 0, none⟩) n cap) n xs) (o : Nat) (vs : List Value) (m : Nat) (ys : List Value) (hm : m ≤ cap) (hy : ys.length = m) (hin : o + vs.length ≤ cap)
    (hat : ∀ j, j < m → ys[j]? = if o ≤ j ∧ j < o + vs.length then vs[j - o]? else xs[j]?) (hout : ∀ j, j < m → ¬ (o ≤ j ∧ j < o + vs.length) → j < n) :
    (w.setCells g o vs).ownsRow base e 1 (.slice (some ⟨g, 0, none⟩) m cap) m ys := by
  refine ⟨by omega, ?_⟩
  rcases h.2 with ⟨h, _⟩ | ⟨g', cap', cur, he, hb, hg, hn, hc, hsz, ht⟩
  · cases h
  · cases he
    obtain ⟨cs', h1, h2⟩ := Bk.setCells vs o w cur hg
    refine .inr ⟨g, cap, cs', rfl, hb, h1, hm, hc, by omega, ?_⟩
    apply List.ext_getElem?
    intro j
    rw [List.getElem?_take]
    by_cases hj : j < m
    · rw [if_pos (by omega), hat j hj]
      have e1 : cs'.toList[j]? = (w.setCells g o vs).cell? ⟨g, j, none⟩ := by rw [Bk.cell h1]; simp
      rw [e1]
      by_cases hr : o ≤ j ∧ j < o + vs.length
      · rw [if_pos hr]
        have := World.cell?_setCells_in g vs o w (fun j hj => by rw [Bk.cell hg]; simp; omega) (j - o) (by omega)
        rw [show o + (j - o) = j by omega] at this
        rw [this, List.getElem?_eq_getElem (by omega)]
      · rw [if_neg hr, World.cell?_setCells_out g vs o w _ (fun _ _ => by simp only; omega), Bk.cell hg]
        have := hout j hj hr
        rw [← ht, List.getElem?_take, if_pos (by omega)]
        simp
    · rw [if_neg (by omega), List.getElem?_eq_none (by omega)]

set_option maxHeartbeats 2000000 in
set_option maxRecDepth 100000 in
/-- slices.Delete of one text. -/
theorem del_str (xs : List ByteArray) (base g cap i j : Nat) (w : World) (h : w.ownsRow base 9 1 (.slice (some ⟨g, 0, none⟩) xs.length cap) xs.length (strs xs)) (hi : i < xs.length) (hj : j = i + 1) (hlen : xs.length ≤ 1000) :
    Calls Try.prog 54 #[.slice (some ⟨g, 0, none⟩) xs.length cap, .int .i64 i, .int .i64 j] w fun e w' => e = .returned (.slice (some ⟨g, 0, none⟩) (xs.length - 1) cap) ∧
      w'.ownsRow base 9 1 (.slice (some ⟨g, 0, none⟩) (xs.length - 1) cap) (xs.length - 1) (strs (xs.eraseIdx i)) ∧ Frm (fun k => k = g) w w' := by
  have hcap : xs.length ≤ cap ∧ cap ≤ maxLen := by
    rcases h.2 with ⟨h, _⟩ | ⟨g', cap', cur, he, hb, hg, hn, hc, hsz, ht⟩
    · cases h
    · cases he; exact ⟨hn, hc⟩
  have hcap1 := hcap.1
  have hcap2 := hcap.2
  unfold maxLen at hcap2
  obtain ⟨i0, hi0, hz0, hz1, hz2⟩ := Estr.info
  obtain ⟨news, hnews⟩ : ∃ news, news = (strs xs).drop j := ⟨_, rfl⟩
  have hlen2 : news.length = xs.length - j := by rw [hnews]; simp [strs]
  have hcellx : ∀ k, k < xs.length → w.cell? ⟨g, k, none⟩ = (strs xs)[k]? := fun k hk => h.cellAt k (by omega)
  obtain ⟨A, hA, hsrc⟩ : ∃ A : Addr, (if cap = j then some (⟨g, 0, none⟩ : Addr) else some ⟨g, j, none⟩) = some A ∧ Hid (∀ t u, news[t]? = some u → w.drew.cell? (A.add t) = some u) := by
    by_cases hc : cap = j
    · refine ⟨⟨g, 0, none⟩, by simp [hc], fun t u hu => ?_⟩
      have h0 : news.length = 0 := by rw [hlen2]; omega
      rw [List.length_eq_zero_iff.1 h0] at hu
      simp at hu
    · refine ⟨⟨g, j, none⟩, by simp [hc], fun t u hu => ?_⟩
      have ht := (List.getElem?_eq_some_iff.1 hu).1
      rw [add_none]
      show w.cell? _ = _
      rw [hcellx (j + t) (by omega), ← hu, hnews, List.getElem?_drop]
  have s1 : Hid (news.length = (xs.length - j) * 1) := by unfold Hid; rw [Nat.mul_one]; exact hlen2
  have s2 : Hid (∀ u ∈ news, u.oneCell' = true) := by
    intro u hu
    rw [hnews] at hu
    exact strs_one xs u (List.mem_of_mem_drop hu)
  have hcs : ∀ k, k < cap → (w.cell? ⟨g, k, none⟩).isSome = true ∧ w.frozen? ⟨g, k, none⟩ = false := by
    intro k hk
    rcases h.2 with ⟨h, _⟩ | ⟨g', cap', cur, he, hb, hg, hn, hc, hsz, ht⟩
    · cases h
    · cases he
      exact ⟨by rw [Bk.cell hg]; simp; omega, Bk.frozen hg k⟩
  have s3 : Hid (∀ t, t < news.length → (w.drew.cell? ⟨g, 0 + i * 1 + t, none⟩).isSome = true ∧ w.drew.frozen? ⟨g, 0 + i * 1 + t, none⟩ = false) := by
    intro t ht
    exact hcs _ (by omega)
  obtain ⟨W1, hW1⟩ : ∃ W1, W1 = w.drew.setCells g (0 + i * 1) news := ⟨_, rfl⟩
  have hcell1 : ∀ k, k < cap → (W1.cell? ⟨g, k, none⟩).isSome = true ∧ W1.frozen? ⟨g, k, none⟩ = false := by
    intro k hk
    rw [hW1]
    exact ⟨World.isSome_setCells g _ _ _ _ (hcs k hk).1, by rw [World.frozen?_setCells]; exact (hcs k hk).2⟩
  have hx1 : xs.length - 1 = i + (xs.length - j) := by omega
  have hcl : ∀ ty, (Builtin.clear_ #[57] ty #[.slice (some ⟨g, i + (xs.length - j), none⟩) (xs.length - (i + (xs.length - j))) (cap - (i + (xs.length - j)))]).run Try.prog W1 = .ok (.tuple #[]) (W1.setCells g (i + (xs.length - j)) (List.replicate (xs.length - (i + (xs.length - j))) (.string ⟨#[]⟩))) :=
    fun ty => Lib.run_clear_slice W1 _ _ ty _ Try.underlying57 (fun _ => by kernel_rfl) rfl rfl g _ _ _ (by omega) (fun t ht => (hcell1 _ (by omega)).1) (fun t ht => (hcell1 _ (by omega)).2)
  have ho1 : W1.ownsRow base 9 1 (.slice (some ⟨g, 0, none⟩) (xs.length - 1) cap) (xs.length - 1) (strs (xs.eraseIdx i)) := by
    rw [hW1]
    refine owns_setCells (w := w.drew) (n := xs.length) (xs := strs xs) h (0 + i * 1) news (xs.length - 1) _ (by omega) (by simp [strs, List.length_eraseIdx, hi]) (by omega) (fun k hk => ?_) (fun k hk _ => by omega)
    have e1 : strs (xs.eraseIdx i) = (strs xs).eraseIdx i := by unfold strs; rw [List.eraseIdx_eq_take_drop_succ, List.eraseIdx_eq_take_drop_succ]; simp
    rw [e1, List.getElem?_eraseIdx]
    by_cases hki : k < i
    · rw [if_pos hki, if_neg (by omega)]
    · rw [if_neg hki, if_pos (by omega), hnews, List.getElem?_drop]
      congr 1
      omega
  have HO1 := Lib.hid ho1
  have hFr1 : Frm (fun k => k = g) w W1 := by rw [hW1]; exact Frm.setCells (S := fun k => k = g) g (fun _ => rfl) _ _ _ (Frm.refl _ w).drew
  have HF1 := Lib.hid hFr1
  have hW : Hid (W1 = w.drew.setCells g (0 + i * 1) news) := hW1
  have hne : ¬ (i : Int) = (j : Int) := by omega
  have hij : i < j := by omega
  have hjn : j ≤ xs.length := by omega
  have HJ := Lib.hid hj
  clear hj
  clear hW1 hnews hlen2 hcellx ho1 hFr1 hcell1 hcs h
  have hic : i ≤ cap := by omega
  have hjc : j ≤ cap := by omega
  go_enter Try.func54, Try.ntmps54
  go_wp2_with fail
  go_region_law (refine step_append_room rfl (.tmp 22) (.tmp 25) 57 rfl 9 i0 1 Try.underlying57 hi0 hz1 g 0 i cap (by simp [Act.eval, Act.put]) A (xs.length - j) (cap - j) news (by simp [Act.eval, Act.put]) s1.out hsrc.out s2.out (by omega) s3.out ?_; rw [← hW.out])
  go_wp2
  go_ret
  refine ⟨by rw [hx1]; rfl, ?_, Frm.setCells (S := fun k => k = g) g (fun _ => rfl) _ _ _ HF1.out⟩
  exact owns_setCells HO1.out _ _ (xs.length - 1) _ (by omega) (by simp [strs, List.length_eraseIdx, hi]) (by simp; omega) (fun k hk => by rw [if_neg (by simp; omega)]) (fun k hk _ => hk)

/-- slices.Clone of texts. -/
theorem clone_str (xs : List ByteArray) (v : Value) (w : World) (hs : Sl w v xs.length (strs xs)) (hlen : xs.length ≤ 1000) (hnil : v = .slice none 0 0 ∨ ∃ A n c, v = .slice (some A) n c) :
    Calls Try.prog 55 #[v] w fun e w' => ∃ v', e = .returned v' ∧ w'.ownsRow w.heap.size 9 1 v' xs.length (strs xs) ∧ Frm0 w w' := by
  have hM : 0 + xs.length ≤ maxLen := by unfold maxLen; omega
  rcases hnil with rfl | ⟨A, n, c, rfl⟩
  · have hx : xs = [] := by
      rcases hs with ⟨A', c', he, hn, _⟩ | ⟨b, o, c', he, _⟩
      · exact List.eq_nil_of_length_eq_zero hn
      · cases he
    subst hx
    have q : ∀ (w : World) (a : Option Addr) (n c n' c' : Nat), (binOp .eql 57 (.slice a n c) (.slice none n' c')).run Try.prog w = .ok (.bool a.isNone) w := fun w a n c n' c' => Lib.run_eql_slice_nil w _ _ a n c n' c' Try.underlying57
    go_enter Try.func55, Try.ntmps55
    go_wp2
    go_ret
    exact ⟨_, rfl, World.ownsRow_nil _ _ _ _, Frm.refl _ _⟩
  · obtain rfl : n = xs.length := by
      rcases hs with ⟨A', c', he, hn, _⟩ | ⟨b, o, c', he, _⟩
      · cases he; exact hn.symm
      · cases he; rfl
    have q : ∀ (w : World) (a : Option Addr) (n c n' c' : Nat), (binOp .eql 57 (.slice a n c) (.slice none n' c')).run Try.prog w = .ok (.bool a.isNone) w := fun w a n c n' c' => Lib.run_eql_slice_nil w _ _ a n c n' c' Try.underlying57
    go_enter Try.func55, Try.ntmps55
    go_wp2_with (at_builtin; refine wpList_append_sl rfl (.tmp 5) (.tmp 6) rfl Estr w.heap.size (.slice (some ⟨w.heap.size, 0, none⟩) 0 0) (.slice (some A) xs.length c) 0 xs.length [] (strs xs) rfl rfl (World.ownsRow_made w #[] 0 (Nat.le_refl _) (by decide) rfl) (hs.frm0 ((Frm.refl _ _).alloc _)) (by simp [strs]) (strs_one xs) hM (by omega) (by simp) ?_; intro v1 w1 hown1 hf1 hat1)
    go_ret
    refine ⟨_, rfl, by simpa using hown1, ((Frm.refl _ _).alloc _).then_ hf1 (fun i hi h => by simp [Value.ownBlock] at h; omega)⟩
end Go.Proofs.Yteokiiolchpndaa
