/- The bag's reference: contracts of Take and Twice. -/
import Derived.Test.YteokiiolchpndaaBgb
namespace Go.Proofs.Yteokiiolchpndaa
open Go.RowKit
set_option linter.unusedVariables false
set_option linter.unusedSimpArgs false

theorem step_append_sl {P : Program} {t e : TypeId} {z : Value} {size bytes : Nat} {ops : Array Oper} {o : Oper} {a : Act} {w : World} {K : Act → World → Prop} {Q : Exit → Act → World → Prop} {E' : Prop} (hgd : o.guard = none) (s x : Operand)
    (ho : o.op = .call { callee := .builtin .append, args := #[s, x], argTypes := #[t, t] }) (E : Elt P t e z size bytes) (base : Nat) (v u : Value) (n m : Nat) (xs cs : List Value)
    (hs : a.eval s = v) (hx : a.eval x = u) (hown : w.ownsRow base e size v n xs)
    (hsl : Sl w u m cs) (hl : cs.length = m * size) (h1 : ∀ c ∈ cs, c.oneCell' = true) (h63 : n + m ≤ maxLen) (hbytes : (n + m) * bytes ≤ 140737488355328) (hbase : base ≤ w.heap.size)
    (h : ∀ v' w', w'.ownsRow base e size v' (n + m) (xs ++ cs) → Frm (fun k => v.ownBlock = some k) w w' → (v'.ownBlock = v.ownBlock ∨ v'.ownBlock = some w.heap.size) → K (a.put o.dst v') w') :
    if Region.wanted o (yielded ops a.tmps) = true then Oper.wp P o a w K Q else E' := by
  have hw : Region.wanted o (yielded ops a.tmps) = true := by simp [Region.wanted, hgd]
  rw [if_pos hw]
  obtain ⟨v', w', hr, h2, h3, h4⟩ := run_append_sl E o.type base hown hsl hl h1 h63 hbytes hbase
  unfold Oper.wp execOp
  simp only [ho, resolve, invoke, builtin, Sem.run_bind, Sem.run_pure, Result.andThen_ok, List.map_toArray, List.map_cons, List.map_nil, hs, hx, hr]
  exact h v' w' h2 h3 h4
theorem strs_drop (l : List ByteArray) (k : Nat) : (strs l).drop k = strs (l.drop k) := by simp [strs]
theorem strs_take (l : List ByteArray) (k : Nat) : (strs l).take k = strs (l.take k) := by simp [strs]

namespace Bg
set_option maxHeartbeats 1000000 in
theorem rtake_any (i : Int) (base : Nat) (v : Value) (xs : List ByteArray) (w : World) (h : w.ownsRow base 9 1 v xs.length (strs xs)) (hb : base ≤ w.heap.size) (hlen : xs.length ≤ 1000) :
    Calls Try.prog 26 #[v, .int .i64 i] w fun e w' => ∃ v', e = .returned (.tuple #[v', .string (at_ xs i).1, .bool (at_ xs i).2]) ∧ w'.ownsRow base 9 1 v' (cut xs i).length (strs (cut xs i)) ∧ Moved w v v' ∧ Frm0 w w' := by
  by_cases hi : 0 ≤ i ∧ i < xs.length
  · unfold at_ cut
    rw [if_pos hi, if_pos hi]
    obtain ⟨n, rfl⟩ := Int.eq_ofNat_of_zero_le hi.1
    have hn : n < xs.length := by omega
    obtain ⟨m, hm⟩ : ∃ m, xs.length = m + 1 := ⟨xs.length - 1, by omega⟩
    have hrow := h
    rw [hm] at hrow
    obtain ⟨g, cap, rfl⟩ := owns_form hrow
    rw [← hm] at *
    have hcell := h.cellAt n (by omega)
    rw [strs_at xs n hn] at hcell
    obtain ⟨x, hx⟩ : ∃ x, x = xs[n] := ⟨_, rfl⟩
    have hget : xs.getD (n : Int).toNat ⟨#[]⟩ = x := by rw [hx]; simp [List.getD_eq_getElem?_getD, List.getElem?_eq_getElem hn]
    rw [hget, Int.toNat_natCast]
    rw [← hx] at hcell
    clear hx
    have hS := Sl.of_own h
    have hcap := h.2
    have hcc : xs.length ≤ cap ∧ cap ≤ maxLen := by
      rcases hcap with ⟨h, _⟩ | ⟨g', cap', cur, he, hb, hg, hn, hc, hsz, ht⟩
      · cases h
      · cases he; exact ⟨hn, hc⟩
    obtain ⟨hc1, hc2⟩ := hcc
    unfold maxLen at hc2
    have hS1 := hS.take1 n (by omega)
    have hS2 := hS.drop1 (n + 1) (by omega) (strs_len xs)
    rw [Nat.zero_add] at hS2
    obtain ⟨A2, hA2⟩ : ∃ A2 : Option Addr, (if cap = n + 1 then some (⟨g, 0, none⟩ : Addr) else some ⟨g, n + 1, none⟩) = A2 := ⟨_, rfl⟩
    rw [hA2] at hS2
    have hd1 : decide ((n : Int) < 0) = false := by simp
    have hd2 : decide ((xs.length : Int) ≤ (n : Int)) = false := by simp; omega
    have hni : (n : Int) < (xs.length : Int) := by omega
    have hgl := (h.lt g rfl).2
    have hM1 : 0 + n ≤ maxLen := by unfold maxLen; omega
    have hM2 : 0 + n + (xs.length - (n + 1)) ≤ maxLen := by unfold maxLen; omega
    clear hget hrow hm hcap
    go_enter Try.func26, Try.ntmps26
    go_wp2_with (at_builtin; refine wpList_append_sl rfl (.tmp 17) (.tmp 20) rfl Estr w.heap.size (.slice (some ⟨w.heap.size, 0, none⟩) 0 0) (.slice (some ⟨g, 0, none⟩) n cap) 0 n [] ((strs xs).take n) rfl rfl (World.ownsRow_made w #[] 0 (Nat.le_refl _) (by decide) rfl) (hS1.frm0 ((Frm.refl _ _).alloc _)) (by simp [strs]; omega) (fun c hc => strs_one xs c (List.mem_of_mem_take hc)) hM1 (by omega) (by simp) ?_; intro v1 w1 hown1 hf1 hat1)
    have f1 : Frm0 w w1 := ((Frm.refl _ _).alloc _).then_ hf1 (fun i hi h => by simp [Value.ownBlock] at h; omega)
    have hcell1 := f1.cell hcell (fun h => h)
    have hsz1 := f1.size
    have hS2' := hS2.frm0 (f1.drew)
    have k1 : IntKind.i64.wrap ((n : Int) + 1) = (n : Int) + 1 := IntWalk.i64_in _ (by omega)
    have k2 : (0 : Int) ≤ (n : Int) + 1 := by omega
    have k3 : (n : Int) + 1 ≤ (xs.length : Int) := by omega
    have k4 : ((n : Int) + 1).toNat = n + 1 := by omega
    go_region_law (refine step_append_sl rfl (.tmp 22) (.tmp 26) rfl Estr w.heap.size v1 (.slice A2 (xs.length - (n + 1)) (cap - (n + 1))) (0 + n) (xs.length - (n + 1)) ([] ++ (strs xs).take n) ((strs xs).drop (n + 1)) (by simp [Act.eval, Act.put]) (by simp [Act.eval, Act.put]) hown1.drew hS2' (by simp [strs]) (fun c hc => strs_one xs c (List.mem_of_mem_drop hc)) hM2 (by omega) (by simp; omega) ?_; intro v2 w2 hown2 hf2 hat2; have f2 : Frm0 w w2 := (f1.drew).then_ hf2 (fun i hi h => by have := (hown1.lt i h).1; omega); have hcell2 := f2.cell hcell (fun h => h))
    all_goals
      go_wp2
      go_ret3
      have f2 : Frm0 w w2 := (f1.drew).then_ hf2 (fun i hi h => by have := (hown1.lt i h).1; omega)
      refine ⟨v2, rfl, ?_, fun k hk => .inr (hown2.lt k hk).1, f2⟩
      have e1 : strs (xs.eraseIdx n) = [] ++ (strs xs).take n ++ (strs xs).drop (n + 1) := by rw [List.eraseIdx_eq_take_drop_succ]; simp [strs]
      have e2 : (xs.eraseIdx n).length = 0 + n + (xs.length - (n + 1)) := by rw [List.length_eraseIdx, if_pos hn]; omega
      rw [e1, e2]
      exact owns_base hown2 hb
  · unfold at_ cut
    rw [if_neg hi, if_neg hi]
    obtain ⟨A, c, rfl⟩ := (Sl.of_own h).form
    by_cases h0 : i < 0
    · have hd1 : decide (i < 0) = true := by simp; omega
      go_enter Try.func26, Try.ntmps26
      go_wp2
      go_ret3
      exact ⟨_, rfl, h, Moved.same _ _, Frm.refl _ _⟩
    · have hd1 : decide (i < 0) = false := by simp; omega
      have hd2 : decide ((xs.length : Int) ≤ i) = true := by simp; omega
      go_enter Try.func26, Try.ntmps26
      go_wp2
      go_ret3
      exact ⟨_, rfl, h, Moved.same _ _, Frm.refl _ _⟩

set_option maxHeartbeats 1000000 in
theorem rtwice_any (i : Int) (base : Nat) (v : Value) (xs : List ByteArray) (w : World) (h : w.ownsRow base 9 1 v xs.length (strs xs)) (hb : base ≤ w.heap.size) (hlen : xs.length ≤ 900) :
    Calls Try.prog 27 #[v, .int .i64 i] w fun e w' => ∃ v', e = .returned (.tuple #[v', .int .i64 (twice xs i).2]) ∧ w'.ownsRow base 9 1 v' (twice xs i).1.length (strs (twice xs i).1) ∧ Moved w v v' ∧ Frm0 w w' := by
  by_cases hi : 0 ≤ i ∧ i < xs.length
  · unfold twice
    rw [if_pos hi]
    obtain ⟨n, rfl⟩ := Int.eq_ofNat_of_zero_le hi.1
    have hn : n < xs.length := by omega
    obtain ⟨m, hm⟩ : ∃ m, xs.length = m + 1 := ⟨xs.length - 1, by omega⟩
    have hrow := h
    rw [hm] at hrow
    obtain ⟨g, cap, rfl⟩ := owns_form hrow
    rw [← hm] at *
    have hd1 : decide ((n : Int) < 0) = false := by simp
    have hd2 : decide ((xs.length : Int) ≤ (n : Int)) = false := by simp; omega
    by_cases h64 : xs.length < 64
    · rw [if_pos h64]
      have hcell := h.cellAt n (by omega)
      rw [strs_at xs n hn] at hcell
      obtain ⟨x, hx⟩ : ∃ x, x = xs[n] := ⟨_, rfl⟩
      have hget : xs.getD (n : Int).toNat ⟨#[]⟩ = x := by rw [hx]; simp [List.getD_eq_getElem?_getD, List.getElem?_eq_getElem hn]
      rw [hget]
      rw [← hx] at hcell
      clear hx
      have hS := Sl.of_own h
      have hni : (n : Int) < (xs.length : Int) := by omega
      have hM1 : 0 + xs.length ≤ maxLen := by unfold maxLen; omega
      have hM2 : 0 + xs.length + 1 ≤ maxLen := by unfold maxLen; omega
      clear hget hrow hm
      go_enter Try.func27, Try.ntmps27
      go_wp2_with (first
        | (at_builtin; refine wpList_append_sl rfl (.tmp 20) (.tmp 21) rfl Estr w.heap.size (.slice (some ⟨w.heap.size, 0, none⟩) 0 0) (.slice (some ⟨g, 0, none⟩) xs.length cap) 0 xs.length [] (strs xs) rfl rfl (World.ownsRow_made w #[] 0 (Nat.le_refl _) (by decide) rfl) (hS.frm0 ((Frm.refl _ _).alloc _)) (by simp [strs]) (strs_one xs) hM1 (by omega) (by simp) ?_; intro v1 w1 hown1 hf1 hat1; have f1 : Frm0 w w1 := ((Frm.refl _ _).alloc _).then_ hf1 (fun i hi h => by simp [Value.ownBlock] at h; omega); have hcell1 := f1.cell hcell (fun h => h))
        | (at_builtin; refine wpList_append_sl rfl (.tmp 23) (.tmp 28) rfl Estr w.heap.size v1 (.slice (some ⟨w1.heap.size, 0, none⟩) 1 1) (0 + xs.length) 1 ([] ++ strs xs) (strs [x]) rfl rfl (hown1.alloc _) (Sl.new _ _ _ 1 (by decide) (by omega)) rfl (strs_one [x]) hM2 (by omega) (by have := f1.size; simp at this ⊢; omega) ?_; intro v2 w2 hown2 hf2 hat2))
      go_ret2
      refine ⟨v2, rfl, ?_, fun k hk => .inr (hown2.lt k hk).1, (f1.alloc _).then_ hf2 (fun i hi h => by have := (hown1.lt i h).1; omega)⟩
      have e1 : strs (xs ++ [x]) = [] ++ strs xs ++ strs [x] := by simp [strs]
      have e2 : (xs ++ [x]).length = 0 + xs.length + 1 := by simp
      rw [e1, e2]
      exact owns_base hown2 hb
    · rw [if_neg h64]
      go_enter Try.func27, Try.ntmps27
      go_wp2
      go_ret2
      exact ⟨_, rfl, h, Moved.same _ _, Frm.refl _ _⟩
  · unfold twice
    rw [if_neg hi]
    obtain ⟨A, c, rfl⟩ := (Sl.of_own h).form
    by_cases h0 : i < 0
    · have hd1 : decide (i < 0) = true := by simp; omega
      go_enter Try.func27, Try.ntmps27
      go_wp2
      go_ret2
      exact ⟨_, rfl, h, Moved.same _ _, Frm.refl _ _⟩
    · have hd1 : decide (i < 0) = false := by simp; omega
      have hd2 : decide ((xs.length : Int) ≤ i) = true := by simp; omega
      go_enter Try.func27, Try.ntmps27
      go_wp2
      go_ret2
      exact ⟨_, rfl, h, Moved.same _ _, Frm.refl _ _⟩
end Bg
end Go.Proofs.Yteokiiolchpndaa
