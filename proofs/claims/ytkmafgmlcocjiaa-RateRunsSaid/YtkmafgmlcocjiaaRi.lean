/- The reference of rate, made anew. -/
import Derived.Test.YtkmafgmlcocjiaaRh
import Derived.Deep.RegionLaw
namespace Go.Proofs.Ytkmafgmlcocjiaa
open Go.RowKit Rt
set_option linter.unusedVariables false
set_option linter.unusedSimpArgs false

theorem step_append_cells {P : Program} {t e : TypeId} {z : Value} {size bytes : Nat} {ops : Array Oper} {o : Oper} {a : Act} {w : World} {K : Act → World → Prop} {Q : Exit → Act → World → Prop} {E : Prop} (hgd : o.guard = none) (s x : Operand)
    (ho : o.op = .call { callee := .builtin .append, args := #[s, x], argTypes := #[t, t] }) (EE : Elt P t e z size bytes)
    (base : Nat) (v : Value) (n : Nat) (xs : List Value) (X : Nat) (us : List Value) (hs : a.eval s = v) (hx : a.eval x = .slice (some ⟨X, 0, none⟩) 1 1) (hown : w.ownsRow base e size v n xs)
    (hX : w.heap[X]? = some (.cells us.toArray e (0, 0))) (hl : us.length = size) (h1 : ∀ u ∈ us, u.oneCell' = true) (hn : n ≤ 1000) (hby1 : bytes ≤ 1000000) (hbase : base ≤ w.heap.size)
    (h : ∀ v' w', w'.ownsRow base e size v' (n + 1) (xs ++ us) → w.grownBy w' v.ownBlock → (v'.ownBlock = v.ownBlock ∨ v'.ownBlock = some w.heap.size) → K (a.put o.dst v') w') :
    if Region.wanted o (yielded ops a.tmps) = true then Oper.wp P o a w K Q else E := by
  obtain ⟨i, hi, hz, hsize, hby⟩ := EE.info
  have hM : n + 1 ≤ maxLen := by unfold maxLen; omega
  have hbb : (n + 1) * bytes ≤ 140737488355328 := Nat.le_trans (Nat.mul_le_mul (show n + 1 ≤ 1001 by omega) hby1) (by decide)
  exact step_append_lies w hgd s x t ho base e i _ size bytes EE.und hi hz hsize hby EE.zs EE.pos v n xs hs hown ⟨X, 0, none⟩ 1 1 us hx (by omega) (World.news_of_block hX) h1 (by omega) hM hbb hbase w.heap.size rfl
    (fun g cap w' h1 h2 h3 h4 => h _ _ h1 h2 (h3.imp (fun e => e.symm) (fun e => by rw [e]; rfl)))
theorem Emark : Elt Try.prog 84 88 (.agg #[.int .i64 0, .int .i64 0]) 2 16 := Elt.mk' Try.underlying84 (by kernel_rfl) rfl (by omega)

set_option maxHeartbeats 1000000 in
theorem rrnew_any (r u : Int) (w : World) :
    Calls Try.prog 45 #[.int .i64 r, .int .i64 u] w fun e w' => ∃ mb cap, e = .returned (.pointer (some ⟨w.heap.size, 0, none⟩)) ∧ Rr.At w' w.heap.size mb cap (bring r 0 1000) (bring u 1 1000) [(0, bring u 1 1000), (0, bring u 1 1000), (0, bring u 1 1000), (0, bring u 1 1000)] ∧ Frm0 w w' := by
  have hb1 := bring_bd r (show (0 : Int) ≤ 1000 by omega)
  have hb2 := bring_bd u (show (1 : Int) ≤ 1000 by omega)
  have HB1 := Lib.hid (rbring_any r 0 1000 w)
  have HB2 := Lib.hid (rbring_any u 1 1000 w)
  generalize bring r 0 1000 = each at *
  generalize bring u 1 1000 = burst at *
  go_enter Try.func45, Try.ntmps45
  go_wp2_with fail
  refine HB1.out.mono ?_
  rintro e w1 ⟨rfl, rfl⟩
  go_wp2_with fail
  refine HB2.out.mono ?_
  rintro e w1 ⟨rfl, rfl⟩
  go_wp2_with fail
  have hbx := Bk.new w (.cells #[.int .i64 each, .int .i64 burst, .slice none 0 0] 86)
  have hFx := (Frm.refl (fun _ => False) w).alloc (.cells #[.int .i64 each, .int .i64 burst, .slice none 0 0] 86)
  have hsx : w.heap.size + 1 ≤ (w.alloc (.cells #[.int .i64 each, .int .i64 burst, .slice none 0 0] 86)).heap.size := by simp
  generalize w.alloc (.cells #[.int .i64 each, .int .i64 burst, .slice none 0 0] 86) = w2 at *
  go_loopw [6] (fun i wr => ∃ (k : Nat) (v : Value), k ≤ 4 ∧ i = .int .i64 k ∧ wr.heap[w.heap.size]? = some (.cells #[.int .i64 each, .int .i64 burst, v] 86 (0, 0)) ∧ wr.ownsRow (w.heap.size + 1) 88 2 v k (Rt.flat (List.replicate k (0, burst))) ∧ Frm0 w wr ∧ w.heap.size + 1 ≤ wr.heap.size) (fun i _ => 4 - (intOf i).toNat)
  case atStart => exact ⟨0, _, by omega, rfl, hbx, World.ownsRow_nil _ _ _ _, hFx, hsx⟩
  case round =>
    clear hbx hFx hsx
    obtain ⟨k, v, hk, rfl, hbk, hown, hF, hsz⟩ := hrel
    by_cases hlt : k < 4
    · have c1 : wr.cell? ⟨w.heap.size, 1, none⟩ = some (.int .i64 burst) := Bk.cell hbk 1
      have c2 : wr.cell? ⟨w.heap.size, 2, none⟩ = some v := Bk.cell hbk 2
      have fr := Bk.frozen hbk 2
      have hvl : ∀ g, v.ownBlock = some g → w.heap.size + 1 ≤ g ∧ g < wr.heap.size := fun g e => hown.lt g e
      have c2a : (wr.alloc (.cells #[.int .i64 0, .int .i64 burst] 88)).cell? ⟨w.heap.size, 2, none⟩ = some v := cell_al c2
      go_wp2_with fail
      go_region_law (refine step_append_cells rfl (.tmp 21) (.tmp 27) rfl Emark (w.heap.size + 1) v k (Rt.flat (List.replicate k (0, burst))) _ [.int .i64 0, .int .i64 burst] (by rfl) (by rfl) ((hown.alloc _).drew) (Bk.drew (Bk.new _ _)) rfl (by simp [Value.oneCell']) (by omega) (by omega) (by simp; omega) ?_; intro v' w81 hn1 hg1 ha1; have hbk1 := Bk.grown (Bk.drew (Bk.alloc hbk _)) hg1 (fun e => by have := hvl _ e; omega); have fr1 := Bk.frozen hbk1 2; have c21 : w81.cell? ⟨w.heap.size, 2, none⟩ = some v := Bk.cell hbk1 2; obtain ⟨g9, cap9, rfl⟩ := owns_form hn1)
      all_goals
        have hgl := (hn1.lt g9 rfl).1
        have hfl : Rt.flat (List.replicate k (0, burst)) ++ [Value.int .i64 0, .int .i64 burst] = Rt.flat (List.replicate (k + 1) (0, burst)) := by
          rw [List.replicate_succ']
          simp [Rt.flat]
        have hF9 : Frm0 w (w81.setCell ⟨w.heap.size, 2, none⟩ (.slice (some ⟨g9, 0, none⟩) (k + 1) cap9)) :=
          (((hF.alloc _).drew).grown hg1 (fun j e hj => by have := hvl _ e; omega)).setCell ⟨w.heap.size, 2, none⟩ (fun h => absurd h (Nat.lt_irrefl _)) _
        have hs9 : w.heap.size + 1 ≤ (w81.setCell ⟨w.heap.size, 2, none⟩ (.slice (some ⟨g9, 0, none⟩) (k + 1) cap9)).heap.size := by
          have := hg1.size
          simp [World.setCell] at this ⊢
          omega
        have hb9 : (w81.setCell ⟨w.heap.size, 2, none⟩ (.slice (some ⟨g9, 0, none⟩) (k + 1) cap9)).heap[w.heap.size]? = some (.cells #[.int .i64 each, .int .i64 burst, .slice (some ⟨g9, 0, none⟩) (k + 1) cap9] 86 (0, 0)) := Bk.set hbk1 2 _
        have ho9 : (w81.setCell ⟨w.heap.size, 2, none⟩ (.slice (some ⟨g9, 0, none⟩) (k + 1) cap9)).ownsRow (w.heap.size + 1) 88 2 (.slice (some ⟨g9, 0, none⟩) (k + 1) cap9) (k + 1) (Rt.flat (List.replicate (k + 1) (0, burst))) := by
          rw [← hfl]
          exact owns_frm1 hn1 ((Frm.refl (fun j => j = w.heap.size) w81).set1 2 _) (by omega)
        generalize w81.setCell ⟨w.heap.size, 2, none⟩ (.slice (some ⟨g9, 0, none⟩) (k + 1) cap9) = w9 at *
        go_wp2
        go_roundw
        case rel => exact ⟨k + 1, _, by omega, by go_num, hb9, ho9, hF9, hs9⟩
        case measure => simp [intOf]; omega
    · obtain rfl : k = 4 := by omega
      obtain ⟨mb, cap, rfl⟩ := owns_form hown
      go_wp2
      go_ret
      have hbd : ∀ m ∈ [((0 : Int), burst), (0, burst), (0, burst), (0, burst)], 0 ≤ m.1 ∧ m.1 ≤ 1099511627776 ∧ 0 ≤ m.2 ∧ m.2 ≤ burst := by
        intro m hm
        have e : m = (0, burst) := by simpa using hm
        subst e
        simp only
        omega
      exact ⟨mb, cap, rfl, ⟨⟨rfl, hb1, hb2, hbd⟩, hbk, hown⟩, hF⟩
end Go.Proofs.Ytkmafgmlcocjiaa
