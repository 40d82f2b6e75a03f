/- The cache's reference: Put, Get. -/
import Derived.Test.YthmhihmbciigdaaLrj
import Derived.Deep.RegionHeld3
namespace Go.Proofs.Ythmhihmbciigdaa
open Go.RowKit Go.Maps
set_option linter.unusedVariables false
set_option linter.unusedSimpArgs false
set_option maxRecDepth 100000
theorem step_append_sl {P : Program} {t e : TypeId} {z : Value} {size bytes : Nat} {ops : Array Oper} {o : Oper} {a : Act} {w : World} {K : Act → World → Prop} {Q : Exit → Act → World → Prop} {EE : Prop} (hgd : o.guard = none) (s x : Operand)
    (ho : o.op = .call { callee := .builtin .append, args := #[s, x], argTypes := #[t, t] }) (E : Elt P t e z size bytes) (base : Nat) (v u : Value) (n m : Nat) (xs cs : List Value)
    (hs : a.eval s = v) (hx : a.eval x = u) (hown : w.ownsRow base e size v n xs)
    (hsl : Sl w u m cs) (hl : cs.length = m * size) (h1 : ∀ c ∈ cs, c.oneCell' = true) (h63 : n + m ≤ maxLen) (hbytes : (n + m) * bytes ≤ 140737488355328) (hbase : base ≤ w.heap.size)
    (h : ∀ v' w', w'.ownsRow base e size v' (n + m) (xs ++ cs) → Frm (fun k => v.ownBlock = some k) w w' → (v'.ownBlock = v.ownBlock ∨ v'.ownBlock = some w.heap.size) → K (a.put o.dst v') w') :
    if Region.wanted o (yielded ops a.tmps) = true then Oper.wp P o a w K Q else EE := by
  rw [if_pos (by unfold Region.wanted; rw [hgd])]
  obtain ⟨v', w', hr, h2, h3, h4⟩ := run_append_sl E o.type base hown hsl hl h1 h63 hbytes hbase
  unfold Oper.wp execOp
  simp only [ho, resolve, invoke, builtin, Sem.run_bind, Sem.run_pure, Result.andThen_ok, List.map_toArray, List.map_cons, List.map_nil, hs, hx, hr]
  exact h v' w' h2 h3 h4
namespace Lr
section
variable {w w1 : World} {v : Value} {b : Nat} {l p q : PP} {k : ByteArray} {x : ByteArray × ByteArray} {S : Nat → Prop}
theorem pcs_len (l : PP) : (l.flatMap pc).length = l.length * 2 := by
  induction l with
  | nil => simp
  | cons b l ih => rw [List.flatMap_cons, List.length_append, ih, pc_len, List.length_cons, Nat.add_mul]; omega
theorem own_one (w : World) (x : ByteArray × ByteArray) : (w.alloc (.cells (pc x).toArray 56)).ownsRow w.heap.size 56 2 (.slice (some ⟨w.heap.size, 0, none⟩) 1 1) 1 (pc x) :=
  ⟨rfl, .inr ⟨w.heap.size, 1, (pc x).toArray, rfl, Nat.le_refl _, Bk.new w _, Nat.le_refl _, by decide, rfl, rfl⟩⟩
theorem Pr.init {g n c : Nat} {z : ByteArray × ByteArray} (h : Pr w b (.slice (some ⟨g, 0, none⟩) n c) (p ++ [z])) : Pr w b (.slice (some ⟨g, 0, none⟩) p.length c) p := by
  refine ⟨pcs_len p, .inr ?_⟩
  rcases h.2 with ⟨h1, _⟩ | ⟨g', cap, cur, e, h1, h2, h3, h4, h5, h6⟩
  · cases h1
  · cases e
    have hl : (p ++ [z]).length = p.length + 1 := by simp
    refine ⟨g, c, cur, rfl, h1, h2, by omega, h4, h5, ?_⟩
    have h7 := congrArg (List.take (p.length * 2)) h6
    rw [List.take_take, Nat.min_eq_left (Nat.mul_le_mul_right 2 (by omega)), List.flatMap_append, List.take_left' (pcs_len p)] at h7
    exact h7
theorem Pr.room {g n c : Nat} (h : Pr w b (.slice (some ⟨g, 0, none⟩) n c) l) : l.length ≤ c := by
  rcases h.2 with ⟨h1, _⟩ | ⟨g', cap, cur, e, h1, h2, h3, h4, h5, h6⟩
  · cases h1
  · cases e; exact h3
set_option maxHeartbeats 2000000 in
theorem rput_any (h : Pr w b v l) (hl : l.length ≤ 1000) (n : Int) (k x : ByteArray) : Calls Try.prog 33 #[v, .int .i64 n, .string k, .string x] w fun e w' => ∃ v', Frm0 w w' ∧
    ((((drp l k).length : Int) + 1 ≤ mostI n ∧ e = .returned (.tuple #[v', .string ⟨#[]⟩, .bool false]) ∧ Pr w' w.heap.size v' ((k, x) :: drp l k)) ∨
      (mostI n < ((drp l k).length : Int) + 1 ∧ ∃ p z, (k, x) :: drp l k = p ++ [z] ∧ e = .returned (.tuple #[v', .string z.1, .bool true]) ∧ Pr w' w.heap.size v' p)) := by
  have HH := Lib.hid h
  have hdl := drp_le l k
  have hal := (Frm.refl (fun _ => False) w).alloc (.cells #[.string k, .string x] 56)
  have hone := own_one w (k, x)
  unfold pc at hone
  clear h
  go_enter Try.func33, Try.ntmps33
  go_wp2_with fail
  refine (rdrop_any (HH.out.frm0 hal) hl).mono ?_
  rintro e w2 ⟨v2, rfl, hP2, hf2⟩
  have hone2 := owns_frm0 hone hf2
  have hD2 := hal.trans hf2
  clear hone hal hf2
  obtain ⟨rr, hrr⟩ : ∃ rr, drp l k = rr := ⟨_, rfl⟩
  rw [hrr] at hP2 hdl
  have HRR := Lib.hid hrr
  clear hrr
  go_upto_region 2 with (at_builtin; refine wpList_append_sl rfl (.tmp 15) (.tmp 18) rfl Epr w.heap.size _ v2 1 rr.length (pc (k, x)) (rr.flatMap pc) rfl rfl hone2 (Sl.of_own hP2) (pcs_len _) (pcs_one _) (by unfold maxLen; omega) (by omega) (by have := hD2.size; omega) ?_; intro v3 w3 hown3 hf3 hat3; rw [Nat.add_comm 1] at hown3; obtain ⟨g3, c3, rfl⟩ := owns_form hown3)
  have hD3 := hD2.then_ hf3 (fun i hi h => by have e : w.heap.size = i := Option.some.inj h; omega)
  have hP3 : Pr w3 w.heap.size (.slice (some ⟨g3, 0, none⟩) (rr.length + 1) c3) ((k, x) :: rr) := hown3
  have hc3 := hP3.room
  rw [List.length_cons] at hc3
  clear hown3 hf3 hat3 hone2 hP2 hD2
  go_wp2_with fail
  refine (most_any n _).mono ?_
  rintro e w4 ⟨rfl, rfl⟩
  obtain ⟨M, hMM⟩ : ∃ M, mostI n = M := ⟨_, rfl⟩
  rw [hMM]
  have HMM := Lib.hid hMM
  clear hMM
  by_cases hM : (rr.length : Int) + 1 ≤ M
  · go_wp2
    go_returns
    refine ⟨_, hD3, .inl ⟨?_, rfl, ?_⟩⟩
    · rw [HRR.out, HMM.out]; exact hM
    · rw [HRR.out]; exact hP3
  · obtain ⟨p, z, hpz⟩ : ∃ p z, (k, x) :: rr = p ++ [z] := ⟨_, _, (List.dropLast_concat_getLast (List.cons_ne_nil _ _)).symm⟩
    have hpl : rr.length = p.length := by have := congrArg List.length hpz; simp at this; exact this
    have HP3 := Lib.hid hP3
    rw [hpz] at hP3
    obtain ⟨g', c', e, z0, z1⟩ := hP3.at_
    obtain ⟨rfl, rfl⟩ : g3 = g' ∧ c3 = c' := by
      injection e with e1 e2 e3
      injection e1 with e1
      injection e1 with e1
      exact ⟨e1, e3⟩
    have HINI := Lib.hid hP3.init
    have HPL := Lib.hid hpl
    clear hP3 e
    rw [← hpl] at z0 z1
    have hwr : IntKind.i64.wrap (rr.length : Int) = rr.length := IntWalk.i64_in _ (by omega)
    clear hpl
    go_upto_region 3 with (fail)
    go_quiet (fail)
    go_wp2
    go_returns
    have HINI2 := HINI.out
    rw [← HPL.out] at HINI2
    refine ⟨_, hD3.drewN _, .inr ⟨by rw [HRR.out, HMM.out]; omega, p, z, by rw [HRR.out]; exact hpz, rfl, HINI2.frm0 ((Frm.refl _ _).drewN _)⟩⟩
end
end Lr
end Go.Proofs.Ythmhihmbciigdaa
