/- The client's laws: awake. -/
import Derived.Test.YteokiiolchpndaaCli
namespace Go.Proofs.Yteokiiolchpndaa
open Go.RowKit Go.ChangeShapes
set_option linter.unusedVariables false
set_option linter.unusedSimpArgs false
theorem ask_to {w : World} {cb : Nat} {id : Int} {v : Value} {ls : List Ln} {r r' : Rq} (h : Cl w cb id v ls) (hl : ls.length ≤ 900) (hr : asks id ls r = r') :
    Calls Try.prog 37 #[.pointer (some ⟨cb, 0, none⟩), rqV r] w fun e w' => ∃ v', e = .returned (.tuple #[rqV r', .int .i64 0]) ∧ Cl w' cb id v' (ls ++ [⟨r', none⟩]) ∧ (∀ k, v'.ownBlock = some k → v.ownBlock = some k ∨ w.heap.size ≤ k) ∧ Frm (fun k => k = cb ∨ v.ownBlock = some k) w w' := hr ▸ ask_any r h hl
theorem hear_to {w : World} {cb : Nat} {id : Int} {v : Value} {ls : List Ln} {y : An} {b : Bool} {vs : List Vw} (h : Cl w cb id v ls) (hl : ls.length ≤ 1000000) (hb : vHear id (vw ls) y = b) (hv : vHeard id (vw ls) y = vs) :
    Calls Try.prog 39 #[.pointer (some ⟨cb, 0, none⟩), anV y] w fun e w' => ∃ ls', e = .returned (.bool b) ∧ Cl w' cb id v ls' ∧ vw ls' = vs ∧ ls'.length = ls.length ∧ (∀ k, Ln.own ls' k → Ln.own ls k ∨ w.heap.size ≤ k) ∧ Frm (fun j => v.ownBlock = some j) w w' := by
  subst hb hv
  exact hear_any y h hl
theorem open_to {w : World} {cb : Nat} {id : Int} {v : Value} {ls : List Ln} {os : List Int} (h : Cl w cb id v ls) (hl : ls.length ≤ 900) (ho : opensTo (vw ls) ls.length = os) :
    Calls Try.prog 41 #[.pointer (some ⟨cb, 0, none⟩)] w fun e w' => ∃ u, e = .returned u ∧ w'.ownsRow w.heap.size 3 1 u os.length (wints os) ∧ Frm0 w w' := by
  subst ho
  exact open_any h hl
theorem last_to {w : World} {cb : Nat} {id : Int} {v : Value} {ls : List Ln} {n : Nat} (h : Cl w cb id v ls) (hn : ls.length = n) :
    Calls Try.prog 43 #[.pointer (some ⟨cb, 0, none⟩)] w fun e w' => e = .returned (.int .i64 n) ∧ w = w' := by
  subst hn
  exact last_any h
def lnK : Rq := ⟨7, 1, 0, ⟨#[107]⟩, ⟨#[]⟩, ⟨#[]⟩, ⟨#[]⟩⟩
def lnE : Rq := ⟨7, 2, 0, ⟨#[]⟩, ⟨#[]⟩, ⟨#[]⟩, ⟨#[]⟩⟩
theorem Cl.outs {w0 w w1 : World} {cb : Nat} {id : Int} {v : Value} {ls : List Ln} (h : Cl w cb id v ls) (hF : Frm0 w0 w) (hbb : w0.heap.size ≤ cb) (hf : Frm (fun k => k = cb ∨ v.ownBlock = some k) w w1) : Frm0 w0 w1 :=
  hF.then_ hf (fun i hi e => by
    rcases e with e | e
    · omega
    · have := h.own i e; omega)
set_option maxHeartbeats 1000000 in
set_option maxRecDepth 100000 in
theorem clawake (w : World) : Calls Try.prog 34 #[] w fun e w' => e = .returned (.bool true) ∧ Frm0 w w' := by
  have E1 := Lib.hid (fun w => eq_rq lnK w)
  unfold rqV lnK at E1
  simp only at E1
  have HA1 := Lib.hid (fun (w : World) (v : Value) (cb : Nat) (h : Cl w cb 7 v []) => ask_to (r := ⟨0, 0, 0, ⟨#[107]⟩, ⟨#[]⟩, ⟨#[]⟩, ⟨#[]⟩⟩) (r' := lnK) h (by simp) rfl)
  have HA2 := Lib.hid (fun (w : World) (v : Value) (cb : Nat) (h : Cl w cb 7 v ([] ++ [⟨lnK, none⟩])) => ask_to (r := rq0) (r' := lnE) h (by simp) rfl)
  unfold rqV lnK lnE rq0 at HA2
  unfold rqV lnK at HA1
  simp only at HA1 HA2
  have HA3 := Lib.hid (fun (w : World) (v : Value) (cb : Nat) (h : Cl w cb 7 v ([] ++ [⟨lnK, none⟩] ++ [⟨lnE, none⟩])) => hear_to (y := ⟨7, 2, 200, ⟨#[]⟩, 0, 0⟩) (b := true) (vs := [(lnK, none), (lnE, some ⟨7, 2, 200, ⟨#[]⟩, 0, 0⟩)]) h (by simp) rfl rfl)
  unfold anV at HA3
  simp only at HA3
  go_enter Try.func34, Try.ntmps34
  go_wp2_with fail
  refine (cnew_any 7 _).mono ?_
  rintro e w1 ⟨rfl, h1, hf1⟩
  go_wp2_with fail
  refine (HA1.out _ _ _ h1).mono ?_
  rintro e w2 ⟨v2, rfl, h2, hm2, hf2⟩
  have hF2 := h1.outs hf1 (Nat.le_refl _) hf2
  have hB2 := Bk.new w2 (.cells #[.int .i64 7, .int .i64 1, .int .i64 0, .string ⟨#[107]⟩, .string ⟨#[]⟩, .string ⟨#[]⟩, .string ⟨#[]⟩] 84)
  have h2a := h2.frm0 ((Frm.refl _ w2).alloc (.cells #[.int .i64 7, .int .i64 1, .int .i64 0, .string ⟨#[107]⟩, .string ⟨#[]⟩, .string ⟨#[]⟩, .string ⟨#[]⟩] 84))
  have hF2a := hF2.alloc (.cells #[.int .i64 7, .int .i64 1, .int .i64 0, .string ⟨#[107]⟩, .string ⟨#[]⟩, .string ⟨#[]⟩, .string ⟨#[]⟩] 84)
  have hlt2 := h2.lt
  have hown2 := h2.own
  go_wp2_with fail
  refine (HA2.out _ _ _ h2a).mono ?_
  rintro e w3 ⟨v3, rfl, h3, hm3, hf3⟩
  have hF3 := h2a.outs hF2a (Nat.le_refl _) hf3
  have hB3 := hf3.blk hB2 (fun e => by
    rcases e with e | e
    · omega
    · have := (hown2 _ e).2; omega)
  have hz3 := hf3.size
  go_wp2_with fail
  refine (HA3.out _ _ _ h3).mono ?_
  rintro e w4 ⟨ls4, rfl, h4, hv4, hl4, ho4, hf4⟩
  have hF4 := h3.outs hF3 (Nat.le_refl _) (hf4.mono (fun i _ e => .inr e))
  have hl4 : ls4.length = 2 := by rw [hl4]; rfl
  have hB4 := hf4.blk hB3 (fun e => by
    rcases hm3 _ e with e | e
    · have := (hown2 _ e).2; omega
    · simp at e; omega)
  have hO4 := Lib.hid (open_to (os := [1]) h4 (by omega) (by rw [hv4, hl4]; rfl))
  go_wp2_with fail
  refine hO4.out.mono ?_
  rintro e w5 ⟨u, rfl, hu, hf5⟩
  have h5 := h4.frm0 hf5
  have hF5 := hF4.trans hf5
  have hB5 := hf5.blk hB4 (fun h => h)
  obtain ⟨q0, q1, q2, q3, q4, q5, q6⟩ := Bk.c7 hB5
  obtain ⟨g, cap, rfl⟩ := owns_form hu
  have cu : w5.cell? ⟨g, 0, none⟩ = some (.int .i64 1) := by rw [hu.cellAt 0 (by decide)]; rfl
  have hLL := Lib.hid (fun w' (h : Cl w' w.heap.size 7 v3 ls4) => last_to h hl4)
  clear hl4 hv4 ho4 hB2 hB3 hB4
  go_wp2_with fail
  refine (hLL.out _ h5).mono ?_
  rintro e w6 ⟨rfl, rfl⟩
  go_wp2
  go_ret
  exact ⟨rfl, hF5⟩
end Go.Proofs.Yteokiiolchpndaa
