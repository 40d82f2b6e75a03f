/- The client's laws: awake, Small. -/
import Derived.Test.YteokiiolchpndaaClh
namespace Go.Proofs.Yteokiiolchpndaa
open Go.RowKit Go.ChangeShapes
set_option linter.unusedVariables false
set_option linter.unusedSimpArgs false
theorem cdeed_at {w : World} {b o : Nat} {l : List CDeed} (h : ∀ j u, (l.flatMap CDeed.cells)[j]? = some u → w.cell? ⟨b, o + j, none⟩ = some u) (k : Nat) (hk : k < l.length) :
    w.cell? ⟨b, o + k * 15, none⟩ = some (.bool ((l[k]).ask)) ∧ w.cell? ⟨b, o + k * 15 + 1, none⟩ = some (.bool ((l[k]).own)) ∧ w.cell? ⟨b, o + k * 15 + 2, none⟩ = some (.int .i64 ((l[k]).request.client)) ∧ w.cell? ⟨b, o + k * 15 + 3, none⟩ = some (.int .i64 ((l[k]).request.serial)) ∧ w.cell? ⟨b, o + k * 15 + 4, none⟩ = some (.int .i64 ((l[k]).request.tenant)) ∧ w.cell? ⟨b, o + k * 15 + 5, none⟩ = some (.string ((l[k]).request.key)) ∧ w.cell? ⟨b, o + k * 15 + 6, none⟩ = some (.string ((l[k]).request.method)) ∧ w.cell? ⟨b, o + k * 15 + 7, none⟩ = some (.string ((l[k]).request.path)) ∧ w.cell? ⟨b, o + k * 15 + 8, none⟩ = some (.string ((l[k]).request.body)) ∧ w.cell? ⟨b, o + k * 15 + 9, none⟩ = some (.int .i64 ((l[k]).answer.client)) ∧ w.cell? ⟨b, o + k * 15 + 10, none⟩ = some (.int .i64 ((l[k]).answer.serial)) ∧ w.cell? ⟨b, o + k * 15 + 11, none⟩ = some (.int .i64 ((l[k]).answer.status)) ∧ w.cell? ⟨b, o + k * 15 + 12, none⟩ = some (.string ((l[k]).answer.text)) ∧ w.cell? ⟨b, o + k * 15 + 13, none⟩ = some (.int .i64 ((l[k]).answer.after)) ∧ w.cell? ⟨b, o + k * 15 + 14, none⟩ = some (.int .i64 ((l[k]).answer.epoch)) := by
  have g : ∀ j, j < 15 → (l.flatMap CDeed.cells)[k * 15 + j]? = (l[k]).cells[j]? := fun j hj => flat_at CDeed.cells 15 CDeed.cells_len l k j l[k] (List.getElem?_eq_getElem hk) hj
  exact ⟨h _ _ (g 0 (by omega)), h _ _ (g 1 (by omega)), h _ _ (g 2 (by omega)), h _ _ (g 3 (by omega)), h _ _ (g 4 (by omega)), h _ _ (g 5 (by omega)), h _ _ (g 6 (by omega)), h _ _ (g 7 (by omega)), h _ _ (g 8 (by omega)), h _ _ (g 9 (by omega)), h _ _ (g 10 (by omega)), h _ _ (g 11 (by omega)), h _ _ (g 12 (by omega)), h _ _ (g 13 (by omega)), h _ _ (g 14 (by omega))⟩
/-- The cells of the deeds. -/
theorem cdeeds_at {w : World} {A : Option Addr} {l : List CDeed} {c : Nat} (hs : Sl w (.slice A l.length c) l.length (l.flatMap CDeed.cells)) (k : Nat) (hk : k < l.length) :
    ∃ b o, A = some ⟨b, o, none⟩ ∧ w.cell? ⟨b, o + k * 15, none⟩ = some (.bool ((l[k]).ask)) ∧ w.cell? ⟨b, o + k * 15 + 1, none⟩ = some (.bool ((l[k]).own)) ∧ w.cell? ⟨b, o + k * 15 + 2, none⟩ = some (.int .i64 ((l[k]).request.client)) ∧ w.cell? ⟨b, o + k * 15 + 3, none⟩ = some (.int .i64 ((l[k]).request.serial)) ∧ w.cell? ⟨b, o + k * 15 + 4, none⟩ = some (.int .i64 ((l[k]).request.tenant)) ∧ w.cell? ⟨b, o + k * 15 + 5, none⟩ = some (.string ((l[k]).request.key)) ∧ w.cell? ⟨b, o + k * 15 + 6, none⟩ = some (.string ((l[k]).request.method)) ∧ w.cell? ⟨b, o + k * 15 + 7, none⟩ = some (.string ((l[k]).request.path)) ∧ w.cell? ⟨b, o + k * 15 + 8, none⟩ = some (.string ((l[k]).request.body)) ∧ w.cell? ⟨b, o + k * 15 + 9, none⟩ = some (.int .i64 ((l[k]).answer.client)) ∧ w.cell? ⟨b, o + k * 15 + 10, none⟩ = some (.int .i64 ((l[k]).answer.serial)) ∧ w.cell? ⟨b, o + k * 15 + 11, none⟩ = some (.int .i64 ((l[k]).answer.status)) ∧ w.cell? ⟨b, o + k * 15 + 12, none⟩ = some (.string ((l[k]).answer.text)) ∧ w.cell? ⟨b, o + k * 15 + 13, none⟩ = some (.int .i64 ((l[k]).answer.after)) ∧ w.cell? ⟨b, o + k * 15 + 14, none⟩ = some (.int .i64 ((l[k]).answer.epoch)) := by
  rcases hs with ⟨A', c', _, hn, _⟩ | ⟨b, o, c', he, h0, h1, h2, h3, h4⟩
  · omega
  · cases he
    exact ⟨b, o, rfl, cdeed_at h4 k hk⟩
theorem open_nil (w : World) : Calls Try.prog 41 #[.pointer none] w fun e w' => e = .returned (.slice none 0 0) ∧ w = w' := by
  go_enter Try.func41, Try.ntmps41
  go_wp2_with fail
  go_loop [3, 4] (fun u i => u = .slice none 0 0 ∧ i = .int .i64 1) (fun _ _ => 0)
  case atStart => exact ⟨rfl, rfl⟩
  case round =>
    obtain ⟨rfl, rfl⟩ := hrel
    go_wp2_with fail
    refine (last_nil _).mono ?_
    rintro e w' ⟨rfl, rfl⟩
    go_wp2
    go_ret
    exact ⟨rfl, rfl⟩
theorem eq_rq (a : Rq) (w : World) : (binOp .eql 84 (rqV a) (rqV a)).run Try.prog w = .ok (.bool true) w := by
  unfold rqV
  rw [run_eql_struct]
  simp [go_sem]
theorem ne_rq (a : Rq) (w : World) : (binOp .neq 84 (rqV a) (rqV a)).run Try.prog w = .ok (.bool false) w := by
  unfold rqV
  rw [run_neq_struct]
  simp [go_sem]
theorem eq_an (a : An) (w : World) : (binOp .eql 86 (anV a) (anV a)).run Try.prog w = .ok (.bool true) w := by
  unfold anV
  rw [run_eql_struct]
  simp [go_sem]
theorem ne_an (a : An) (w : World) : (binOp .neq 86 (anV a) (anV a)).run Try.prog w = .ok (.bool false) w := by
  unfold anV
  rw [run_neq_struct]
  simp [go_sem]
def SmallP (l : List CDeed) (w : World) (e : Ending) (w' : World) : Prop := ∃ b, e = .returned (.bool b) ∧ (b = true → l.length ≤ 60) ∧ Frm0 w w'
set_option maxHeartbeats 1000000 in
set_option maxRecDepth 100000 in
theorem small_any (v : Value) (l : List CDeed) (w : World) (hs : Sl w v l.length (l.flatMap CDeed.cells)) (hg : ∀ a ∈ l, CDeed.Good a) :
    Calls Try.prog 35 #[v] w (SmallP l w) := by
  have hlen := hs.len
  obtain ⟨A, c, rfl⟩ := hs.form
  have HC := Lib.hid (fun k hk => cdeeds_at hs k hk)
  clear hs
  by_cases h60 : 60 < l.length
  · have d1 : decide ((60 : Int) < (l.length : Int)) = true := decide_eq_true (by omega)
    go_enter Try.func35, Try.ntmps35
    go_wp2
    go_ret
    exact ⟨_, rfl, (fun h => by cases h), Frm.refl _ _⟩
  · have d1 : decide ((60 : Int) < (l.length : Int)) = false := decide_eq_false (by omega)
    go_enter Try.func35, Try.ntmps35
    go_wp2_with fail
    go_loopw [11] (fun i wr => ∃ (k : Nat), k ≤ l.length ∧ i = .int .i64 k ∧ Frm0 w wr) (fun i _ => l.length - (intOf i).toNat)
    case atStart => exact ⟨0, by omega, rfl, Frm.refl _ _⟩
    case round =>
      obtain ⟨k, hk, rfl, hF⟩ := hrel
      by_cases hlt : k < l.length
      · obtain ⟨b, o, rfl, c0, c1, c2, c3, c4, c5, c6, c7, c8, c9, c10, c11, c12, c13, c14⟩ := HC.out k hlt
        have hgk := hg _ (List.getElem_mem hlt)
        have s3 := hgk.request.key
        have s4 := hgk.request.method
        have s5 := hgk.request.path
        have s6 := hgk.request.body
        have s10 := hgk.answer.text
        unfold maxLen at s3 s4 s5 s6 s10
        clear hgk
        generalize l[k] = d at *
        obtain ⟨k0, k1, ⟨x0, x1, x2, x3, x4, x5, x6⟩, ⟨z0, z1, z2, z3, z4, z5⟩⟩ := d
        simp only at c0 c1 c2 c3 c4 c5 c6 c7 c8 c9 c10 c11 c12 c13 c14 s3 s4 s5 s6 s10
        have c0 := hF.cell c0 (fun h => h)
        have c1 := hF.cell c1 (fun h => h)
        have c2 := hF.cell c2 (fun h => h)
        have c3 := hF.cell c3 (fun h => h)
        have c4 := hF.cell c4 (fun h => h)
        have c5 := hF.cell c5 (fun h => h)
        have c6 := hF.cell c6 (fun h => h)
        have c7 := hF.cell c7 (fun h => h)
        have c8 := hF.cell c8 (fun h => h)
        have c9 := hF.cell c9 (fun h => h)
        have c10 := hF.cell c10 (fun h => h)
        have c11 := hF.cell c11 (fun h => h)
        have c12 := hF.cell c12 (fun h => h)
        have c13 := hF.cell c13 (fun h => h)
        have c14 := hF.cell c14 (fun h => h)
        have hl2 : l.length ≤ 60 := by omega
        go_wp2
        all_goals first
          | (go_ret; exact ⟨_, rfl, fun _ => hl2, (hF.alloc _).alloc _⟩)
          | (go_roundw
             case rel => exact ⟨k + 1, by omega, by go_num, (hF.alloc _).alloc _⟩
             case measure => simp [intOf]; omega)
      · obtain rfl : k = l.length := by omega
        go_wp2
        go_ret
        exact ⟨_, rfl, fun _ => by omega, hF⟩
end Go.Proofs.Yteokiiolchpndaa
