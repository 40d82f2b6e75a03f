/- Backend: the reference's state, and its At. -/
import Derived.Test.YteokiiolchpndaaBkh
namespace Go.Proofs.Yteokiiolchpndaa
open Go.RowKit Go.ChangeShapes Go.WideShapes Go.Maps
set_option linter.unusedVariables false
set_option linter.unusedSimpArgs false
set_option maxRecDepth 100000
namespace Bk25
def Lf.cells (x : Lf) : List Value := [.int .i64 x.t, .string x.k, .int .i64 x.e, .int .i64 x.tok, .bool x.sp]
/-- The reference's backend. -/
structure Rb (w : World) (rb : Nat) (v1 v2 : Value) (s : St) : Prop where
  blk : w.heap[rb]? = some (.cells #[v1, v2, .int .i64 s.later] 44 (0, 0))
  r1 : w.ownsRow (rb + 1) 51 5 v1 s.ls.length (s.ls.flatMap Lf.cells)
  r2 : w.ownsRow (rb + 1) 37 7 v2 s.ef.length (s.ef.flatMap Ca.cells)
  sep : ∀ k, v1.ownBlock = some k → v2.ownBlock ≠ some k
section
variable {w w1 : World} {rb : Nat} {v1 v2 : Value} {s : St} {S : Nat → Prop}
def rfp (rb : Nat) (v1 v2 : Value) (k : Nat) : Prop := k = rb ∨ v1.ownBlock = some k ∨ v2.ownBlock = some k
theorem Rb.frm (h : Rb w rb v1 v2 s) (hf : Frm S w w1) (hs : ∀ k, rfp rb v1 v2 k → ¬ S k) : Rb w1 rb v1 v2 s :=
  ⟨hf.blk h.blk (hs _ (.inl rfl)), owns_frm h.r1 hf (fun g hg => hs g (.inr (.inl hg))), owns_frm h.r2 hf (fun g hg => hs g (.inr (.inr hg))), h.sep⟩
theorem Rb.frm0 (h : Rb w rb v1 v2 s) (hf : Frm0 w w1) : Rb w1 rb v1 v2 s := h.frm hf (fun _ _ h => h)
end
theorem idx_take (ls : List Lf) (t : Int) (ky : ByteArray) (e : Int) (k : Nat) (hk : k < ls.length) (hn : ∀ j (h : j < k), ¬ (ls[j]'(by omega)).is t ky e) (hy : (ls[k]).is t ky e) : idx ls t ky e = k := by
  induction ls generalizing k with
  | nil => exact absurd hk (Nat.not_lt_zero _)
  | cons x r ih =>
    unfold idx
    cases k with
    | zero => rw [if_pos (by simpa using hy)]
    | succ k =>
      have h0 := hn 0 (by omega)
      simp only [List.getElem_cons_zero] at h0
      rw [if_neg h0, ih k (by simpa using hk) (fun j hj => by have := hn (j + 1) (by omega); simpa using this) (by simpa using hy)]
theorem idx_none (ls : List Lf) (t : Int) (ky : ByteArray) (e : Int) (hn : ∀ j (h : j < ls.length), ¬ (ls[j]).is t ky e) : idx ls t ky e = ls.length := by
  induction ls with
  | nil => rfl
  | cons x r ih =>
    unfold idx
    have h0 := hn 0 (by simp)
    simp only [List.getElem_cons_zero] at h0
    rw [if_neg h0, ih (fun j hj => by have := hn (j + 1) (by simpa using hj); simpa using this)]
    rfl
/-- The place that At tells. -/
def place (ls : List Lf) (t : Int) (ky : ByteArray) (e : Int) : Int := if idx ls t ky e < ls.length then (idx ls t ky e : Int) else -1
set_option maxHeartbeats 2000000 in
theorem at_any {w : World} {rb : Nat} {v1 v2 : Value} {s : St} (h : Rb w rb v1 v2 s) (t : Int) (ky : ByteArray) (e : Int) :
    Calls Try.prog 21 #[.pointer (some ⟨rb, 0, none⟩), .int .i64 t, .string ky, .int .i64 e] w fun e_ w' => e_ = .returned (.int .i64 (place s.ls t ky e)) ∧ Frm0 w w' := by
  have hs := Sl.of_own h.r1
  have hlen := hs.len
  have hcell : ∀ k (hk : k < s.ls.length), ∃ b c, v1 = .slice (some ⟨b, 0, none⟩) s.ls.length c ∧ w.rangeAt b (k * 5) (s.ls[k]).cells := by
    intro k hk
    rcases h.r1.2 with ⟨rfl, h0⟩ | ⟨g, cap, cur, rfl, _⟩
    · omega
    · exact ⟨g, cap, rfl, owns_range (f := Lf.cells) (l := s.ls) h.r1 (fun _ => rfl) rfl k hk⟩
  obtain ⟨b0, b1, b2⟩ := Bk.c3 h.blk
  obtain ⟨A, cp, rfl⟩ := owns_nil_form' h.r1
  have HC := Lib.hid hcell
  have HR := Lib.hid (show ∀ b, place s.ls t ky e = b → Ending.returned (.int .i64 (place s.ls t ky e)) = .returned (.int .i64 b) from fun b h => by rw [h])
  clear hcell hs h
  generalize s.ls = l at *
  go_enter Try.func21, Try.ntmps21
  go_wp2_with fail
  go_loopw [9] (fun i wr => ∃ (k : Nat), k ≤ l.length ∧ i = .int .i64 k ∧ Hid (∀ j (h : j < k) (h2 : j < l.length), ¬ (l[j]).is t ky e) ∧ Frm0 w wr) (fun i _ => l.length - (intOf i).toNat)
  case atStart => exact ⟨0, by omega, rfl, fun j h => absurd h (Nat.not_lt_zero _), Frm.refl _ _⟩
  case round =>
    obtain ⟨k, hk, rfl, hm, hF⟩ := hrel
    have b0 := hF.cell b0 (fun h => h)
    by_cases hlt : k < l.length
    · obtain ⟨b, c0, he, hr⟩ := HC.out k hlt
      cases he
      have c0 : wr.cell? ⟨b, k * 5, none⟩ = some (.int .i64 (l[k]).t) := hF.cell (hr 0 _ rfl) (fun h => h)
      have c1 := hF.cell (hr 1 _ rfl) (fun h => h)
      have c2 := hF.cell (hr 2 _ rfl) (fun h => h)
      have c3 := hF.cell (hr 3 _ rfl) (fun h => h)
      have c4 := hF.cell (hr 4 _ rfl) (fun h => h)
      have HM := Lib.hid hm.out
      have HIS := Lib.hid (show (l[k]).is t ky e ↔ ((l[k]).t = t ∧ (l[k]).k = ky ∧ (l[k]).e = e) from Iff.rfl)
      have HI := Lib.hid (fun hy => idx_take l t ky e k hlt (fun j hj => hm.out j hj (by omega)) hy)
      have HN := Lib.hid (show ¬ (l[k]).is t ky e → ∀ j (h : j < k + 1) (h2 : j < l.length), ¬ (l[j]).is t ky e from fun hn j hj h2 => by
        by_cases hjk : j < k
        · exact hm.out j hjk h2
        · obtain rfl : j = k := by omega
          exact hn)
      clear hr hm
      generalize (l[k]).t = dt at *
      generalize (l[k]).k = dk at *
      generalize (l[k]).e = de at *
      generalize (l[k]).tok = dtok at *
      generalize (l[k]).sp = dsp at *
      by_cases h1 : dt = t
      · subst h1
        by_cases h2 : dk = ky
        · subst h2
          by_cases h3 : de = e
          · subst h3
            have hI := HI.out (HIS.out.2 ⟨rfl, rfl, rfl⟩)
            have HII := Lib.hid (show place l dt dk de = (k : Int) by unfold place; rw [hI, if_pos hlt])
            clear hI
            go_wp2_with fail
            go_ret
            exact ⟨(HR.out _ HII.out).symm, hF.alloc _⟩
          · have d1 : (de == e) = false := beq_eq_false_iff_ne.2 h3
            have hn := HN.out (fun h => h3 (HIS.out.1 h).2.2)
            have HNN := Lib.hid hn
            clear hn
            go_wp2_with fail
            go_roundw
            case rel => exact ⟨k + 1, by omega, by go_num, HNN.out, hF.alloc _⟩
            case measure => simp [intOf]; omega
        · have d1 := str_ne h2
          have hn := HN.out (fun h => h2 (HIS.out.1 h).2.1)
          have HNN := Lib.hid hn
          clear hn
          go_wp2_with fail
          go_roundw
          case rel => exact ⟨k + 1, by omega, by go_num, HNN.out, hF.alloc _⟩
          case measure => simp [intOf]; omega
      · have d1 : (dt == t) = false := beq_eq_false_iff_ne.2 h1
        have hn := HN.out (fun h => h1 (HIS.out.1 h).1)
        have HNN := Lib.hid hn
        clear hn
        go_wp2_with fail
        go_roundw
        case rel => exact ⟨k + 1, by omega, by go_num, HNN.out, hF.alloc _⟩
        case measure => simp [intOf]; omega
    · obtain rfl : k = l.length := by omega
      have HII := Lib.hid (show place l t ky e = -1 by unfold place; rw [idx_none l t ky e (fun j hj => hm.out j hj hj), if_neg (Nat.lt_irrefl _)])
      clear hm
      go_wp2_with fail
      go_ret
      exact ⟨(HR.out _ HII.out).symm, hF⟩
end Bk25
end Go.Proofs.Yteokiiolchpndaa
