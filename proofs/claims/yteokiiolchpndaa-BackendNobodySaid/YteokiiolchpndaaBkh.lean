/- Backend: the reference's Met and Same. -/
import Derived.Test.YteokiiolchpndaaBkd
namespace Go.Proofs.Yteokiiolchpndaa
open Go.RowKit Go.ChangeShapes Go.WideShapes Go.Maps
set_option linter.unusedVariables false
set_option linter.unusedSimpArgs false
set_option maxRecDepth 100000
namespace Bk25
theorem eff_range {w : World} {b o : Nat} {l : List Ca} (h : ∀ j u, (l.flatMap Ca.cells)[j]? = some u → w.cell? ⟨b, o + j, none⟩ = some u) (k : Nat) (hk : k < l.length) : w.rangeAt b (o + k * 7) (l[k]).cells := fun j u hu => by
  have hj : j < 7 := (List.getElem?_eq_some_iff.1 hu).1
  have := h (k * 7 + j) u (by rw [flat_at' Ca.cells 7 (fun _ => rfl) l k j l[k] (List.getElem?_eq_getElem hk) hj]; exact hu)
  rwa [← Nat.add_assoc] at this
theorem met_take (l : List Ca) (k : Nat) (hk : k < l.length) (t : Int) (ky : ByteArray) (e p : Int) : met (l.take (k + 1)) t ky e p = (met (l.take k) t ky e p || decide ((l[k]).tenant = t ∧ (l[k]).key = ky ∧ (l[k]).epoch = e ∧ (l[k]).phase = p)) := by
  unfold met
  rw [List.take_add_one, List.getElem?_eq_getElem hk, List.any_append]
  simp
theorem met_hit (l : List Ca) (k : Nat) (hk : k < l.length) (t : Int) (ky : ByteArray) (e p : Int) (h : (l[k]).tenant = t ∧ (l[k]).key = ky ∧ (l[k]).epoch = e ∧ (l[k]).phase = p) : met l t ky e p = true := by
  unfold met
  rw [List.any_eq_true]
  exact ⟨l[k], List.getElem_mem hk, decide_eq_true h⟩
set_option maxHeartbeats 2000000 in
theorem met_any (l : List Ca) (v : Value) (w : World) (t : Int) (ky : ByteArray) (e p : Int) (hs : Sl w v l.length (l.flatMap Ca.cells)) :
    Calls Try.prog 17 #[v, .int .i64 t, .string ky, .int .i64 e, .int .i64 p] w fun e_ w' => e_ = .returned (.bool (met l t ky e p)) ∧ Frm0 w w' := by
  have hlen := hs.len
  have hcell : ∀ k (hk : k < l.length), ∃ b o c, v = .slice (some ⟨b, o, none⟩) l.length c ∧ w.rangeAt b (o + k * 7) (l[k]).cells := by
    intro k hk
    rcases hs with ⟨A, c, rfl, hn, _⟩ | ⟨b, o, c, rfl, h0, h1, h2, _, hc⟩
    · omega
    · exact ⟨b, o, c, rfl, eff_range hc k hk⟩
  obtain ⟨A, cp, rfl⟩ := hs.form
  have HC := Lib.hid hcell
  have HR := Lib.hid (show ∀ b, met l t ky e p = b → Ending.returned (.bool (met l t ky e p)) = .returned (.bool b) from fun b h => by rw [h])
  clear hcell hs
  go_enter Try.func17, Try.ntmps17
  go_wp2_with fail
  go_loopw [11] (fun i wr => ∃ (k : Nat), k ≤ l.length ∧ i = .int .i64 k ∧ Hid (met (l.take k) t ky e p = false) ∧ Frm0 w wr) (fun i _ => l.length - (intOf i).toNat)
  case atStart => exact ⟨0, by omega, rfl, rfl, Frm.refl _ _⟩
  case round =>
    obtain ⟨k, hk, rfl, hm, hF⟩ := hrel
    by_cases hlt : k < l.length
    · obtain ⟨b, o, c0, he, hr⟩ := HC.out k hlt
      cases he
      have c0 : wr.cell? ⟨b, o + k * 7, none⟩ = some (.int .i64 (l[k]).tenant) := hF.cell (hr 0 _ rfl) (fun h => h)
      have c1 := hF.cell (hr 1 _ rfl) (fun h => h)
      have c2 := hF.cell (hr 2 _ rfl) (fun h => h)
      have c3 := hF.cell (hr 3 _ rfl) (fun h => h)
      have c4 := hF.cell (hr 4 _ rfl) (fun h => h)
      have c5 := hF.cell (hr 5 _ rfl) (fun h => h)
      have c6 := hF.cell (hr 6 _ rfl) (fun h => h)
      have HMT := Lib.hid (met_take l k hlt t ky e p)
      have HMH := Lib.hid (met_hit l k hlt t ky e p)
      rw [hm.out] at HMT
      have HMT := Lib.hid HMT.out
      clear hr hm
      generalize (l[k]).tenant = dt at *
      generalize (l[k]).key = dk at *
      generalize (l[k]).epoch = de at *
      generalize (l[k]).phase = dph at *
      generalize (l[k]).token = dtok at *
      generalize (l[k]).name = dnm at *
      generalize (l[k]).body = dbd at *
      by_cases h1 : dt = t
      · subst h1
        by_cases h2 : dk = ky
        · subst h2
          by_cases h3 : de = e
          · subst h3
            by_cases h4 : dph = p
            · subst h4
              go_wp2_with fail
              go_ret
              exact ⟨(HR.out true (HMH.out (by simp))).symm, hF.alloc _⟩
            · have d1 : (dph == p) = false := beq_eq_false_iff_ne.2 h4
              go_wp2_with fail
              go_roundw
              case rel => exact ⟨k + 1, by omega, by go_num, by unfold Hid; rw [HMT.out]; simp [h4], hF.alloc _⟩
              case measure => simp [intOf]; omega
          · have d1 : (de == e) = false := beq_eq_false_iff_ne.2 h3
            go_wp2_with fail
            go_roundw
            case rel => exact ⟨k + 1, by omega, by go_num, by unfold Hid; rw [HMT.out]; simp [h3], hF.alloc _⟩
            case measure => simp [intOf]; omega
        · have d1 := str_ne h2
          go_wp2_with fail
          go_roundw
          case rel => exact ⟨k + 1, by omega, by go_num, by unfold Hid; rw [HMT.out]; simp [h2], hF.alloc _⟩
          case measure => simp [intOf]; omega
      · have d1 : (dt == t) = false := beq_eq_false_iff_ne.2 h1
        go_wp2_with fail
        go_roundw
        case rel => exact ⟨k + 1, by omega, by go_num, by unfold Hid; rw [HMT.out]; simp [h1], hF.alloc _⟩
        case measure => simp [intOf]; omega
    · obtain rfl : k = l.length := by omega
      rw [List.take_length] at hm
      have HM := Lib.hid hm.out
      go_wp2_with fail
      go_ret
      exact ⟨(HR.out false HM.out).symm, hF⟩
theorem ne_ca (c : Ca) (w : World) : (binOp .neq 37 (.agg #[.int .i64 c.tenant, .string c.key, .int .i64 c.epoch, .int .i64 c.phase, .int .i64 c.token, .string c.name, .string c.body]) (.agg #[.int .i64 c.tenant, .string c.key, .int .i64 c.epoch, .int .i64 c.phase, .int .i64 c.token, .string c.name, .string c.body])).run Try.prog w = .ok (.bool false) w := by
  rw [run_neq_struct]
  simp [go_sem]
set_option maxHeartbeats 2000000 in
theorem same_any (l : List Ca) (v u : Value) (w : World) (hs : Sl w v l.length (l.flatMap Ca.cells)) (hu : Sl w u l.length (l.flatMap Ca.cells)) :
    Calls Try.prog 16 #[v, u] w fun e_ w' => e_ = .returned (.bool true) ∧ Frm0 w w' := by
  have hlen := hs.len
  have hcell : ∀ k (hk : k < l.length), ∃ b o c, v = .slice (some ⟨b, o, none⟩) l.length c ∧ w.rangeAt b (o + k * 7) (l[k]).cells := by
    intro k hk
    rcases hs with ⟨A, c, rfl, hn, _⟩ | ⟨b, o, c, rfl, h0, h1, h2, _, hc⟩
    · omega
    · exact ⟨b, o, c, rfl, eff_range hc k hk⟩
  have hcell2 : ∀ k (hk : k < l.length), ∃ b o c, u = .slice (some ⟨b, o, none⟩) l.length c ∧ w.rangeAt b (o + k * 7) (l[k]).cells := by
    intro k hk
    rcases hu with ⟨A, c, rfl, hn, _⟩ | ⟨b, o, c, rfl, h0, h1, h2, _, hc⟩
    · omega
    · exact ⟨b, o, c, rfl, eff_range hc k hk⟩
  obtain ⟨A, cp, rfl⟩ := hs.form
  obtain ⟨A2, cp2, rfl⟩ := hu.form
  have HC := Lib.hid hcell
  have HC2 := Lib.hid hcell2
  clear hcell hcell2 hs hu
  go_enter Try.func16, Try.ntmps16
  go_wp2_with fail
  go_loopw [5] (fun i wr => ∃ (k : Nat), k ≤ l.length ∧ i = .int .i64 k ∧ Frm0 w wr) (fun i _ => l.length - (intOf i).toNat)
  case atStart => exact ⟨0, by omega, rfl, Frm.refl _ _⟩
  case round =>
    obtain ⟨k, hk, rfl, hF⟩ := hrel
    by_cases hlt : k < l.length
    · obtain ⟨b, o, c0, he, hr⟩ := HC.out k hlt
      cases he
      obtain ⟨b2, o2, c02, he2, hr2⟩ := HC2.out k hlt
      cases he2
      have hki : (k : Int) < (l.length : Int) := by omega
      have c0 : wr.cell? ⟨b, o + k * 7, none⟩ = some (.int .i64 (l[k]).tenant) := hF.cell (hr 0 _ rfl) (fun h => h)
      have c1 := hF.cell (hr 1 _ rfl) (fun h => h)
      have c2 := hF.cell (hr 2 _ rfl) (fun h => h)
      have c3 := hF.cell (hr 3 _ rfl) (fun h => h)
      have c4 := hF.cell (hr 4 _ rfl) (fun h => h)
      have c5 := hF.cell (hr 5 _ rfl) (fun h => h)
      have c6 := hF.cell (hr 6 _ rfl) (fun h => h)
      have d0 : wr.cell? ⟨b2, o2 + k * 7, none⟩ = some (.int .i64 (l[k]).tenant) := hF.cell (hr2 0 _ rfl) (fun h => h)
      have d1 := hF.cell (hr2 1 _ rfl) (fun h => h)
      have d2 := hF.cell (hr2 2 _ rfl) (fun h => h)
      have d3 := hF.cell (hr2 3 _ rfl) (fun h => h)
      have d4 := hF.cell (hr2 4 _ rfl) (fun h => h)
      have d5 := hF.cell (hr2 5 _ rfl) (fun h => h)
      have d6 := hF.cell (hr2 6 _ rfl) (fun h => h)
      have hne := fun w => ne_ca l[k] w
      clear hr hr2
      generalize l[k] = d at *
      go_wp2_with fail
      go_quiet (fail)
      go_wp2_with fail
      go_roundw
      case rel =>
        first
          | exact ⟨k + 1, by omega, by go_num, hF.drewN _⟩
          | ((repeat apply Exists.intro); refine And.intro ?_ rfl; exact ⟨k + 1, by omega, by go_num, hF.drewN _⟩)
      case measure => simp [intOf]; omega
    · obtain rfl : k = l.length := by omega
      go_wp2_with fail
      go_ret
      exact ⟨rfl, hF⟩
end Bk25
end Go.Proofs.Yteokiiolchpndaa
