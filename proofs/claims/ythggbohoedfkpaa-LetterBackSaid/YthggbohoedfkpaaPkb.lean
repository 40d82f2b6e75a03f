/- Packed numbers: contract of the packer's Num. -/
import Derived.Test.YthggbohoedfkpaaPka
namespace Go.Proofs.Ythggbohoedfkpaa
open Go.RowKit
set_option linter.unusedVariables false
set_option linter.unusedSimpArgs false
set_option maxRecDepth 100000
namespace Pk
theorem pow7 (k : Nat) : (2 : Nat) ^ (7 * k) = 128 ^ k := by rw [Nat.pow_mul]
theorem divI (n k : Nat) : (n : Int) / 2 ^ (7 * k) = ((n / 128 ^ k : Nat) : Int) := by rw [← pow7]; simp
theorem low7' (m : Nat) : bits .and .u8 ((m : Int) % 256) 127 = (m : Int) % 128 := by rw [low7]; omega
theorem more8' (m : Nat) : bits .or .u8 ((m : Int) % 128) 128 = (m : Int) % 128 + 128 := by
  have := more8 m
  rw [show ((m % 128 : Nat) : Int) = (m : Int) % 128 by omega] at this
  rw [this]; omega
set_option maxHeartbeats 2000000 in
set_option maxRecDepth 10000 in
theorem num_any (n : Nat) (pb : Nat) (v : Value) (l : List Nat) (bad : Bool) (w : World) (h : At w pb v l bad) (hn : n ≤ 4611686018427387904) (hl : l.length ≤ 900000) :
    Calls Try.prog 40 #[.pointer (some ⟨pb, 0, none⟩), .int .i64 n] w fun e w' => ∃ v', e = .returned (.pointer (some ⟨pb, 0, none⟩)) ∧ At w' pb v' (l ++ numB n) bad ∧ (∀ k, v'.ownBlock = some k → v.ownBlock = some k ∨ w.heap.size ≤ k) ∧ Frm (fun k => k = pb ∨ v.ownBlock = some k) w w' := by
  have d1 : decide ((n : Int) < 0) = false := decide_eq_false (by omega)
  have d2 : decide ((4611686018427387904 : Int) < (n : Int)) = false := decide_eq_false (by omega)
  have hl0 := h.lt
  go_enter Try.func40, Try.ntmps40
  go_wp2
  go_loop [5] (fun i => ∃ (j : Nat), j ≤ 8 ∧ i = .int .i64 j ∧ Hid (j = 0 ∨ 0 < n / 128 ^ j)) (fun i => 9 - (intOf i).toNat)
  case atStart => exact ⟨0, by omega, rfl, .inl rfl⟩
  case round =>
    obtain ⟨j, hj, rfl, hh⟩ := hrel
    have hdv := divI n (j + 1)
    obtain ⟨D, hD⟩ : ∃ D, n / 128 ^ (j + 1) = D := ⟨_, rfl⟩
    rw [hD] at hdv
    have HD := Lib.hid hD
    have h9 : n / 128 ^ 9 = 0 := Nat.div_eq_of_lt (by omega)
    have HDV := Lib.hid hdv
    clear hD
    by_cases hpos : 0 < D
    · have hj8 : j < 8 := by
        rcases Nat.lt_or_ge j 8 with h | h
        · exact h
        · obtain rfl : j = 8 := by omega
          have := HD.out
          omega
      have hpp : (0 : Int) < (D : Int) := by omega
      rw [← hdv] at hpp
      clear h9 hdv
      go_wp2
      go_round
      case rel => exact ⟨j + 1, by omega, by go_num, .inr (by rw [HD.out]; exact hpos)⟩
      case measure => simp [intOf]; omega
    · have hpp : (n : Int) / 2 ^ (7 * (j + 1)) ≤ 0 := by rw [hdv]; omega
      have hD0 : n / 128 ^ (j + 1) = 0 := by have := HD.out; omega
      have HD0 := Lib.hid hD0
      clear h9 hdv hD0 hpos
      have HH := hh
      clear hh
      go_wp2_with fail
      go_loopw [5] (fun i wr => ∃ (k : Nat) (u : Value), k ≤ j ∧ i = .int .i64 k ∧ At wr pb u (l ++ pre (n / 128 ^ (k + 1))) bad ∧ Hid (∀ b, u.ownBlock = some b → v.ownBlock = some b ∨ w.heap.size ≤ b) ∧ Frm (fun k => k = pb ∨ v.ownBlock = some k) w wr) (fun i _ => (intOf i).toNat)
      case atStart => exact ⟨j, v, Nat.le_refl _, rfl, by rw [HD0.out, pre_zero, List.append_nil]; exact h, fun b hb => .inl hb, Frm.refl _ _⟩
      case round =>
        clear h hpp
        obtain ⟨k, u, hk, rfl, hA, hmv, hF⟩ := hrel
        have hlen := pre_len 9 (n / 128 ^ (k + 1)) (Nat.lt_of_le_of_lt (Nat.div_le_self _ _) (by omega))
        have hLl : (l ++ pre (n / 128 ^ (k + 1))).length ≤ 900009 := by rw [List.length_append]; omega
        clear hlen
        have c0 := hA.c0
        have hAl := hA.lt
        have hbk := hA.blk
        have hAo := hA.own
        have fr := hA.fr 0
        by_cases hk0 : 0 < k
        · have hdv := divI n k
          have hmpos : 0 < n / 128 ^ k := by
            rcases HH.out with h | h
            · omega
            · exact Nat.lt_of_lt_of_le h (Nat.div_le_div_left (Nat.pow_le_pow_right (by omega) hk) (Nat.pow_pos (by omega)))
          have hpre : pre (n / 128 ^ k) = pre (n / 128 ^ (k + 1)) ++ [n / 128 ^ k % 128 + 128] := by
            rw [pre_pos hmpos, Nat.div_div_eq_div_mul, ← Nat.pow_succ]
          have HPRE := Lib.hid hpre
          have hk1 : k - 1 + 1 = k := by omega
          clear hpre hmpos
          generalize hM : n / 128 ^ k = m at *
          have HM := Lib.hid hM
          clear hM
          have l7 := low7' m
          have l7w : bits .and .u8 (IntKind.u8.wrap (m : Int)) 127 = (m : Int) % 128 := by rw [IntKind.wrap_u8']; exact l7
          have m8 := more8' m
          have hroom := hA.row
          have hsm := hA.small
          generalize hL : l ++ pre (n / 128 ^ (k + 1)) = L at *
          have HL := Lib.hid hL
          clear hL
          have c0a : (wr.alloc (.cells #[.int .u8 ((m : Int) % 128 + 128)] 5)).cell? ⟨pb, 0, none⟩ = some u := cell_al c0
          have w7 : IntKind.i64.wrap (7 * (k : Int)) = 7 * (k : Int) := IntWalk.i64_in _ (by omega)
          have n7 : (0 : Int) ≤ 7 * (k : Int) := by omega
          have t7 : (7 * (k : Int)).toNat = 7 * k := by omega
          have hb1 : (m % 128 + 128 : Nat) = (m : Int) % 128 + 128 := by omega
          go_wp2_with fail
          go_region_law (refine step_append_big rfl (.tmp 34) (.tmp 42) rfl Euint8 (pb + 1) u L.length (u8s L) _ [.int .u8 ((m : Int) % 128 + 128)] (by simp [Act.eval, Act.put]) (by simp [Act.eval, Act.put]) ((hroom.alloc _).drew) (Bk.drew (Bk.new _ _)) rfl (by simp [Value.oneCell']) (by omega) (by omega) (by simp; omega) ?_; intro u2 w81 hn1 hg1 ha1; have hbk1 := Bk.grown (Bk.drew (Bk.alloc hbk _)) hg1 (fun e => by have := hAo _ e; omega); have fr1 := Bk.frozen hbk1 0; have c21 : w81.cell? ⟨pb, 0, none⟩ = some u := Bk.cell hbk1 0; obtain ⟨g9, cap9, rfl⟩ := owns_form hn1)
          all_goals
            have hgl := (hn1.lt g9 rfl).1
            have hsz := hg1.size
            have hA9 : At (w81.setCell ⟨pb, 0, none⟩ (.slice (some ⟨g9, 0, none⟩) (L.length + 1) cap9)) pb (.slice (some ⟨g9, 0, none⟩) (L.length + 1) cap9) (L ++ [m % 128 + 128]) bad := by
              refine ⟨Bk.set hbk1 0 _, ?_, fun b hb => ?_⟩
              · rw [u8s_app, List.length_append]
                have e1 : u8s [m % 128 + 128] = [.int .u8 ((m : Int) % 128 + 128)] := by simp [u8s]
                rw [e1]
                exact owns_frm hn1 ((Frm.refl (fun j => j = pb) w81).set1 0 _) (fun k2 hk2 e => by
                  have e3 : g9 = k2 := Option.some.inj hk2
                  omega)
              · rcases List.mem_append.1 hb with hb | hb
                · exact hsm b hb
                · rw [List.mem_singleton.1 hb]; omega
            have hmv9 : Hid (∀ b, (Value.slice (some ⟨g9, 0, none⟩) (L.length + 1) cap9).ownBlock = some b → v.ownBlock = some b ∨ w.heap.size ≤ b) := fun b hb => by
              rcases ha1 with e | e
              · exact hmv.out b (by rw [← e]; exact hb)
              · have e3 : g9 = b := Option.some.inj hb
                have e4 : g9 = _ := Option.some.inj e
                have := hF.size
                simp at e4
                omega
            have hF9 : Frm (fun k => k = pb ∨ v.ownBlock = some k) w (w81.setCell ⟨pb, 0, none⟩ (.slice (some ⟨g9, 0, none⟩) (L.length + 1) cap9)) :=
              (((hF.alloc _).drew).grown hg1 (fun b hb hbw => by
                rcases hmv.out b hb with h | h
                · exact .inr h
                · omega)).setCell ⟨pb, 0, none⟩ (fun _ => .inl rfl) _
            have hfin : L ++ [m % 128 + 128] = l ++ pre (n / 128 ^ (k - 1 + 1)) := by rw [hk1, HM.out, HPRE.out, ← List.append_assoc, HL.out]
            rw [hfin] at hA9
            clear hfin
            generalize w81.setCell ⟨pb, 0, none⟩ (.slice (some ⟨g9, 0, none⟩) (L.length + 1) cap9) = w9 at *
            go_wp2_with fail
            go_roundw
            case rel => exact ⟨k - 1, _, by omega, by go_num, hA9, hmv9, hF9⟩
            case measure => simp [intOf]; omega
        · obtain rfl : k = 0 := by omega
          have l7 := low7' n
          have hroom := hA.row
          have hsm := hA.small
          have hnb : Hid (l ++ numB n = (l ++ pre (n / 128 ^ (0 + 1))) ++ [n % 128]) := by
            unfold Hid numB
            rw [Nat.zero_add, Nat.pow_one, List.append_assoc]
          generalize l ++ pre (n / 128 ^ (0 + 1)) = L at *
          have hM9 : 1000010 ≤ maxLen := by unfold maxLen; omega
          go_wp2_with (at_builtin; refine wpList_append_sl rfl (.tmp 50) (.tmp 54) rfl Euint8 (pb + 1) u (.slice (some ⟨wr.heap.size, 0, none⟩) 1 1) L.length 1 (u8s L) [.int .u8 ((n : Int) % 128)] rfl rfl (hroom.alloc _) (Sl.new _ _ _ 1 (by decide) (by omega)) rfl (by simp [Value.oneCell']) (by omega) (by omega) (by simp; omega) ?_; intro u2 w81 hn1 hf1 ha1; have hbk1 := hf1.blk (Bk.alloc hbk _) (fun e => by have := hAo _ e; omega); have fr1 := Bk.frozen hbk1 0; have c21 : w81.cell? ⟨pb, 0, none⟩ = some u := Bk.cell hbk1 0; obtain ⟨g9, cap9, rfl⟩ := owns_form hn1)
          go_ret
          have hgl := (hn1.lt g9 rfl).1
          have hFF := ((Frm.refl (fun k => u.ownBlock = some k) wr).alloc (.cells #[.int .u8 ((n : Int) % 128)] 5)).trans hf1
          refine ⟨_, rfl, ⟨Bk.set hbk1 0 _, ?_, fun b hb => ?_⟩, fun b hb => ?_, ?_⟩
          · rw [hnb.out, u8s_app, List.length_append]
            have e1 : u8s [n % 128] = [.int .u8 ((n : Int) % 128)] := by simp [u8s]
            rw [e1]
            exact owns_frm hn1 ((Frm.refl (fun j => j = pb) w81).set1 0 _) (fun k2 hk2 e => by
              have e3 : g9 = k2 := Option.some.inj hk2
              omega)
          · rw [hnb.out] at hb
            rcases List.mem_append.1 hb with hb | hb
            · exact hsm b hb
            · rw [List.mem_singleton.1 hb]; omega
          · rcases ha1 with e | e
            · exact hmv.out b (by rw [← e]; exact hb)
            · have e3 : g9 = b := Option.some.inj hb
              have e4 : g9 = _ := Option.some.inj e
              have := hF.size
              simp at e4
              omega
          · refine ((hF.then_ hFF (fun b hbw hb => ?_)).setCell ⟨pb, 0, none⟩ (fun _ => .inl rfl) _)
            rcases hmv.out b hb with h | h
            · exact .inr h
            · omega
end Pk
end Go.Proofs.Ythggbohoedfkpaa
