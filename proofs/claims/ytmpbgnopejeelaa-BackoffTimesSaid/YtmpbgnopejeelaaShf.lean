/- SHA-256: New and Write. -/
import Derived.Test.YtmpbgnopejeelaaShe
import Derived.Deep.RegionWith
import Derived.Deep.RegionHeld3
namespace Go.Proofs.Ytmpbgnopejeelaa
open Go.RowKit
set_option linter.unusedVariables false
set_option linter.unusedSimpArgs false
set_option maxRecDepth 100000
namespace Sh
theorem V0_lt : ∀ x ∈ V0, x < 4294967296 := by decide +kernel
theorem new_any (w : World) : Calls Try.prog 36 #[] w fun e w' => ∃ b, e = .returned (.pointer (some ⟨b, 0, none⟩)) ∧ w.heap.size ≤ b ∧ Hh w' b V0 ⟨#[]⟩ 0 ∧ Frm0 w w' := by
  go_enter Try.func36, Try.ntmps36
  go_wp2_with fail
  refine (start_any _).mono ?_
  rintro e w1 ⟨rfl, hf1⟩
  have hs1 := hf1.size
  go_wp2_with fail
  go_returns
  exact ⟨_, rfl, hs1, ⟨Bk.new w1 _, rfl, V0_lt⟩, hf1.alloc _⟩
theorem blocks_succ : ∀ (n : Nat) (v b : List Nat), blocks v b (n + 1) = step (blocks v b n) ((b.drop (64 * n)).take 64)
  | 0, v, b => by simp [blocks]
  | n + 1, v, b => by
    rw [blocks, blocks_succ n (step v (b.take 64)) (b.drop 64), blocks, List.drop_drop]
    congr 3
    omega
theorem blocks_app : ∀ (n : Nat) (v b c : List Nat), 64 * n ≤ b.length → blocks v (b ++ c) n = blocks v b n
  | 0, v, b, c, h => rfl
  | n + 1, v, b, c, h => by
    rw [blocks, blocks, List.take_append_of_le_length (by omega), List.drop_append_of_le_length (by omega)]
    exact blocks_app n _ _ _ (by rw [List.length_drop]; omega)
theorem step_len (v b : List Nat) (hv : v.length = 8) : (step v b).length = 8 := add8_len hv (rnds_len _ _ hv _)
theorem step_lt (v b : List Nat) : ∀ x ∈ step v b, x < 4294967296 := by
  intro x hx
  unfold step add8 at hx
  obtain ⟨i, hi, rfl⟩ := List.mem_iff_getElem.1 hx
  rw [List.getElem_zipWith]
  exact m32_lt _
theorem Hh.put {w : World} {b : Nat} {v : List Nat} {r : ByteArray} {n : Nat} (h : Hh w b v r n) (v' : List Nat) (hv : v'.length = 8) (hb : ∀ x ∈ v', x < 4294967296) : Hh (w.setCells b 0 (u32s v')) b v' r n := by
  refine ⟨?_, hv, hb⟩
  have := Bk.puts (u32s v') 0 w _ h.blk
  rw [this]
  have hl := (u32s_len v).trans h.len
  have hl' := (u32s_len v').trans hv
  have e : sets (u32s v ++ [Value.string r, Value.int .i64 (n : Int)] : List Value).toArray 0 (u32s v') = (u32s v' ++ [Value.string r, Value.int .i64 (n : Int)] : List Value).toArray := by
    apply Array.ext_getElem?
    intro j
    rw [sets_at _ _ _ _ (by simp [hl, hl']), List.getElem?_toArray, List.getElem?_toArray, List.getElem?_append, List.getElem?_append, hl, hl']
    by_cases hj : j < 8
    · rw [if_pos (by omega), if_pos hj, Nat.sub_zero]
    · rw [if_neg (by omega), if_neg hj, if_neg hj]
  rw [e]
/-- How long the rest is. -/
def restN (w : World) (b : Nat) : Nat :=
  match w.cell? ⟨b, 8, none⟩ with
  | some (.string r) => r.size
  | _ => 0
theorem Hh.restN {w : World} {b : Nat} {v : List Nat} {r : ByteArray} {n : Nat} (h : Hh w b v r n) : restN w b = r.size := by
  unfold Sh.restN
  rw [h.c8]
/-- A Hash of all the bytes so far. -/
def Hs (w : World) (b : Nat) (l : List Nat) : Prop := ∃ r, Hh w b (blocks V0 l (l.length / 64)) r l.length ∧ bytes r = l.drop (64 * (l.length / 64))
set_option maxHeartbeats 2000000 in
theorem write_any {w : World} {b : Nat} {l : List Nat} (s : ByteArray) (h : Hs w b l) (hl : l.length + s.size ≤ 1000000) :
    Calls Try.prog 37 #[.pointer (some ⟨b, 0, none⟩), .string s] w fun e w' => e = .returned (.tuple #[]) ∧ Hs w' b (l ++ bytes s) ∧ Frm (fun k => k = b) w w' := by
  obtain ⟨r, h, hr⟩ := h
  have hrl : r.size + 64 * (l.length / 64) = l.length := by
    have := congrArg List.length hr
    rw [bytes_len, List.length_drop] at this
    omega
  have hT : (l ++ bytes s).length = l.length + s.size := by rw [List.length_append, bytes_len]
  have hR0 : bytes (r ++ s) = (l ++ bytes s).drop (64 * (l.length / 64)) := by
    rw [bytes_append, hr, List.drop_append_of_le_length (by omega)]
  have HV0 := blocks_app (l.length / 64) V0 l (bytes s) (by omega)
  rw [← HV0] at h
  have hk0 : 64 * (l.length / 64) ≤ (l ++ bytes s).length := by omega
  clear HV0 hr
  have c8 := h.c8
  have c9 := h.c9
  have f8 := h.free 8
  have f9 := h.free 9
  have hF1 := (Frm.refl (fun k => k = b) w).set1 9 (.int .i64 ((l.length + s.size : Nat) : Int))
  have hH1 := h.set9 (l.length + s.size)
  have d8 := hH1.c8
  have hF2 := hF1.set1 8 (.string (r ++ s))
  have hH2 := hH1.set8 (r ++ s)
  rw [← hT] at hH2
  generalize l ++ bytes s = T at *
  have HT := Lib.hid hT
  generalize l.length / 64 = k0 at *
  have hrl2 : r.size + s.size + 64 * k0 = l.length + s.size := by omega
  have HR0 := Lib.hid hR0
  clear hR0 h hT
  have hsum : IntKind.i64.wrap ((l.length : Int) + (s.size : Int)) = ((l.length + s.size : Nat) : Int) := by rw [IntWalk.i64_in _ (by omega)]; omega
  go_enter Try.func37, Try.ntmps37
  go_wp2_with fail
  go_loopw [] (fun wr => ∃ (k : Nat) (q : ByteArray), 64 * k ≤ T.length ∧ Hh wr b (blocks V0 T k) q T.length ∧ Hid (bytes q = T.drop (64 * k)) ∧ Frm (fun k => k = b) w wr) (fun wr => restN wr b)
  case atStart =>
    have e : (((l.length + s.size : Nat) : Int)) = (l.length : Int) + (s.size : Int) := by omega
    rw [HT.out, e] at hH2
    rw [e] at hF2
    rw [HT.out]
    exact ⟨k0, r ++ s, by rw [← HT.out]; exact hk0, hH2, HR0.out, hF2⟩
  case round =>
    clear hH1 hH2 hF1 hF2 c8 c9 d8 f8 f9 hrl hrl2 hk0 hsum HR0
    obtain ⟨k, q, hk, hH, hq, hF⟩ := hrel
    have hql : q.size + 64 * k = T.length := by
      have := congrArg List.length hq
      rw [bytes_len, List.length_drop] at this
      omega
    have c8 := hH.c8
    have f8 := hH.free 8
    have hTL : T.length ≤ 1000000 := by rw [HT.out]; exact hl
    by_cases hlt : 64 ≤ q.size
    · have hsz : (q.extract 0 64).size = 64 := by rw [ByteArray.size_extract]; omega
      have HQ := Lib.hid hq
      have HQL := Lib.hid hql
      have hqi : (64 : Int) ≤ (q.size : Int) := by omega
      clear hq hql
      have hR := hH.range
      have HH := Lib.hid hH
      go_wp2_with fail
      -- region 4
      refine wp_region_held_drew (S := fun w5 => w5.cell? ⟨b, 8, none⟩ = some (.string q)) (by kernel_rfl) (hH.c8) (fun hHeld => ?_)
      skip
      refine wpAnyH_take (i := 0) (v := ?_) rfl (by kernel_rfl) (by kernel_rfl) (by kernel_rfl) (fun _ _ _ h => h) (Or.inl ⟨by rfl, ?_⟩) (by assumption) ?_
      rotate_left 1
      focus (intro w hSw; (try dsimp only at hSw); go_simp; (try with_reducible rfl))
      (try simp only [Act.put, List.getElem_toArray, List.getElem_cons_succ, List.getElem_cons_zero, List.setIfInBounds_toArray, List.set_cons_zero, List.set_cons_succ])
      refine wpAnyH_take (i := 1) (v := ?_) rfl (by kernel_rfl) (by kernel_rfl) (by kernel_rfl) (fun _ _ _ h => h) (Or.inl ⟨by rfl, ?_⟩) (by assumption) ?_
      rotate_left 1
      focus (intro w hSw; (try dsimp only at hSw); go_simp; (try with_reducible rfl))
      (try simp only [Act.put, List.getElem_toArray, List.getElem_cons_succ, List.getElem_cons_zero, List.setIfInBounds_toArray, List.set_cons_zero, List.set_cons_succ])
      refine wpAnyH_take (i := 2) (v := ?_) rfl (by kernel_rfl) (by kernel_rfl) (by kernel_rfl) (fun _ _ _ h => h) (Or.inl ⟨by rfl, ?_⟩) (by assumption) ?_
      rotate_left 1
      focus (intro w hSw; (try dsimp only at hSw); go_simp; (try with_reducible rfl))
      (try simp only [Act.put, List.getElem_toArray, List.getElem_cons_succ, List.getElem_cons_zero, List.setIfInBounds_toArray, List.set_cons_zero, List.set_cons_succ])
      refine wpAnyH_take (i := 3) (v := ?_) rfl (by kernel_rfl) (by kernel_rfl) (by kernel_rfl) (fun _ _ _ h => h) (Or.inl ⟨by rfl, ?_⟩) (by assumption) ?_
      rotate_left 1
      focus (intro w hSw; (try dsimp only at hSw); go_simp; (try with_reducible rfl))
      (try simp only [Act.put, List.getElem_toArray, List.getElem_cons_succ, List.getElem_cons_zero, List.setIfInBounds_toArray, List.set_cons_zero, List.set_cons_succ])
      refine wpAnyH_take (i := 5) (v := ?_) rfl (by kernel_rfl) (by kernel_rfl) (by kernel_rfl) (fun _ _ _ h => h) (Or.inl ⟨by rfl, ?_⟩) (by assumption) ?_
      rotate_left 1
      focus (intro w hSw; (try dsimp only at hSw); go_simp; (try with_reducible rfl))
      (try simp only [Act.put, List.getElem_toArray, List.getElem_cons_succ, List.getElem_cons_zero, List.setIfInBounds_toArray, List.set_cons_zero, List.set_cons_succ])
      refine wpAnyH_take (i := 6) (v := ?_) rfl (by kernel_rfl) (by kernel_rfl) (by kernel_rfl) (fun _ _ _ h => h) (Or.inl ⟨by rfl, ?_⟩) (by assumption) ?_
      rotate_left 1
      focus (intro w hSw; (try dsimp only at hSw); go_simp; (try with_reducible rfl))
      (try simp only [Act.put, List.getElem_toArray, List.getElem_cons_succ, List.getElem_cons_zero, List.setIfInBounds_toArray, List.set_cons_zero, List.set_cons_succ])
      refine wpAnyH_take (i := 7) (v := ?_) rfl (by kernel_rfl) (by kernel_rfl) (by kernel_rfl) (fun _ _ _ h => h) (Or.inl ⟨by rfl, ?_⟩) (by assumption) ?_
      rotate_left 1
      focus (intro w hSw; (try dsimp only at hSw); go_simp; (try with_reducible rfl))
      (try simp only [Act.put, List.getElem_toArray, List.getElem_cons_succ, List.getElem_cons_zero, List.setIfInBounds_toArray, List.set_cons_zero, List.set_cons_succ])
      refine wpAnyH_take (i := 8) (v := ?_) rfl (by kernel_rfl) (by kernel_rfl) (by kernel_rfl) (fun _ _ _ h => h) (Or.inl ⟨by rfl, ?_⟩) (by assumption) ?_
      rotate_left 1
      focus (intro w hSw; (try dsimp only at hSw); (try simp only [hSw]); go_simp; (try with_reducible rfl))
      (try simp only [Act.put, List.getElem_toArray, List.getElem_cons_succ, List.getElem_cons_zero, List.setIfInBounds_toArray, List.set_cons_zero, List.set_cons_succ])
      refine wpAnyH_take (i := 9) (v := ?_) rfl (by kernel_rfl) (by kernel_rfl) (by kernel_rfl) (fun _ _ _ h => h) (Or.inl ⟨by rfl, ?_⟩) (by assumption) ?_
      rotate_left 1
      focus (intro w hSw; (try dsimp only at hSw); go_simp; (try with_reducible rfl))
      (try simp only [Act.put, List.getElem_toArray, List.getElem_cons_succ, List.getElem_cons_zero, List.setIfInBounds_toArray, List.set_cons_zero, List.set_cons_succ])
      refine wpAnyH_ready (rs := [4]) (by kernel_rfl) (by simp) ?_
      refine AllReadyH.cons rfl (fun K hK => ?_) AllReadyH.nil
      rw [if_pos (by rfl)]
      refine wp_load_mid 37 (.tmp 32) rfl b 0 rfl (u32s (blocks V0 T k)) _ (show wr.drew.rangeAt b 0 _ from hR) Try.underlying37 rfl (by rw [iV, u32s_len, HH.out.len]) ?_
      refine hK.out _ _ ?_ (fun hHeld => ?_)
      focus (assumption)
      clear hK K
      (try simp only [Act.put, List.getElem_toArray, List.getElem_cons_succ, List.getElem_cons_zero, List.setIfInBounds_toArray, List.set_cons_zero, List.set_cons_succ])
      refine wpAnyH_ready (rs := [10]) (by kernel_rfl) (by simp) ?_
      refine AllReadyH.cons rfl (fun K hK => ?_) AllReadyH.nil
      rw [if_pos (by rfl)]
      go_simp
      refine (step_any (q.extract 0 64) hsz _ HH.out.len HH.out.lt _).mono ?_
      rintro e w4 ⟨rfl, hf4⟩
      have hH4 := HH.out.frm0 (Frm.then_ ((Frm.refl (fun _ => False) wr).drew) hf4 (fun _ _ h => h))
      (try go_wp2_with fail)
      refine hK.out _ _ ?_ (fun hHeld => ?_)
      focus (exact hH4.c8)
      clear hK K
      (try simp only [Act.put, List.getElem_toArray, List.getElem_cons_succ, List.getElem_cons_zero, List.setIfInBounds_toArray, List.set_cons_zero, List.set_cons_succ])
      refine wpAnyH_take (i := 11) (v := ?_) rfl (by kernel_rfl) (by kernel_rfl) (by kernel_rfl) (fun _ _ _ h => h) (Or.inl ⟨by rfl, ?_⟩) (by assumption) ?_
      rotate_left 1
      focus (intro w hSw; (try dsimp only at hSw); go_simp; (try with_reducible rfl))
      (try simp only [Act.put, List.getElem_toArray, List.getElem_cons_succ, List.getElem_cons_zero, List.setIfInBounds_toArray, List.set_cons_zero, List.set_cons_succ])
      refine wpAnyH_take (i := 12) (v := ?_) rfl (by kernel_rfl) (by kernel_rfl) (by kernel_rfl) (fun _ _ _ h => h) (Or.inl ⟨by rfl, ?_⟩) (by assumption) ?_
      rotate_left 1
      focus (intro w hSw; (try dsimp only at hSw); go_simp; (try with_reducible rfl))
      (try simp only [Act.put, List.getElem_toArray, List.getElem_cons_succ, List.getElem_cons_zero, List.setIfInBounds_toArray, List.set_cons_zero, List.set_cons_succ])
      refine wpAnyH_ready (rs := [13]) (by kernel_rfl) (by simp) ?_
      refine AllReadyH.cons rfl (fun K hK => ?_) AllReadyH.nil
      rw [if_pos (by rfl)]
      have hsl := step_len (blocks V0 T k) (bytes (q.extract 0 64)) hH4.len
      have hH5 := hH4.put _ hsl (step_lt _ _)
      refine wp_store_mid 37 (.tmp 41) (.tmp 39) rfl b 0 (u32s (step (blocks V0 T k) (bytes (q.extract 0 64)))).toArray rfl rfl (Bk.there hH4.blk 0 _ (by simp [u32s_len, hsl, hH4.len])) (by rw [iV, List.size_toArray, u32s_len, hsl]) (Array.all_eq_true_iff_forall_mem.2 (fun v hv => List.all_eq_true.1 (u32s_one' _) v (by simpa using hv))) ?_
      refine hK.out _ _ ?_ (fun hHeld => ?_)
      focus (exact hH5.c8)
      clear hK K
      (try simp only [Act.put, List.getElem_toArray, List.getElem_cons_succ, List.getElem_cons_zero, List.setIfInBounds_toArray, List.set_cons_zero, List.set_cons_succ])
      refine wpAnyH_done (by kernel_rfl) ?_ _
      have hF5 := (hF.drew.then0 hf4).trans (Frm.puts (S := fun k => k = b) b (fun _ => rfl) (u32s (step (blocks V0 T k) (bytes (q.extract 0 64)))) 0 w4 (Frm.refl _ _))
      have hbe : bytes (q.extract 0 64) = (T.drop (64 * k)).take 64 := by rw [bytes_extract, HQ.out.out, List.drop_zero, Nat.sub_zero]
      have hse : step (blocks V0 T k) (bytes (q.extract 0 64)) = blocks V0 T (k + 1) := by rw [blocks_succ, hbe]
      have hqe : bytes (q.extract 64 q.size) = T.drop (64 * (k + 1)) := by
        rw [bytes_extract, HQ.out.out, List.drop_drop, List.take_of_length_le (by rw [List.length_drop]; have := HQL.out; omega)]
        congr 1
      have HQE := Lib.hid hqe
      have hql2 := HQL.out
      rw [hse] at hH5 hF5 hHeld ⊢
      clear hse hbe hqe hH4 hsl hf4 hH hF
      generalize w4.setCells b 0 (u32s (blocks V0 T (k + 1))) = w5 at *
      have c9 := hH5.c8
      have f9 := hH5.free 8
      go_wp2_with fail
      go_roundw
      case rel => exact ⟨k + 1, q.extract 64 q.size, by omega, hH5.set8 _, HQE.out, hF5.set1 8 _⟩
      case measure =>
        rw [(hH5.set8 _).restN, HH.out.restN, ByteArray.size_extract]
        omega
    · have hke : k = T.length / 64 := by omega
      go_wp2_with fail
      go_returns
      exact ⟨rfl, ⟨q, hke ▸ hH, hke ▸ hq⟩, hF⟩
end Sh
end Go.Proofs.Ytmpbgnopejeelaa
