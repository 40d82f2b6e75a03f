/- Letters: what Pack makes, and May. -/
import Derived.Test.YthggbohoedfkpaaLtg
namespace Go.Proofs.Ythggbohoedfkpaa
open Go.RowKit Pk
set_option linter.unusedVariables false
set_option linter.unusedSimpArgs false
set_option maxRecDepth 100000
namespace Lt
/-- What Pack answers of a letter that is alone just if ok. -/
def packed (ok : Bool) (l : Ltr) : Ending := if chk ok l = true then .returned (.tuple #[.string (txt (lay (numB 1 ++ numB l.kind.toNat) l)), .int .i64 0]) else .returned (.tuple #[.string ⟨#[]⟩, .int .i64 1])
section
variable {w w1 : World} {d pb K lb off : Nat} {ok : Bool} {L : List Nat} {S : Nat → Prop}
/-- The kind, packed behind the first number. -/
theorem knum (n : Int) (pb : Nat) (v : Value) (L : List Nat) (w : World) (h : At w pb v L false) (hL : L.length ≤ 9) :
    Calls Try.prog 40 #[.pointer (some ⟨pb, 0, none⟩), .int .i64 n] w fun e w' => ∃ v' L' bad, e = .returned (.pointer (some ⟨pb, 0, none⟩)) ∧ At w' pb v' L' bad ∧ L'.length ≤ 18 ∧ (1 ≤ n → n ≤ 4 → L' = L ++ numB n.toNat ∧ bad = false) ∧ Frm (fun k => k = pb ∨ v.ownBlock = some k) w w' := by
  by_cases hn : n < 0 ∨ 4611686018427387904 < n
  · refine (num_bad n pb v L false w h hn).mono ?_
    rintro e w' ⟨rfl, hA, hf⟩
    exact ⟨v, L, true, rfl, hA, by omega, fun _ _ => by omega, hf.mono (fun i _ e => .inl e)⟩
  · obtain ⟨m, rfl⟩ : ∃ m : Nat, n = m := ⟨n.toNat, by omega⟩
    refine (num_any m pb v L false w h (by omega) (by omega)).mono ?_
    rintro e w' ⟨v', rfl, hA, _, hf⟩
    exact ⟨v', L ++ numB m, false, rfl, hA, by rw [List.length_append]; have := num9 m (by omega); omega, fun _ _ => ⟨rfl, rfl⟩, hf⟩
set_option maxHeartbeats 4000000 in
theorem pack_any (l : Ltr) (ok : Bool) (he : ok = true ↔ l = alone l) (hz : Sm l) (w : World) : Calls Try.prog 13 #[.agg #[.int .i64 l.kind, .int .i64 l.rq.client, .int .i64 l.rq.serial, .int .i64 l.rq.tenant, .string l.rq.key, .string l.rq.method, .string l.rq.path, .string l.rq.body, .int .i64 l.an.client, .int .i64 l.an.serial, .int .i64 l.an.status, .string l.an.text, .int .i64 l.an.after, .int .i64 l.an.epoch, .int .i64 l.cl.tenant, .string l.cl.key, .int .i64 l.cl.epoch, .int .i64 l.cl.phase, .int .i64 l.cl.token, .string l.cl.name, .string l.cl.body, .int .i64 l.rp.tenant, .string l.rp.key, .int .i64 l.rp.epoch, .int .i64 l.rp.phase, .int .i64 l.rp.token, .int .i64 l.rp.code]] w fun e w' => e = packed ok l ∧ Frm0 w w' := by
  have HE : ∀ w9, (binOp .eql 31 (.agg l.cells.toArray) (.agg (alone l).cells.toArray)).run Try.prog w9 = .ok (.bool ok) w9 := fun w9 => by
    cases ok
    · exact eql_other l (alone l) (fun e => by have := he.2 e; cases this) w9
    · rw [← he.1 rfl]
      exact eql_same l w9
  have HB := Lib.hid (show (w.alloc (.cells #[.int .i64 l.kind, .int .i64 l.rq.client, .int .i64 l.rq.serial, .int .i64 l.rq.tenant, .string l.rq.key, .string l.rq.method, .string l.rq.path, .string l.rq.body, .int .i64 l.an.client, .int .i64 l.an.serial, .int .i64 l.an.status, .string l.an.text, .int .i64 l.an.after, .int .i64 l.an.epoch, .int .i64 l.cl.tenant, .string l.cl.key, .int .i64 l.cl.epoch, .int .i64 l.cl.phase, .int .i64 l.cl.token, .string l.cl.name, .string l.cl.body, .int .i64 l.rp.tenant, .string l.rp.key, .int .i64 l.rp.epoch, .int .i64 l.rp.phase, .int .i64 l.rp.token, .int .i64 l.rp.code] 31)).heap[w.heap.size]? = some (.cells l.cells.toArray 31 (0, 0)) from Bk.new _ _)
  have hsz : (w.alloc (.cells #[.int .i64 l.kind, .int .i64 l.rq.client, .int .i64 l.rq.serial, .int .i64 l.rq.tenant, .string l.rq.key, .string l.rq.method, .string l.rq.path, .string l.rq.body, .int .i64 l.an.client, .int .i64 l.an.serial, .int .i64 l.an.status, .string l.an.text, .int .i64 l.an.after, .int .i64 l.an.epoch, .int .i64 l.cl.tenant, .string l.cl.key, .int .i64 l.cl.epoch, .int .i64 l.cl.phase, .int .i64 l.cl.token, .string l.cl.name, .string l.cl.body, .int .i64 l.rp.tenant, .string l.rp.key, .int .i64 l.rp.epoch, .int .i64 l.rp.phase, .int .i64 l.rp.token, .int .i64 l.rp.code] 31)).heap.size = w.heap.size + 1 := by simp
  have hF1 := (Frm.refl (fun _ => False) w).alloc (.cells #[.int .i64 l.kind, .int .i64 l.rq.client, .int .i64 l.rq.serial, .int .i64 l.rq.tenant, .string l.rq.key, .string l.rq.method, .string l.rq.path, .string l.rq.body, .int .i64 l.an.client, .int .i64 l.an.serial, .int .i64 l.an.status, .string l.an.text, .int .i64 l.an.after, .int .i64 l.an.epoch, .int .i64 l.cl.tenant, .string l.cl.key, .int .i64 l.cl.epoch, .int .i64 l.cl.phase, .int .i64 l.cl.token, .string l.cl.name, .string l.cl.body, .int .i64 l.rp.tenant, .string l.rp.key, .int .i64 l.rp.epoch, .int .i64 l.rp.phase, .int .i64 l.rp.token, .int .i64 l.rp.code] 31)
  go_enter Try.func13, Try.ntmps13
  go_upto_region 1 with (fail)
  refine wp_region_held_drew (S := fun w9 => Frm0 (w.alloc (.cells #[.int .i64 l.kind, .int .i64 l.rq.client, .int .i64 l.rq.serial, .int .i64 l.rq.tenant, .string l.rq.key, .string l.rq.method, .string l.rq.path, .string l.rq.body, .int .i64 l.an.client, .int .i64 l.an.serial, .int .i64 l.an.status, .string l.an.text, .int .i64 l.an.after, .int .i64 l.an.epoch, .int .i64 l.cl.tenant, .string l.cl.key, .int .i64 l.cl.epoch, .int .i64 l.cl.phase, .int .i64 l.cl.token, .string l.cl.name, .string l.cl.body, .int .i64 l.rp.tenant, .string l.rp.key, .int .i64 l.rp.epoch, .int .i64 l.rp.phase, .int .i64 l.rp.token, .int .i64 l.rp.code] 31)) w9) (by kernel_rfl) ((Frm.refl (fun _ => False) _).drew) (fun hHeld => ?_)
  refine wpAnyH_take (i := 0) (v := ?_) rfl (by kernel_rfl) (by kernel_rfl) (by kernel_rfl) (fun _ _ _ h => h) (Or.inl ⟨by rfl, ?_⟩) (by assumption) ?_
  rotate_left 1
  focus (intro w hSw; (try dsimp only at hSw); go_simp; (try with_reducible rfl))
  (try simp only [Act.put, List.getElem_toArray, List.getElem_cons_succ, List.getElem_cons_zero, List.setIfInBounds_toArray, List.set_cons_zero, List.set_cons_succ])
  refine wpAnyH_take (i := 2) (v := .agg l.cells.toArray) rfl (by kernel_rfl) (by kernel_rfl) (by kernel_rfl) (fun _ _ _ h => h) (yieldsIf_load_mid (by rfl) 31 (.tmp 1) rfl w.heap.size 0 rfl l.cells _ (fun w9 hSw => Bk.range (hSw.blk HB.out (fun h => h)) l.cells rfl) Try.underlying31 rfl (by rw [iL]; rfl)) (by assumption) ?_
  (try simp only [Act.put, List.getElem_toArray, List.getElem_cons_succ, List.getElem_cons_zero, List.setIfInBounds_toArray, List.set_cons_zero, List.set_cons_succ])
  refine wpAnyH_take (i := 3) (v := .agg l.cells.toArray) rfl (by kernel_rfl) (by kernel_rfl) (by kernel_rfl) (fun _ _ _ h => h) (yieldsIf_load_mid (by rfl) 31 (.tmp 1) rfl w.heap.size 0 rfl l.cells _ (fun w9 hSw => Bk.range (hSw.blk HB.out (fun h => h)) l.cells rfl) Try.underlying31 rfl (by rw [iL]; rfl)) (by assumption) ?_
  (try simp only [Act.put, List.getElem_toArray, List.getElem_cons_succ, List.getElem_cons_zero, List.setIfInBounds_toArray, List.set_cons_zero, List.set_cons_succ])
  refine wpAnyH_ready (rs := [1, 4]) (by kernel_rfl) (by simp) ?_
  refine AllReadyH.cons rfl (fun K hK => ?_) (AllReadyH.cons rfl (fun K hK => ?_) AllReadyH.nil)
  · rw [if_pos (by rfl)]
    go_simp
    refine hK.out _ _ (Frm.alloc (by assumption) _) (fun hHeld => ?_)
    clear hK K
    (try simp only [Act.put, List.getElem_toArray, List.getElem_cons_succ, List.getElem_cons_zero, List.setIfInBounds_toArray, List.set_cons_zero, List.set_cons_succ])
    refine wpAnyH_ready (rs := [4]) (by kernel_rfl) (by simp) ?_
    refine AllReadyH.cons rfl (fun K hK => ?_) AllReadyH.nil
    go_simp
    refine (alone_any l _).mono ?_
    rintro e w3 ⟨rfl, hf3⟩
    have hD3 := Frm.trans (((Frm.refl (fun _ => False) (w.alloc (.cells #[.int .i64 l.kind, .int .i64 l.rq.client, .int .i64 l.rq.serial, .int .i64 l.rq.tenant, .string l.rq.key, .string l.rq.method, .string l.rq.path, .string l.rq.body, .int .i64 l.an.client, .int .i64 l.an.serial, .int .i64 l.an.status, .string l.an.text, .int .i64 l.an.after, .int .i64 l.an.epoch, .int .i64 l.cl.tenant, .string l.cl.key, .int .i64 l.cl.epoch, .int .i64 l.cl.phase, .int .i64 l.cl.token, .string l.cl.name, .string l.cl.body, .int .i64 l.rp.tenant, .string l.rp.key, .int .i64 l.rp.epoch, .int .i64 l.rp.phase, .int .i64 l.rp.token, .int .i64 l.rp.code] 31))).drew).alloc (.cells #[.slice none 0 0, .bool false] 83)) hf3
    (try go_wp2_with fail)
    refine hK.out _ _ hD3 (fun hHeld => ?_)
    clear hK K
    (try simp only [Act.put, List.getElem_toArray, List.getElem_cons_succ, List.getElem_cons_zero, List.setIfInBounds_toArray, List.set_cons_zero, List.set_cons_succ])
    refine wpAnyH_take (i := 5) (v := .bool ok) rfl (by kernel_rfl) (by kernel_rfl) (by kernel_rfl) (fun _ _ _ h => h) (Or.inl ⟨by rfl, ?_⟩) (by assumption) ?_
    focus (intro w9 hSw; go_simp; first | done | exact HE w9)
    (try simp only [Act.put, List.getElem_toArray, List.getElem_cons_succ, List.getElem_cons_zero, List.setIfInBounds_toArray, List.set_cons_zero, List.set_cons_succ])
    refine wpAnyH_take (i := 6) (v := ?_) rfl (by kernel_rfl) (by kernel_rfl) (by kernel_rfl) (fun _ _ _ h => h) (Or.inl ⟨by rfl, ?_⟩) (by assumption) ?_
    rotate_left 1
    focus (intro w hSw; (try dsimp only at hSw); go_simp; (try with_reducible rfl))
    (try simp only [Act.put, List.getElem_toArray, List.getElem_cons_succ, List.getElem_cons_zero, List.setIfInBounds_toArray, List.set_cons_zero, List.set_cons_succ])
    refine wpAnyH_ready (rs := [7]) (by kernel_rfl) (by simp) ?_
    refine AllReadyH.cons rfl (fun K hK => ?_) AllReadyH.nil
    rw [if_pos (by rfl)]
    go_simp
    refine hK.out _ _ (Frm.alloc (hD3) _) (fun hHeld => ?_)
    clear hK K
    (try simp only [Act.put, List.getElem_toArray, List.getElem_cons_succ, List.getElem_cons_zero, List.setIfInBounds_toArray, List.set_cons_zero, List.set_cons_succ])
    refine wpAnyH_take (i := 8) (v := ?_) rfl (by kernel_rfl) (by kernel_rfl) (by kernel_rfl) (fun _ _ _ h => h) (Or.inl ⟨by rfl, ?_⟩) (by assumption) ?_
    rotate_left 1
    focus (intro w hSw; (try dsimp only at hSw); go_simp; (try with_reducible rfl))
    (try simp only [Act.put, List.getElem_toArray, List.getElem_cons_succ, List.getElem_cons_zero, List.setIfInBounds_toArray, List.set_cons_zero, List.set_cons_succ])
    refine wpAnyH_done (by kernel_rfl) ?_ _
    have hszz : w.heap.size + 2 ≤ w3.heap.size := by have := hf3.size; simp at this; omega
    have hfz : Frm0 (w.alloc (.cells #[.int .i64 l.kind, .int .i64 l.rq.client, .int .i64 l.rq.serial, .int .i64 l.rq.tenant, .string l.rq.key, .string l.rq.method, .string l.rq.path, .string l.rq.body, .int .i64 l.an.client, .int .i64 l.an.serial, .int .i64 l.an.status, .string l.an.text, .int .i64 l.an.after, .int .i64 l.an.epoch, .int .i64 l.cl.tenant, .string l.cl.key, .int .i64 l.cl.epoch, .int .i64 l.cl.phase, .int .i64 l.cl.token, .string l.cl.name, .string l.cl.body, .int .i64 l.rp.tenant, .string l.rp.key, .int .i64 l.rp.epoch, .int .i64 l.rp.phase, .int .i64 l.rp.token, .int .i64 l.rp.code] 31)) w3 := hD3
    have hFz : Frm0 (w.alloc (.cells #[.int .i64 l.kind, .int .i64 l.rq.client, .int .i64 l.rq.serial, .int .i64 l.rq.tenant, .string l.rq.key, .string l.rq.method, .string l.rq.path, .string l.rq.body, .int .i64 l.an.client, .int .i64 l.an.serial, .int .i64 l.an.status, .string l.an.text, .int .i64 l.an.after, .int .i64 l.an.epoch, .int .i64 l.cl.tenant, .string l.cl.key, .int .i64 l.cl.epoch, .int .i64 l.cl.phase, .int .i64 l.cl.token, .string l.cl.name, .string l.cl.body, .int .i64 l.rp.tenant, .string l.rp.key, .int .i64 l.rp.epoch, .int .i64 l.rp.phase, .int .i64 l.rp.token, .int .i64 l.rp.code] 31)) (w3.alloc (.cells #[.pointer (some ⟨w.heap.size + 1, 0, none⟩), .pointer none, .bool ok] 87)) := hfz.alloc _
    have hb2 := hFz.blk HB.out (fun h => h)
    have hpk0 : w3.heap[w.heap.size + 1]? = some (.cells #[.slice none 0 0, .bool false] 83) := hf3.blk (show ((w.alloc (.cells #[.int .i64 l.kind, .int .i64 l.rq.client, .int .i64 l.rq.serial, .int .i64 l.rq.tenant, .string l.rq.key, .string l.rq.method, .string l.rq.path, .string l.rq.body, .int .i64 l.an.client, .int .i64 l.an.serial, .int .i64 l.an.status, .string l.an.text, .int .i64 l.an.after, .int .i64 l.an.epoch, .int .i64 l.cl.tenant, .string l.cl.key, .int .i64 l.cl.epoch, .int .i64 l.cl.phase, .int .i64 l.cl.token, .string l.cl.name, .string l.cl.body, .int .i64 l.rp.tenant, .string l.rp.key, .int .i64 l.rp.epoch, .int .i64 l.rp.phase, .int .i64 l.rp.token, .int .i64 l.rp.code] 31)).drew.alloc (.cells #[.slice none 0 0, .bool false] 83)).heap[w.heap.size + 1]? = _ by have := Bk.new (w.alloc (.cells #[.int .i64 l.kind, .int .i64 l.rq.client, .int .i64 l.rq.serial, .int .i64 l.rq.tenant, .string l.rq.key, .string l.rq.method, .string l.rq.path, .string l.rq.body, .int .i64 l.an.client, .int .i64 l.an.serial, .int .i64 l.an.status, .string l.an.text, .int .i64 l.an.after, .int .i64 l.an.epoch, .int .i64 l.cl.tenant, .string l.cl.key, .int .i64 l.cl.epoch, .int .i64 l.cl.phase, .int .i64 l.cl.token, .string l.cl.name, .string l.cl.body, .int .i64 l.rp.tenant, .string l.rp.key, .int .i64 l.rp.epoch, .int .i64 l.rp.phase, .int .i64 l.rp.token, .int .i64 l.rp.code] 31)).drew (.cells #[.slice none 0 0, .bool false] 83); rwa [show (w.alloc (.cells #[.int .i64 l.kind, .int .i64 l.rq.client, .int .i64 l.rq.serial, .int .i64 l.rq.tenant, .string l.rq.key, .string l.rq.method, .string l.rq.path, .string l.rq.body, .int .i64 l.an.client, .int .i64 l.an.serial, .int .i64 l.an.status, .string l.an.text, .int .i64 l.an.after, .int .i64 l.an.epoch, .int .i64 l.cl.tenant, .string l.cl.key, .int .i64 l.cl.epoch, .int .i64 l.cl.phase, .int .i64 l.cl.token, .string l.cl.name, .string l.cl.body, .int .i64 l.rp.tenant, .string l.rp.key, .int .i64 l.rp.epoch, .int .i64 l.rp.phase, .int .i64 l.rp.token, .int .i64 l.rp.code] 31)).drew.heap.size = w.heap.size + 1 from hsz] at this) (fun h => h)
    have hpk2 : (w3.alloc (.cells #[.pointer (some ⟨w.heap.size + 1, 0, none⟩), .pointer none, .bool ok] 87)).heap[w.heap.size + 1]? = some (.cells #[.slice none 0 0, .bool false] 83) := ((Frm.refl (fun _ => False) w3).alloc _).blk hpk0 (fun h => h)
    have hA2 : At (w3.alloc (.cells #[.pointer (some ⟨w.heap.size + 1, 0, none⟩), .pointer none, .bool ok] 87)) (w.heap.size + 1) (.slice none 0 0) [] false := ⟨hpk2, World.ownsRow_nil _ _ _ _, by simp⟩
    have hdk2 : (w3.alloc (.cells #[.pointer (some ⟨w.heap.size + 1, 0, none⟩), .pointer none, .bool ok] 87)).heap[w3.heap.size]? = some (.cells #[.pointer (some ⟨w.heap.size + 1, 0, none⟩), .pointer none, .bool ok] 87) := Bk.new _ _
    have HF2 : Frm0 w (w3.alloc (.cells #[.pointer (some ⟨w.heap.size + 1, 0, none⟩), .pointer none, .bool ok] 87)) := hF1.trans hFz
    clear HB hD3 hf3 hHeld HE hFz hfz hsz hF1 hpk0 hpk2
    generalize (w3.alloc (.cells #[.pointer (some ⟨w.heap.size + 1, 0, none⟩), .pointer none, .bool ok] 87)) = wz at *
    generalize hd : w3.heap.size = d at *
    generalize hpb : w.heap.size + 1 = pb at *
    generalize hlbe : w.heap.size = lb at *
    have hpd : pb < d := by omega
    have hlp : lb < pb := by omega
    clear hd hpb hszz
    go_upto_region 2 with (fail)
    have HB2 := Lib.hid hb2
    have HA2 := Lib.hid hA2
    have HD2 := Lib.hid hdk2
    have hx := (fun (w9 : World) (hf : Frm (fun k => lb < k ∧ ¬ k = d) wz w9) => And.intro (hf.cell (a := ⟨lb, 0, none⟩) (v := .int .i64 l.kind) (by rw [Bk.cell hb2]; rfl) (show ¬ (lb < lb ∧ ¬ lb = d) from fun h => Nat.lt_irrefl _ h.1)) (hf.cell (a := ⟨d, 0, none⟩) (v := .pointer (some ⟨pb, 0, none⟩)) (by rw [Bk.cell hdk2]; rfl) (show ¬ (lb < d ∧ ¬ d = d) from fun h => h.2 rfl)))
    have HX := Lib.hid hx
    clear hx hb2 hA2 hdk2
    refine wp_region_held_drew (S := fun w9 => Frm (fun k => lb < k ∧ ¬ k = d) wz w9) (by kernel_rfl) ((Frm.refl _ wz).drew) (fun hHeld => ?_)
    refine wpAnyH_take (i := 0) (v := ?_) rfl (by kernel_rfl) (by kernel_rfl) (by kernel_rfl) (fun _ _ _ h => h) (Or.inl ⟨by rfl, ?_⟩) (by assumption) ?_
    rotate_left 1
    focus (intro w hSw; (try dsimp only at hSw); obtain ⟨c0, c1⟩ := HX.out _ hSw; go_simp; (try with_reducible rfl))
    (try simp only [Act.put, List.getElem_toArray, List.getElem_cons_succ, List.getElem_cons_zero, List.setIfInBounds_toArray, List.set_cons_zero, List.set_cons_succ])
    refine wpAnyH_take (i := 1) (v := ?_) rfl (by kernel_rfl) (by kernel_rfl) (by kernel_rfl) (fun _ _ _ h => h) (Or.inl ⟨by rfl, ?_⟩) (by assumption) ?_
    rotate_left 1
    focus (intro w hSw; (try dsimp only at hSw); obtain ⟨c0, c1⟩ := HX.out _ hSw; go_simp; (try with_reducible rfl))
    (try simp only [Act.put, List.getElem_toArray, List.getElem_cons_succ, List.getElem_cons_zero, List.setIfInBounds_toArray, List.set_cons_zero, List.set_cons_succ])
    refine wpAnyH_take (i := 2) (v := ?_) rfl (by kernel_rfl) (by kernel_rfl) (by kernel_rfl) (fun _ _ _ h => h) (Or.inl ⟨by rfl, ?_⟩) (by assumption) ?_
    rotate_left 1
    focus (intro w hSw; (try dsimp only at hSw); obtain ⟨c0, c1⟩ := HX.out _ hSw; go_simp; (try with_reducible rfl))
    (try simp only [Act.put, List.getElem_toArray, List.getElem_cons_succ, List.getElem_cons_zero, List.setIfInBounds_toArray, List.set_cons_zero, List.set_cons_succ])
    refine wpAnyH_take (i := 3) (v := ?_) rfl (by kernel_rfl) (by kernel_rfl) (by kernel_rfl) (fun _ _ _ h => h) (Or.inl ⟨by rfl, ?_⟩) (by assumption) ?_
    rotate_left 1
    focus (intro w hSw; (try dsimp only at hSw); obtain ⟨c0, c1⟩ := HX.out _ hSw; go_simp; (try with_reducible rfl))
    (try simp only [Act.put, List.getElem_toArray, List.getElem_cons_succ, List.getElem_cons_zero, List.setIfInBounds_toArray, List.set_cons_zero, List.set_cons_succ])
    refine wpAnyH_take (i := 5) (v := ?_) rfl (by kernel_rfl) (by kernel_rfl) (by kernel_rfl) (fun _ _ _ h => h) (Or.inl ⟨by rfl, ?_⟩) (by assumption) ?_
    rotate_left 1
    focus (intro w hSw; (try dsimp only at hSw); obtain ⟨c0, c1⟩ := HX.out _ hSw; go_simp; (try with_reducible rfl))
    (try simp only [Act.put, List.getElem_toArray, List.getElem_cons_succ, List.getElem_cons_zero, List.setIfInBounds_toArray, List.set_cons_zero, List.set_cons_succ])
    refine wpAnyH_take (i := 6) (v := ?_) rfl (by kernel_rfl) (by kernel_rfl) (by kernel_rfl) (fun _ _ _ h => h) (Or.inl ⟨by rfl, ?_⟩) (by assumption) ?_
    rotate_left 1
    focus (intro w hSw; (try dsimp only at hSw); obtain ⟨c0, c1⟩ := HX.out _ hSw; go_simp; (try with_reducible rfl))
    (try simp only [Act.put, List.getElem_toArray, List.getElem_cons_succ, List.getElem_cons_zero, List.setIfInBounds_toArray, List.set_cons_zero, List.set_cons_succ])
    refine wpAnyH_ready (rs := [4]) (by kernel_rfl) (by simp) ?_
    refine AllReadyH.cons rfl (fun K hK => ?_) AllReadyH.nil
    go_simp
    refine (num_any 1 pb _ [] false _ (HA2.out.frm0 ((Frm.refl (fun _ => False) wz).drew)) (by decide) (by decide)).mono ?_
    rintro e w4 ⟨v4, rfl, hA4, hown4, hf4⟩
    have hF4 : Frm (fun k => lb < k ∧ ¬ k = d) wz w4 := ((Frm.refl _ wz).drew).then_ hf4 (fun i hi e => e.elim (fun e => by constructor <;> omega) (fun e => by cases e))
    (try go_wp2_with fail)
    refine hK.out _ _ hF4 (fun hHeld => ?_)
    clear hK K
    (try simp only [Act.put, List.getElem_toArray, List.getElem_cons_succ, List.getElem_cons_zero, List.setIfInBounds_toArray, List.set_cons_zero, List.set_cons_succ])
    refine wpAnyH_ready (rs := [7]) (by kernel_rfl) (by simp) ?_
    refine AllReadyH.cons rfl (fun K hK => ?_) AllReadyH.nil
    go_simp
    have hdk4 := hF4.blk HD2.out (show ¬ (lb < d ∧ ¬ d = d) from fun h => h.2 rfl)
    have hne4 := own_not hA4.row hdk4 (by decide)
    refine (knum l.kind pb v4 _ w4 hA4 (by rw [List.nil_append]; exact num9 1 (by decide))).mono ?_
    rintro e w5 ⟨v5, L5, b5, rfl, hA5, hL5, hk5, hf5⟩
    have hF5 : Frm (fun k => lb < k ∧ ¬ k = d) wz w5 := hF4.then_ hf5 (fun i hi e => by
      rcases e with e | e
      · constructor <;> omega
      · have h1 := hA4.own i e
        exact ⟨by omega, fun e2 => hne4 (e2 ▸ e)⟩)
    (try go_wp2_with fail)
    refine hK.out _ _ hF5 (fun hHeld => ?_)
    clear hK K
    (try simp only [Act.put, List.getElem_toArray, List.getElem_cons_succ, List.getElem_cons_zero, List.setIfInBounds_toArray, List.set_cons_zero, List.set_cons_succ])
    refine wpAnyH_done (by kernel_rfl) ?_ _
    have hb5 := hF5.blk HB2.out (show ¬ (lb < lb ∧ ¬ lb = d) from fun h => Nat.lt_irrefl _ h.1)
    have hdk5 := hF5.blk HD2.out (show ¬ (lb < d ∧ ¬ d = d) from fun h => h.2 rfl)
    go_wp2_with fail
    refine (letter_any (K := 18) (ok := ok) (L := numB 1 ++ numB l.kind.toNat) l v5 L5 b5 hdk5 hA5 hL5 hk5 hb5 hpd hlp (by decide) hz).mono ?_
    rintro e w6 ⟨rfl, h6, hf6⟩
    have hF6 : Frm0 w w6 := ((HF2.then_ hF5 (fun i hi e => by first | omega | (simp only at e; omega))).then_ hf6 (fun i hi e => by first | omega | (simp only at e; omega)))
    obtain ⟨d0, d1, d2⟩ := Bk.c3 h6.dk
    obtain ⟨v6, L6, b6, hA6, hL6, hok6⟩ := h6.pk
    clear h6
    cases hc : chk ok l
    · rw [hc] at d2
      go_wp2_with fail
      go_returns
      exact ⟨by simp [packed, hc], hF6⟩
    · rw [hc] at d2
      obtain ⟨rfl, rfl⟩ := hok6 hc
      go_wp2_with fail
      refine (ok_any pb v6 _ false _ hA6).mono ?_
      rintro e w7 ⟨rfl, rfl⟩
      go_wp2_with fail
      refine (string_ok pb v6 _ _ hA6 (by omega)).mono ?_
      rintro e w8 ⟨rfl, rfl⟩
      go_wp2
      go_returns
      exact ⟨by simp [packed, hc], hF6⟩
  · rw [if_pos (by rfl)]
    go_simp
    refine (alone_any l _).mono ?_
    rintro e w3 ⟨rfl, hf3⟩
    have hD3 := Frm.trans ((Frm.refl (fun _ => False) (w.alloc (.cells #[.int .i64 l.kind, .int .i64 l.rq.client, .int .i64 l.rq.serial, .int .i64 l.rq.tenant, .string l.rq.key, .string l.rq.method, .string l.rq.path, .string l.rq.body, .int .i64 l.an.client, .int .i64 l.an.serial, .int .i64 l.an.status, .string l.an.text, .int .i64 l.an.after, .int .i64 l.an.epoch, .int .i64 l.cl.tenant, .string l.cl.key, .int .i64 l.cl.epoch, .int .i64 l.cl.phase, .int .i64 l.cl.token, .string l.cl.name, .string l.cl.body, .int .i64 l.rp.tenant, .string l.rp.key, .int .i64 l.rp.epoch, .int .i64 l.rp.phase, .int .i64 l.rp.token, .int .i64 l.rp.code] 31))).drew) hf3
    (try go_wp2_with fail)
    refine hK.out _ _ hD3 (fun hHeld => ?_)
    clear hK K
    (try simp only [Act.put, List.getElem_toArray, List.getElem_cons_succ, List.getElem_cons_zero, List.setIfInBounds_toArray, List.set_cons_zero, List.set_cons_succ])
    refine wpAnyH_take (i := 5) (v := .bool ok) rfl (by kernel_rfl) (by kernel_rfl) (by kernel_rfl) (fun _ _ _ h => h) (Or.inl ⟨by rfl, ?_⟩) (by assumption) ?_
    focus (intro w9 hSw; go_simp; first | done | exact HE w9)
    (try simp only [Act.put, List.getElem_toArray, List.getElem_cons_succ, List.getElem_cons_zero, List.setIfInBounds_toArray, List.set_cons_zero, List.set_cons_succ])
    refine wpAnyH_ready (rs := [1]) (by kernel_rfl) (by simp) ?_
    refine AllReadyH.cons rfl (fun K hK => ?_) AllReadyH.nil
    rw [if_pos (by rfl)]
    go_simp
    refine hK.out _ _ (Frm.alloc (hD3) _) (fun hHeld => ?_)
    clear hK K
    (try simp only [Act.put, List.getElem_toArray, List.getElem_cons_succ, List.getElem_cons_zero, List.setIfInBounds_toArray, List.set_cons_zero, List.set_cons_succ])
    refine wpAnyH_take (i := 6) (v := ?_) rfl (by kernel_rfl) (by kernel_rfl) (by kernel_rfl) (fun _ _ _ h => h) (Or.inl ⟨by rfl, ?_⟩) (by assumption) ?_
    rotate_left 1
    focus (intro w hSw; (try dsimp only at hSw); go_simp; (try with_reducible rfl))
    (try simp only [Act.put, List.getElem_toArray, List.getElem_cons_succ, List.getElem_cons_zero, List.setIfInBounds_toArray, List.set_cons_zero, List.set_cons_succ])
    refine wpAnyH_ready (rs := [7]) (by kernel_rfl) (by simp) ?_
    refine AllReadyH.cons rfl (fun K hK => ?_) AllReadyH.nil
    rw [if_pos (by rfl)]
    go_simp
    refine hK.out _ _ (Frm.alloc (hD3.alloc (.cells #[.slice none 0 0, .bool false] 83)) _) (fun hHeld => ?_)
    clear hK K
    (try simp only [Act.put, List.getElem_toArray, List.getElem_cons_succ, List.getElem_cons_zero, List.setIfInBounds_toArray, List.set_cons_zero, List.set_cons_succ])
    refine wpAnyH_take (i := 8) (v := ?_) rfl (by kernel_rfl) (by kernel_rfl) (by kernel_rfl) (fun _ _ _ h => h) (Or.inl ⟨by rfl, ?_⟩) (by assumption) ?_
    rotate_left 1
    focus (intro w hSw; (try dsimp only at hSw); go_simp; (try with_reducible rfl))
    (try simp only [Act.put, List.getElem_toArray, List.getElem_cons_succ, List.getElem_cons_zero, List.setIfInBounds_toArray, List.set_cons_zero, List.set_cons_succ])
    refine wpAnyH_done (by kernel_rfl) ?_ _
    have hszz : w.heap.size + 1 ≤ w3.heap.size := by have := hf3.size; simp at this; omega
    have hfz : Frm0 (w.alloc (.cells #[.int .i64 l.kind, .int .i64 l.rq.client, .int .i64 l.rq.serial, .int .i64 l.rq.tenant, .string l.rq.key, .string l.rq.method, .string l.rq.path, .string l.rq.body, .int .i64 l.an.client, .int .i64 l.an.serial, .int .i64 l.an.status, .string l.an.text, .int .i64 l.an.after, .int .i64 l.an.epoch, .int .i64 l.cl.tenant, .string l.cl.key, .int .i64 l.cl.epoch, .int .i64 l.cl.phase, .int .i64 l.cl.token, .string l.cl.name, .string l.cl.body, .int .i64 l.rp.tenant, .string l.rp.key, .int .i64 l.rp.epoch, .int .i64 l.rp.phase, .int .i64 l.rp.token, .int .i64 l.rp.code] 31)) (w3.alloc (.cells #[.slice none 0 0, .bool false] 83)) := hD3.alloc _
    have hFz : Frm0 (w.alloc (.cells #[.int .i64 l.kind, .int .i64 l.rq.client, .int .i64 l.rq.serial, .int .i64 l.rq.tenant, .string l.rq.key, .string l.rq.method, .string l.rq.path, .string l.rq.body, .int .i64 l.an.client, .int .i64 l.an.serial, .int .i64 l.an.status, .string l.an.text, .int .i64 l.an.after, .int .i64 l.an.epoch, .int .i64 l.cl.tenant, .string l.cl.key, .int .i64 l.cl.epoch, .int .i64 l.cl.phase, .int .i64 l.cl.token, .string l.cl.name, .string l.cl.body, .int .i64 l.rp.tenant, .string l.rp.key, .int .i64 l.rp.epoch, .int .i64 l.rp.phase, .int .i64 l.rp.token, .int .i64 l.rp.code] 31)) ((w3.alloc (.cells #[.slice none 0 0, .bool false] 83)).alloc (.cells #[.pointer (some ⟨w3.heap.size, 0, none⟩), .pointer none, .bool ok] 87)) := hfz.alloc _
    have hb2 := hFz.blk HB.out (fun h => h)
    have hpk0 : (w3.alloc (.cells #[.slice none 0 0, .bool false] 83)).heap[w3.heap.size]? = some (.cells #[.slice none 0 0, .bool false] 83) := Bk.new _ _
    have hpk2 : ((w3.alloc (.cells #[.slice none 0 0, .bool false] 83)).alloc (.cells #[.pointer (some ⟨w3.heap.size, 0, none⟩), .pointer none, .bool ok] 87)).heap[w3.heap.size]? = some (.cells #[.slice none 0 0, .bool false] 83) := ((Frm.refl (fun _ => False) (w3.alloc (.cells #[.slice none 0 0, .bool false] 83))).alloc _).blk hpk0 (fun h => h)
    have hA2 : At ((w3.alloc (.cells #[.slice none 0 0, .bool false] 83)).alloc (.cells #[.pointer (some ⟨w3.heap.size, 0, none⟩), .pointer none, .bool ok] 87)) (w3.heap.size) (.slice none 0 0) [] false := ⟨hpk2, World.ownsRow_nil _ _ _ _, by simp⟩
    have hdk2 : ((w3.alloc (.cells #[.slice none 0 0, .bool false] 83)).alloc (.cells #[.pointer (some ⟨w3.heap.size, 0, none⟩), .pointer none, .bool ok] 87)).heap[w3.heap.size + 1]? = some (.cells #[.pointer (some ⟨w3.heap.size, 0, none⟩), .pointer none, .bool ok] 87) := by have := Bk.new (w3.alloc (.cells #[.slice none 0 0, .bool false] 83)) (.cells #[.pointer (some ⟨w3.heap.size, 0, none⟩), .pointer none, .bool ok] 87); simpa using this
    have HF2 : Frm0 w ((w3.alloc (.cells #[.slice none 0 0, .bool false] 83)).alloc (.cells #[.pointer (some ⟨w3.heap.size, 0, none⟩), .pointer none, .bool ok] 87)) := hF1.trans hFz
    clear HB hD3 hf3 hHeld HE hFz hfz hsz hF1 hpk0 hpk2
    generalize ((w3.alloc (.cells #[.slice none 0 0, .bool false] 83)).alloc (.cells #[.pointer (some ⟨w3.heap.size, 0, none⟩), .pointer none, .bool ok] 87)) = wz at *
    generalize hd : w3.heap.size + 1 = d at *
    generalize hpb : w3.heap.size = pb at *
    generalize hlbe : w.heap.size = lb at *
    have hpd : pb < d := by omega
    have hlp : lb < pb := by omega
    clear hd hpb hszz
    go_upto_region 2 with (fail)
    have HB2 := Lib.hid hb2
    have HA2 := Lib.hid hA2
    have HD2 := Lib.hid hdk2
    have hx := (fun (w9 : World) (hf : Frm (fun k => lb < k ∧ ¬ k = d) wz w9) => And.intro (hf.cell (a := ⟨lb, 0, none⟩) (v := .int .i64 l.kind) (by rw [Bk.cell hb2]; rfl) (show ¬ (lb < lb ∧ ¬ lb = d) from fun h => Nat.lt_irrefl _ h.1)) (hf.cell (a := ⟨d, 0, none⟩) (v := .pointer (some ⟨pb, 0, none⟩)) (by rw [Bk.cell hdk2]; rfl) (show ¬ (lb < d ∧ ¬ d = d) from fun h => h.2 rfl)))
    have HX := Lib.hid hx
    clear hx hb2 hA2 hdk2
    refine wp_region_held_drew (S := fun w9 => Frm (fun k => lb < k ∧ ¬ k = d) wz w9) (by kernel_rfl) ((Frm.refl _ wz).drew) (fun hHeld => ?_)
    refine wpAnyH_take (i := 0) (v := ?_) rfl (by kernel_rfl) (by kernel_rfl) (by kernel_rfl) (fun _ _ _ h => h) (Or.inl ⟨by rfl, ?_⟩) (by assumption) ?_
    rotate_left 1
    focus (intro w hSw; (try dsimp only at hSw); obtain ⟨c0, c1⟩ := HX.out _ hSw; go_simp; (try with_reducible rfl))
    (try simp only [Act.put, List.getElem_toArray, List.getElem_cons_succ, List.getElem_cons_zero, List.setIfInBounds_toArray, List.set_cons_zero, List.set_cons_succ])
    refine wpAnyH_take (i := 1) (v := ?_) rfl (by kernel_rfl) (by kernel_rfl) (by kernel_rfl) (fun _ _ _ h => h) (Or.inl ⟨by rfl, ?_⟩) (by assumption) ?_
    rotate_left 1
    focus (intro w hSw; (try dsimp only at hSw); obtain ⟨c0, c1⟩ := HX.out _ hSw; go_simp; (try with_reducible rfl))
    (try simp only [Act.put, List.getElem_toArray, List.getElem_cons_succ, List.getElem_cons_zero, List.setIfInBounds_toArray, List.set_cons_zero, List.set_cons_succ])
    refine wpAnyH_take (i := 2) (v := ?_) rfl (by kernel_rfl) (by kernel_rfl) (by kernel_rfl) (fun _ _ _ h => h) (Or.inl ⟨by rfl, ?_⟩) (by assumption) ?_
    rotate_left 1
    focus (intro w hSw; (try dsimp only at hSw); obtain ⟨c0, c1⟩ := HX.out _ hSw; go_simp; (try with_reducible rfl))
    (try simp only [Act.put, List.getElem_toArray, List.getElem_cons_succ, List.getElem_cons_zero, List.setIfInBounds_toArray, List.set_cons_zero, List.set_cons_succ])
    refine wpAnyH_take (i := 3) (v := ?_) rfl (by kernel_rfl) (by kernel_rfl) (by kernel_rfl) (fun _ _ _ h => h) (Or.inl ⟨by rfl, ?_⟩) (by assumption) ?_
    rotate_left 1
    focus (intro w hSw; (try dsimp only at hSw); obtain ⟨c0, c1⟩ := HX.out _ hSw; go_simp; (try with_reducible rfl))
    (try simp only [Act.put, List.getElem_toArray, List.getElem_cons_succ, List.getElem_cons_zero, List.setIfInBounds_toArray, List.set_cons_zero, List.set_cons_succ])
    refine wpAnyH_take (i := 5) (v := ?_) rfl (by kernel_rfl) (by kernel_rfl) (by kernel_rfl) (fun _ _ _ h => h) (Or.inl ⟨by rfl, ?_⟩) (by assumption) ?_
    rotate_left 1
    focus (intro w hSw; (try dsimp only at hSw); obtain ⟨c0, c1⟩ := HX.out _ hSw; go_simp; (try with_reducible rfl))
    (try simp only [Act.put, List.getElem_toArray, List.getElem_cons_succ, List.getElem_cons_zero, List.setIfInBounds_toArray, List.set_cons_zero, List.set_cons_succ])
    refine wpAnyH_take (i := 6) (v := ?_) rfl (by kernel_rfl) (by kernel_rfl) (by kernel_rfl) (fun _ _ _ h => h) (Or.inl ⟨by rfl, ?_⟩) (by assumption) ?_
    rotate_left 1
    focus (intro w hSw; (try dsimp only at hSw); obtain ⟨c0, c1⟩ := HX.out _ hSw; go_simp; (try with_reducible rfl))
    (try simp only [Act.put, List.getElem_toArray, List.getElem_cons_succ, List.getElem_cons_zero, List.setIfInBounds_toArray, List.set_cons_zero, List.set_cons_succ])
    refine wpAnyH_ready (rs := [4]) (by kernel_rfl) (by simp) ?_
    refine AllReadyH.cons rfl (fun K hK => ?_) AllReadyH.nil
    go_simp
    refine (num_any 1 pb _ [] false _ (HA2.out.frm0 ((Frm.refl (fun _ => False) wz).drew)) (by decide) (by decide)).mono ?_
    rintro e w4 ⟨v4, rfl, hA4, hown4, hf4⟩
    have hF4 : Frm (fun k => lb < k ∧ ¬ k = d) wz w4 := ((Frm.refl _ wz).drew).then_ hf4 (fun i hi e => e.elim (fun e => by constructor <;> omega) (fun e => by cases e))
    (try go_wp2_with fail)
    refine hK.out _ _ hF4 (fun hHeld => ?_)
    clear hK K
    (try simp only [Act.put, List.getElem_toArray, List.getElem_cons_succ, List.getElem_cons_zero, List.setIfInBounds_toArray, List.set_cons_zero, List.set_cons_succ])
    refine wpAnyH_ready (rs := [7]) (by kernel_rfl) (by simp) ?_
    refine AllReadyH.cons rfl (fun K hK => ?_) AllReadyH.nil
    go_simp
    have hdk4 := hF4.blk HD2.out (show ¬ (lb < d ∧ ¬ d = d) from fun h => h.2 rfl)
    have hne4 := own_not hA4.row hdk4 (by decide)
    refine (knum l.kind pb v4 _ w4 hA4 (by rw [List.nil_append]; exact num9 1 (by decide))).mono ?_
    rintro e w5 ⟨v5, L5, b5, rfl, hA5, hL5, hk5, hf5⟩
    have hF5 : Frm (fun k => lb < k ∧ ¬ k = d) wz w5 := hF4.then_ hf5 (fun i hi e => by
      rcases e with e | e
      · constructor <;> omega
      · have h1 := hA4.own i e
        exact ⟨by omega, fun e2 => hne4 (e2 ▸ e)⟩)
    (try go_wp2_with fail)
    refine hK.out _ _ hF5 (fun hHeld => ?_)
    clear hK K
    (try simp only [Act.put, List.getElem_toArray, List.getElem_cons_succ, List.getElem_cons_zero, List.setIfInBounds_toArray, List.set_cons_zero, List.set_cons_succ])
    refine wpAnyH_done (by kernel_rfl) ?_ _
    have hb5 := hF5.blk HB2.out (show ¬ (lb < lb ∧ ¬ lb = d) from fun h => Nat.lt_irrefl _ h.1)
    have hdk5 := hF5.blk HD2.out (show ¬ (lb < d ∧ ¬ d = d) from fun h => h.2 rfl)
    go_wp2_with fail
    refine (letter_any (K := 18) (ok := ok) (L := numB 1 ++ numB l.kind.toNat) l v5 L5 b5 hdk5 hA5 hL5 hk5 hb5 hpd hlp (by decide) hz).mono ?_
    rintro e w6 ⟨rfl, h6, hf6⟩
    have hF6 : Frm0 w w6 := ((HF2.then_ hF5 (fun i hi e => by first | omega | (simp only at e; omega))).then_ hf6 (fun i hi e => by first | omega | (simp only at e; omega)))
    obtain ⟨d0, d1, d2⟩ := Bk.c3 h6.dk
    obtain ⟨v6, L6, b6, hA6, hL6, hok6⟩ := h6.pk
    clear h6
    cases hc : chk ok l
    · rw [hc] at d2
      go_wp2_with fail
      go_returns
      exact ⟨by simp [packed, hc], hF6⟩
    · rw [hc] at d2
      obtain ⟨rfl, rfl⟩ := hok6 hc
      go_wp2_with fail
      refine (ok_any pb v6 _ false _ hA6).mono ?_
      rintro e w7 ⟨rfl, rfl⟩
      go_wp2_with fail
      refine (string_ok pb v6 _ _ hA6 (by omega)).mono ?_
      rintro e w8 ⟨rfl, rfl⟩
      go_wp2
      go_returns
      exact ⟨by simp [packed, hc], hF6⟩
end
end Lt
end Go.Proofs.Ythggbohoedfkpaa
