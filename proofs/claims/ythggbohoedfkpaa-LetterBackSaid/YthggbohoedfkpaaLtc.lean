/- Letters: the desk that packs: a letter of each kind. -/
import Derived.Test.YthggbohoedfkpaaLtb
import Derived.Deep.QuietTactic
import Derived.BigQuiet
namespace Go.Proofs.Ythggbohoedfkpaa
open Go.RowKit Pk
set_option linter.unusedVariables false
set_option linter.unusedSimpArgs false
set_option maxRecDepth 100000
namespace Lt
def nf (n most : Int) : Bool := decide (0 ≤ n) && decide (n ≤ most)
def tf (s : ByteArray) (most : Int) : Bool := decide ((s.size : Int) ≤ most)
def nl (n : Int) : List Nat := numB n.toNat
def tx (s : ByteArray) : List Nat := numB s.size ++ bytes s
section
variable {w w1 : World} {d pb K lb off : Nat} {ok : Bool} {L : List Nat} {S : Nat → Prop}
theorem PS.frm (h : PS w d pb K ok L) (hf : Frm S w w1) (hd : ¬ S d) (hp : ∀ v L' bad k, At w pb v L' bad → k = pb ∨ v.ownBlock = some k → ¬ S k) : PS w1 d pb K ok L := by
  obtain ⟨v, L', bad, hA, h1, h2⟩ := h.pk
  exact ⟨hf.blk h.dk hd, v, L', bad, hA.frm hf (hp v L' bad pb hA (.inl rfl)) (fun k hk => hp v L' bad k hA (.inr hk)), h1, h2⟩
theorem PS.frm0 (h : PS w d pb K ok L) (hf : Frm0 w w1) : PS w1 d pb K ok L := h.frm hf (fun h => h) (fun _ _ _ _ _ _ h => h)
theorem PS.drew (h : PS w d pb K ok L) : PS w.drew d pb K ok L := h.frm0 (Frm.refl _ w).drew
theorem PS.drewN (h : PS w d pb K ok L) (n : Nat) : PS (w.drewN n) d pb K ok L := h.frm0 ((Frm.refl _ w).drewN n)
set_option maxHeartbeats 2000000 in
theorem life_p (t e p o : Int) (k : ByteArray) (off : Nat) (h : PS w d pb K ok L) (hd : pb < d) (h0 : w.cell? ⟨lb, off, none⟩ = some (.int .i64 t)) (h1 : w.cell? ⟨lb, off + 1, none⟩ = some (.string k)) (h2 : w.cell? ⟨lb, off + 2, none⟩ = some (.int .i64 e)) (h3 : w.cell? ⟨lb, off + 3, none⟩ = some (.int .i64 p)) (h4 : w.cell? ⟨lb, off + 4, none⟩ = some (.int .i64 o)) (hlb : lb < pb) (hK : K ≤ 5000) (hs : k.size ≤ 1000) :
    Calls Try.prog 61 #[.pointer (some ⟨d, 0, none⟩), .pointer (some ⟨lb, off, none⟩), .pointer (some ⟨lb, off + 1, none⟩), .pointer (some ⟨lb, off + 2, none⟩), .pointer (some ⟨lb, off + 3, none⟩), .pointer (some ⟨lb, off + 4, none⟩)] w fun e_ w' =>
      e_ = .returned (.tuple #[]) ∧ PS w' d pb (K + 9 + 1009 + 9 + 9 + 9) (ok && nf t 1073741824 && tf k 24 && nf e 1073741824 && nf p 5 && nf o 1073741824) (L ++ nl t ++ tx k ++ nl e ++ nl p ++ nl o) ∧ Frm (fun k => pb ≤ k) w w' := by
  have hn : ∀ k, (fun k => pb ≤ k) k → lb ≠ k := fun k hk => by simp at hk; omega
  go_enter Try.func61, Try.ntmps61
  go_wp2_with fail
  refine (dnum_p t _ h hd h0 hlb (by omega) (by decide)).mono ?_
  rintro e_ w1 ⟨rfl, h, hf1⟩
  have h1 := hf1.cell h1 (fun h => hn _ h rfl)
  have h2 := hf1.cell h2 (fun h => hn _ h rfl)
  have h3 := hf1.cell h3 (fun h => hn _ h rfl)
  have h4 := hf1.cell h4 (fun h => hn _ h rfl)
  have hF := hf1
  clear hf1
  go_wp2_with fail
  refine (dtext_p k _ h hd h1 hlb (by omega) hs).mono ?_
  rintro e_ w1 ⟨rfl, h, hf1⟩
  have h2 := hf1.cell h2 (fun h => hn _ h rfl)
  have h3 := hf1.cell h3 (fun h => hn _ h rfl)
  have h4 := hf1.cell h4 (fun h => hn _ h rfl)
  have hF := hF.trans hf1
  clear hf1
  go_wp2_with fail
  refine (dnum_p e _ h hd h2 hlb (by omega) (by decide)).mono ?_
  rintro e_ w1 ⟨rfl, h, hf1⟩
  have h3 := hf1.cell h3 (fun h => hn _ h rfl)
  have h4 := hf1.cell h4 (fun h => hn _ h rfl)
  have hF := hF.trans hf1
  clear hf1
  go_wp2_with fail
  refine (dnum_p p _ h hd h3 hlb (by omega) (by decide)).mono ?_
  rintro e_ w1 ⟨rfl, h, hf1⟩
  have h4 := hf1.cell h4 (fun h => hn _ h rfl)
  have hF := hF.trans hf1
  clear hf1
  go_wp2_with fail
  refine (dnum_p o _ h hd h4 hlb (by omega) (by decide)).mono ?_
  rintro e_ w1 ⟨rfl, h, hf1⟩
  have hF := hF.trans hf1
  clear hf1
  go_wp2
  go_returns
  exact ⟨rfl, h, hF⟩
set_option maxHeartbeats 4000000 in
theorem letter_p1 (l : Ltr) (hk : l.kind = 1) (h : PS w d pb K ok L) (hb : w.heap[lb]? = some (.cells l.cells.toArray 31 (0, 0))) (hd : pb < d) (hlb : lb < pb) (hK : K ≤ 1000) (hskey : (l.rq.key).size ≤ 1000) (hsmethod : (l.rq.method).size ≤ 1000) (hspath : (l.rq.path).size ≤ 1000) (hsbody : (l.rq.body).size ≤ 1000) :
    Calls Try.prog 41 #[.pointer (some ⟨d, 0, none⟩), .pointer (some ⟨lb, 0, none⟩)] w fun e w' =>
      e = .returned (.tuple #[]) ∧ PS w' d pb (K + 9 + 9 + 9 + 1009 + 1009 + 1009 + 1009) (ok && nf (l.rq.client) 1073741824 && nf (l.rq.serial) 1073741824 && nf (l.rq.tenant) 1073741824 && tf (l.rq.key) 60 && tf (l.rq.method) 60 && tf (l.rq.path) 100 && tf (l.rq.body) 200) (L ++ nl (l.rq.client) ++ nl (l.rq.serial) ++ nl (l.rq.tenant) ++ tx (l.rq.key) ++ tx (l.rq.method) ++ tx (l.rq.path) ++ tx (l.rq.body)) ∧ Frm (fun k => pb ≤ k) w w' := by
  have x0 : w.cell? ⟨lb, 0, none⟩ = some (.int .i64 1) := by rw [Bk.cell hb]; show some (Value.int .i64 l.kind) = _; rw [hk]
  have hF := Frm.refl (fun k => pb ≤ k) w
  go_enter Try.func41, Try.ntmps41
  go_upto_region 0 with (fail)
  go_quiet (fail)
  have h := h.drewN nq
  have hb := Bk.drewN hb nq
  have hF := hF.drewN nq
  go_wp2_with fail
  refine (dnum_p (lb := lb) (off := 1) (l.rq.client) _ h hd (show _ = some (Value.int .i64 (l.rq.client)) by rw [Bk.cell hb]; rfl) hlb (by omega) (by decide)).mono ?_
  rintro e w1 ⟨rfl, h, hf1⟩
  have hb := hf1.blk hb (show ¬ pb ≤ lb by omega)
  have hF := hF.trans hf1
  clear hf1
  go_wp2_with fail
  refine (dnum_p (lb := lb) (off := 2) (l.rq.serial) _ h hd (show _ = some (Value.int .i64 (l.rq.serial)) by rw [Bk.cell hb]; rfl) hlb (by omega) (by decide)).mono ?_
  rintro e w1 ⟨rfl, h, hf1⟩
  have hb := hf1.blk hb (show ¬ pb ≤ lb by omega)
  have hF := hF.trans hf1
  clear hf1
  go_wp2_with fail
  refine (dnum_p (lb := lb) (off := 3) (l.rq.tenant) _ h hd (show _ = some (Value.int .i64 (l.rq.tenant)) by rw [Bk.cell hb]; rfl) hlb (by omega) (by decide)).mono ?_
  rintro e w1 ⟨rfl, h, hf1⟩
  have hb := hf1.blk hb (show ¬ pb ≤ lb by omega)
  have hF := hF.trans hf1
  clear hf1
  go_wp2_with fail
  refine (dtext_p (lb := lb) (off := 4) (l.rq.key) _ h hd (show _ = some (Value.string (l.rq.key)) by rw [Bk.cell hb]; rfl) hlb (by omega) (by omega)).mono ?_
  rintro e w1 ⟨rfl, h, hf1⟩
  have hb := hf1.blk hb (show ¬ pb ≤ lb by omega)
  have hF := hF.trans hf1
  clear hf1
  go_wp2_with fail
  refine (dtext_p (lb := lb) (off := 5) (l.rq.method) _ h hd (show _ = some (Value.string (l.rq.method)) by rw [Bk.cell hb]; rfl) hlb (by omega) (by omega)).mono ?_
  rintro e w1 ⟨rfl, h, hf1⟩
  have hb := hf1.blk hb (show ¬ pb ≤ lb by omega)
  have hF := hF.trans hf1
  clear hf1
  go_wp2_with fail
  refine (dtext_p (lb := lb) (off := 6) (l.rq.path) _ h hd (show _ = some (Value.string (l.rq.path)) by rw [Bk.cell hb]; rfl) hlb (by omega) (by omega)).mono ?_
  rintro e w1 ⟨rfl, h, hf1⟩
  have hb := hf1.blk hb (show ¬ pb ≤ lb by omega)
  have hF := hF.trans hf1
  clear hf1
  go_wp2_with fail
  refine (dtext_p (lb := lb) (off := 7) (l.rq.body) _ h hd (show _ = some (Value.string (l.rq.body)) by rw [Bk.cell hb]; rfl) hlb (by omega) (by omega)).mono ?_
  rintro e w1 ⟨rfl, h, hf1⟩
  have hb := hf1.blk hb (show ¬ pb ≤ lb by omega)
  have hF := hF.trans hf1
  clear hf1
  go_wp2_with fail
  go_returns
  exact ⟨rfl, h, hF⟩

set_option maxHeartbeats 4000000 in
theorem letter_p2 (l : Ltr) (hk : l.kind = 2) (h : PS w d pb K ok L) (hb : w.heap[lb]? = some (.cells l.cells.toArray 31 (0, 0))) (hd : pb < d) (hlb : lb < pb) (hK : K ≤ 1000) (hstext : (l.an.text).size ≤ 1000) :
    Calls Try.prog 41 #[.pointer (some ⟨d, 0, none⟩), .pointer (some ⟨lb, 0, none⟩)] w fun e w' =>
      e = .returned (.tuple #[]) ∧ PS w' d pb (K + 9 + 9 + 9 + 1009 + 9 + 9) (ok && nf (l.an.client) 1073741824 && nf (l.an.serial) 1073741824 && nf (l.an.status) 999 && tf (l.an.text) 40 && nf (l.an.after) 1099511627776 && nf (l.an.epoch) 1073741824) (L ++ nl (l.an.client) ++ nl (l.an.serial) ++ nl (l.an.status) ++ tx (l.an.text) ++ nl (l.an.after) ++ nl (l.an.epoch)) ∧ Frm (fun k => pb ≤ k) w w' := by
  have x0 : w.cell? ⟨lb, 0, none⟩ = some (.int .i64 2) := by rw [Bk.cell hb]; show some (Value.int .i64 l.kind) = _; rw [hk]
  have hF := Frm.refl (fun k => pb ≤ k) w
  go_enter Try.func41, Try.ntmps41
  go_upto_region 0 with (fail)
  go_quiet (fail)
  have h := h.drewN nq
  have hb := Bk.drewN hb nq
  have hF := hF.drewN nq
  go_wp2_with fail
  refine (dnum_p (lb := lb) (off := 8) (l.an.client) _ h hd (show _ = some (Value.int .i64 (l.an.client)) by rw [Bk.cell hb]; rfl) hlb (by omega) (by decide)).mono ?_
  rintro e w1 ⟨rfl, h, hf1⟩
  have hb := hf1.blk hb (show ¬ pb ≤ lb by omega)
  have hF := hF.trans hf1
  clear hf1
  go_wp2_with fail
  refine (dnum_p (lb := lb) (off := 9) (l.an.serial) _ h hd (show _ = some (Value.int .i64 (l.an.serial)) by rw [Bk.cell hb]; rfl) hlb (by omega) (by decide)).mono ?_
  rintro e w1 ⟨rfl, h, hf1⟩
  have hb := hf1.blk hb (show ¬ pb ≤ lb by omega)
  have hF := hF.trans hf1
  clear hf1
  go_wp2_with fail
  refine (dnum_p (lb := lb) (off := 10) (l.an.status) _ h hd (show _ = some (Value.int .i64 (l.an.status)) by rw [Bk.cell hb]; rfl) hlb (by omega) (by decide)).mono ?_
  rintro e w1 ⟨rfl, h, hf1⟩
  have hb := hf1.blk hb (show ¬ pb ≤ lb by omega)
  have hF := hF.trans hf1
  clear hf1
  go_wp2_with fail
  refine (dtext_p (lb := lb) (off := 11) (l.an.text) _ h hd (show _ = some (Value.string (l.an.text)) by rw [Bk.cell hb]; rfl) hlb (by omega) (by omega)).mono ?_
  rintro e w1 ⟨rfl, h, hf1⟩
  have hb := hf1.blk hb (show ¬ pb ≤ lb by omega)
  have hF := hF.trans hf1
  clear hf1
  go_wp2_with fail
  refine (dnum_p (lb := lb) (off := 12) (l.an.after) _ h hd (show _ = some (Value.int .i64 (l.an.after)) by rw [Bk.cell hb]; rfl) hlb (by omega) (by decide)).mono ?_
  rintro e w1 ⟨rfl, h, hf1⟩
  have hb := hf1.blk hb (show ¬ pb ≤ lb by omega)
  have hF := hF.trans hf1
  clear hf1
  go_wp2_with fail
  refine (dnum_p (lb := lb) (off := 13) (l.an.epoch) _ h hd (show _ = some (Value.int .i64 (l.an.epoch)) by rw [Bk.cell hb]; rfl) hlb (by omega) (by decide)).mono ?_
  rintro e w1 ⟨rfl, h, hf1⟩
  have hb := hf1.blk hb (show ¬ pb ≤ lb by omega)
  have hF := hF.trans hf1
  clear hf1
  go_wp2_with fail
  go_returns
  exact ⟨rfl, h, hF⟩

set_option maxHeartbeats 4000000 in
theorem letter_p3 (l : Ltr) (hk : l.kind = 3) (h : PS w d pb K ok L) (hb : w.heap[lb]? = some (.cells l.cells.toArray 31 (0, 0))) (hd : pb < d) (hlb : lb < pb) (hK : K ≤ 1000) (hskey : (l.cl.key).size ≤ 1000) (hsname : (l.cl.name).size ≤ 1000) (hsbody : (l.cl.body).size ≤ 1000) :
    Calls Try.prog 41 #[.pointer (some ⟨d, 0, none⟩), .pointer (some ⟨lb, 0, none⟩)] w fun e w' =>
      e = .returned (.tuple #[]) ∧ PS w' d pb (K + 9 + 1009 + 9 + 9 + 9 + 1009 + 1009) (ok && nf (l.cl.tenant) 1073741824 && tf (l.cl.key) 24 && nf (l.cl.epoch) 1073741824 && nf (l.cl.phase) 5 && nf (l.cl.token) 1073741824 && tf (l.cl.name) 12 && tf (l.cl.body) 40) (L ++ nl (l.cl.tenant) ++ tx (l.cl.key) ++ nl (l.cl.epoch) ++ nl (l.cl.phase) ++ nl (l.cl.token) ++ tx (l.cl.name) ++ tx (l.cl.body)) ∧ Frm (fun k => pb ≤ k) w w' := by
  have x0 : w.cell? ⟨lb, 0, none⟩ = some (.int .i64 3) := by rw [Bk.cell hb]; show some (Value.int .i64 l.kind) = _; rw [hk]
  have hF := Frm.refl (fun k => pb ≤ k) w
  go_enter Try.func41, Try.ntmps41
  go_upto_region 0 with (fail)
  go_quiet (fail)
  have h := h.drewN nq
  have hb := Bk.drewN hb nq
  have hF := hF.drewN nq
  go_upto_region 19 with (fail)
  refine st_tail 16 (by kernel_rfl) (by kernel_rfl) ?_
  simp only [List.take_succ_cons, List.take_zero, List.drop_succ_cons, List.drop_zero]
  repeat still_step
  refine wpStill_nil ?_
  go_wp2_with fail
  have h := h.drew
  have hb := Bk.drew hb
  have hF := hF.drew
  refine (life_p l.cl.tenant l.cl.epoch l.cl.phase l.cl.token l.cl.key 14 h hd (show _ = some (Value.int .i64 l.cl.tenant) by rw [Bk.cell hb]; rfl) (show _ = some (Value.string l.cl.key) by rw [Bk.cell hb]; rfl) (show _ = some (Value.int .i64 l.cl.epoch) by rw [Bk.cell hb]; rfl) (show _ = some (Value.int .i64 l.cl.phase) by rw [Bk.cell hb]; rfl) (show _ = some (Value.int .i64 l.cl.token) by rw [Bk.cell hb]; rfl) hlb (by omega) (by omega)).mono ?_
  rintro e w1 ⟨rfl, h, hf1⟩
  have hb := hf1.blk hb (show ¬ pb ≤ lb by omega)
  have hF := hF.trans hf1
  clear hf1
  go_wp2_with fail
  refine (dtext_p (lb := lb) (off := 19) (l.cl.name) _ h hd (show _ = some (Value.string (l.cl.name)) by rw [Bk.cell hb]; rfl) hlb (by omega) (by omega)).mono ?_
  rintro e w1 ⟨rfl, h, hf1⟩
  have hb := hf1.blk hb (show ¬ pb ≤ lb by omega)
  have hF := hF.trans hf1
  clear hf1
  go_wp2_with fail
  refine (dtext_p (lb := lb) (off := 20) (l.cl.body) _ h hd (show _ = some (Value.string (l.cl.body)) by rw [Bk.cell hb]; rfl) hlb (by omega) (by omega)).mono ?_
  rintro e w1 ⟨rfl, h, hf1⟩
  have hb := hf1.blk hb (show ¬ pb ≤ lb by omega)
  have hF := hF.trans hf1
  clear hf1
  go_wp2_with fail
  go_returns
  exact ⟨rfl, h, hF⟩

set_option maxHeartbeats 4000000 in
theorem letter_p4 (l : Ltr) (hk : l.kind = 4) (h : PS w d pb K ok L) (hb : w.heap[lb]? = some (.cells l.cells.toArray 31 (0, 0))) (hd : pb < d) (hlb : lb < pb) (hK : K ≤ 1000) (hskey : (l.rp.key).size ≤ 1000) :
    Calls Try.prog 41 #[.pointer (some ⟨d, 0, none⟩), .pointer (some ⟨lb, 0, none⟩)] w fun e w' =>
      e = .returned (.tuple #[]) ∧ PS w' d pb (K + 9 + 1009 + 9 + 9 + 9 + 9) (ok && nf (l.rp.tenant) 1073741824 && tf (l.rp.key) 24 && nf (l.rp.epoch) 1073741824 && nf (l.rp.phase) 5 && nf (l.rp.token) 1073741824 && nf (l.rp.code) 3) (L ++ nl (l.rp.tenant) ++ tx (l.rp.key) ++ nl (l.rp.epoch) ++ nl (l.rp.phase) ++ nl (l.rp.token) ++ nl (l.rp.code)) ∧ Frm (fun k => pb ≤ k) w w' := by
  have x0 : w.cell? ⟨lb, 0, none⟩ = some (.int .i64 4) := by rw [Bk.cell hb]; show some (Value.int .i64 l.kind) = _; rw [hk]
  have hF := Frm.refl (fun k => pb ≤ k) w
  go_enter Try.func41, Try.ntmps41
  go_upto_region 0 with (fail)
  go_quiet (fail)
  have h := h.drewN nq
  have hb := Bk.drewN hb nq
  have hF := hF.drewN nq
  go_upto_region 23 with (fail)
  refine st_tail 16 (by kernel_rfl) (by kernel_rfl) ?_
  simp only [List.take_succ_cons, List.take_zero, List.drop_succ_cons, List.drop_zero]
  repeat still_step
  refine wpStill_nil ?_
  go_wp2_with fail
  have h := h.drew
  have hb := Bk.drew hb
  have hF := hF.drew
  refine (life_p l.rp.tenant l.rp.epoch l.rp.phase l.rp.token l.rp.key 21 h hd (show _ = some (Value.int .i64 l.rp.tenant) by rw [Bk.cell hb]; rfl) (show _ = some (Value.string l.rp.key) by rw [Bk.cell hb]; rfl) (show _ = some (Value.int .i64 l.rp.epoch) by rw [Bk.cell hb]; rfl) (show _ = some (Value.int .i64 l.rp.phase) by rw [Bk.cell hb]; rfl) (show _ = some (Value.int .i64 l.rp.token) by rw [Bk.cell hb]; rfl) hlb (by omega) (by omega)).mono ?_
  rintro e w1 ⟨rfl, h, hf1⟩
  have hb := hf1.blk hb (show ¬ pb ≤ lb by omega)
  have hF := hF.trans hf1
  clear hf1
  go_wp2_with fail
  refine (dnum_p (lb := lb) (off := 26) (l.rp.code) _ h hd (show _ = some (Value.int .i64 (l.rp.code)) by rw [Bk.cell hb]; rfl) hlb (by omega) (by decide)).mono ?_
  rintro e w1 ⟨rfl, h, hf1⟩
  have hb := hf1.blk hb (show ¬ pb ≤ lb by omega)
  have hF := hF.trans hf1
  clear hf1
  go_wp2_with fail
  go_returns
  exact ⟨rfl, h, hF⟩

end
end Lt
end Go.Proofs.Ythggbohoedfkpaa
