/- Letters: May, a request, an answer, a call, a reply; the laws' long and awake. -/
import Derived.Test.YthggbohoedfkpaaLto
namespace Go.Proofs.Ythggbohoedfkpaa
open Go.RowKit Pk
set_option linter.unusedVariables false
set_option linter.unusedSimpArgs false
set_option maxRecDepth 100000
namespace Lt
section
variable {w w1 : World}
theorem packed_form (ok : Bool) (l : Ltr) : ∃ s n, packed ok l = .returned (.tuple #[.string s, .int .i64 n]) := by
  unfold packed
  split
  · exact ⟨_, _, rfl⟩
  · exact ⟨_, _, rfl⟩
set_option maxHeartbeats 1000000 in
theorem may_any (l : Ltr) (ok : Bool) (he : ok = true ↔ l = alone l) (hz : Sm l) (w : World) : Calls Try.prog 15 #[.agg #[.int .i64 l.kind, .int .i64 l.rq.client, .int .i64 l.rq.serial, .int .i64 l.rq.tenant, .string l.rq.key, .string l.rq.method, .string l.rq.path, .string l.rq.body, .int .i64 l.an.client, .int .i64 l.an.serial, .int .i64 l.an.status, .string l.an.text, .int .i64 l.an.after, .int .i64 l.an.epoch, .int .i64 l.cl.tenant, .string l.cl.key, .int .i64 l.cl.epoch, .int .i64 l.cl.phase, .int .i64 l.cl.token, .string l.cl.name, .string l.cl.body, .int .i64 l.rp.tenant, .string l.rp.key, .int .i64 l.rp.epoch, .int .i64 l.rp.phase, .int .i64 l.rp.token, .int .i64 l.rp.code]] w fun e w' => e = .returned (.bool (chk ok l)) ∧ Frm0 w w' := by
  have hb := Bk.new w (.cells #[.int .i64 l.kind, .int .i64 l.rq.client, .int .i64 l.rq.serial, .int .i64 l.rq.tenant, .string l.rq.key, .string l.rq.method, .string l.rq.path, .string l.rq.body, .int .i64 l.an.client, .int .i64 l.an.serial, .int .i64 l.an.status, .string l.an.text, .int .i64 l.an.after, .int .i64 l.an.epoch, .int .i64 l.cl.tenant, .string l.cl.key, .int .i64 l.cl.epoch, .int .i64 l.cl.phase, .int .i64 l.cl.token, .string l.cl.name, .string l.cl.body, .int .i64 l.rp.tenant, .string l.rp.key, .int .i64 l.rp.epoch, .int .i64 l.rp.phase, .int .i64 l.rp.token, .int .i64 l.rp.code] 31)
  have hF := (Frm.refl (fun _ => False) w).alloc (.cells #[.int .i64 l.kind, .int .i64 l.rq.client, .int .i64 l.rq.serial, .int .i64 l.rq.tenant, .string l.rq.key, .string l.rq.method, .string l.rq.path, .string l.rq.body, .int .i64 l.an.client, .int .i64 l.an.serial, .int .i64 l.an.status, .string l.an.text, .int .i64 l.an.after, .int .i64 l.an.epoch, .int .i64 l.cl.tenant, .string l.cl.key, .int .i64 l.cl.epoch, .int .i64 l.cl.phase, .int .i64 l.cl.token, .string l.cl.name, .string l.cl.body, .int .i64 l.rp.tenant, .string l.rp.key, .int .i64 l.rp.epoch, .int .i64 l.rp.phase, .int .i64 l.rp.token, .int .i64 l.rp.code] 31)
  go_enter Try.func15, Try.ntmps15
  go_upto_region 1 with (fail)
  generalize w.alloc (.cells #[.int .i64 l.kind, .int .i64 l.rq.client, .int .i64 l.rq.serial, .int .i64 l.rq.tenant, .string l.rq.key, .string l.rq.method, .string l.rq.path, .string l.rq.body, .int .i64 l.an.client, .int .i64 l.an.serial, .int .i64 l.an.status, .string l.an.text, .int .i64 l.an.after, .int .i64 l.an.epoch, .int .i64 l.cl.tenant, .string l.cl.key, .int .i64 l.cl.epoch, .int .i64 l.cl.phase, .int .i64 l.cl.token, .string l.cl.name, .string l.cl.body, .int .i64 l.rp.tenant, .string l.rp.key, .int .i64 l.rp.epoch, .int .i64 l.rp.phase, .int .i64 l.rp.token, .int .i64 l.rp.code] 31) = w1 at *
  generalize w.heap.size = b at *
  go_wp2_with (first | (refine wpList_load_blk rfl 31 (.tmp 1) rfl (l := [.int .i64 l.kind, .int .i64 l.rq.client, .int .i64 l.rq.serial, .int .i64 l.rq.tenant, .string l.rq.key, .string l.rq.method, .string l.rq.path, .string l.rq.body, .int .i64 l.an.client, .int .i64 l.an.serial, .int .i64 l.an.status, .string l.an.text, .int .i64 l.an.after, .int .i64 l.an.epoch, .int .i64 l.cl.tenant, .string l.cl.key, .int .i64 l.cl.epoch, .int .i64 l.cl.phase, .int .i64 l.cl.token, .string l.cl.name, .string l.cl.body, .int .i64 l.rp.tenant, .string l.rp.key, .int .i64 l.rp.epoch, .int .i64 l.rp.phase, .int .i64 l.rp.token, .int .i64 l.rp.code]) hb rfl Try.underlying31 rfl iL rfl ?_))
  refine (pack_any l ok he hz _).mono ?_
  rintro e w2 ⟨rfl, hf2⟩
  have hF2 := hF.trans hf2
  unfold packed
  cases hc : chk ok l
  · rw [if_neg (by decide)]
    go_wp2
    go_returns
    exact ⟨by rw [hc]; rfl, hF2⟩
  · rw [if_pos rfl]
    go_wp2
    go_returns
    exact ⟨by rw [hc]; rfl, hF2⟩

set_option maxHeartbeats 1000000 in
theorem ask_1 (l : Ltr) (hz : Sm (⟨1, l.rq, an0, cl0, rp0⟩ : Ltr)) (w : World) : Calls Try.prog 19 #[.agg #[.int .i64 l.rq.client, .int .i64 l.rq.serial, .int .i64 l.rq.tenant, .string l.rq.key, .string l.rq.method, .string l.rq.path, .string l.rq.body]] w fun e w' => e = packed true (⟨1, l.rq, an0, cl0, rp0⟩ : Ltr) ∧ Frm0 w w' := by
  have hb := Bk.new w (.cells #[.int .i64 l.rq.client, .int .i64 l.rq.serial, .int .i64 l.rq.tenant, .string l.rq.key, .string l.rq.method, .string l.rq.path, .string l.rq.body] 23)
  have hF := (Frm.refl (fun _ => False) w).alloc (.cells #[.int .i64 l.rq.client, .int .i64 l.rq.serial, .int .i64 l.rq.tenant, .string l.rq.key, .string l.rq.method, .string l.rq.path, .string l.rq.body] 23)
  go_enter Try.func19, Try.ntmps19
  go_upto_region 1 with (fail)
  generalize w.alloc (.cells #[.int .i64 l.rq.client, .int .i64 l.rq.serial, .int .i64 l.rq.tenant, .string l.rq.key, .string l.rq.method, .string l.rq.path, .string l.rq.body] 23) = w1 at *
  generalize w.heap.size = b at *
  go_wp2_with (first | (refine wpList_load_blk rfl 23 (.tmp 1) rfl (l := [.int .i64 l.rq.client, .int .i64 l.rq.serial, .int .i64 l.rq.tenant, .string l.rq.key, .string l.rq.method, .string l.rq.path, .string l.rq.body]) hb rfl Try.underlying23 rfl i1 rfl ?_))
  refine (pack_any (⟨1, l.rq, an0, cl0, rp0⟩ : Ltr) true ⟨fun _ => rfl, fun _ => rfl⟩ hz _).mono ?_
  rintro e w2 ⟨rfl, hf2⟩
  have hF2 := hF.trans hf2
  obtain ⟨s, n, hp⟩ := packed_form true (⟨1, l.rq, an0, cl0, rp0⟩ : Ltr)
  rw [hp]
  go_wp2
  go_returns
  exact ⟨by rw [hp]; rfl, hF2⟩

set_option maxHeartbeats 1000000 in
theorem ask_2 (l : Ltr) (hz : Sm (⟨2, rq0, l.an, cl0, rp0⟩ : Ltr)) (w : World) : Calls Try.prog 20 #[.agg #[.int .i64 l.an.client, .int .i64 l.an.serial, .int .i64 l.an.status, .string l.an.text, .int .i64 l.an.after, .int .i64 l.an.epoch]] w fun e w' => e = packed true (⟨2, rq0, l.an, cl0, rp0⟩ : Ltr) ∧ Frm0 w w' := by
  have hb := Bk.new w (.cells #[.int .i64 l.an.client, .int .i64 l.an.serial, .int .i64 l.an.status, .string l.an.text, .int .i64 l.an.after, .int .i64 l.an.epoch] 25)
  have hF := (Frm.refl (fun _ => False) w).alloc (.cells #[.int .i64 l.an.client, .int .i64 l.an.serial, .int .i64 l.an.status, .string l.an.text, .int .i64 l.an.after, .int .i64 l.an.epoch] 25)
  go_enter Try.func20, Try.ntmps20
  go_upto_region 1 with (fail)
  generalize w.alloc (.cells #[.int .i64 l.an.client, .int .i64 l.an.serial, .int .i64 l.an.status, .string l.an.text, .int .i64 l.an.after, .int .i64 l.an.epoch] 25) = w1 at *
  generalize w.heap.size = b at *
  go_wp2_with (first | (refine wpList_load_blk rfl 25 (.tmp 1) rfl (l := [.int .i64 l.an.client, .int .i64 l.an.serial, .int .i64 l.an.status, .string l.an.text, .int .i64 l.an.after, .int .i64 l.an.epoch]) hb rfl Try.underlying25 rfl i2 rfl ?_))
  refine (pack_any (⟨2, rq0, l.an, cl0, rp0⟩ : Ltr) true ⟨fun _ => rfl, fun _ => rfl⟩ hz _).mono ?_
  rintro e w2 ⟨rfl, hf2⟩
  have hF2 := hF.trans hf2
  obtain ⟨s, n, hp⟩ := packed_form true (⟨2, rq0, l.an, cl0, rp0⟩ : Ltr)
  rw [hp]
  go_wp2
  go_returns
  exact ⟨by rw [hp]; rfl, hF2⟩

set_option maxHeartbeats 1000000 in
theorem ask_3 (l : Ltr) (hz : Sm (⟨3, rq0, an0, l.cl, rp0⟩ : Ltr)) (w : World) : Calls Try.prog 21 #[.agg #[.int .i64 l.cl.tenant, .string l.cl.key, .int .i64 l.cl.epoch, .int .i64 l.cl.phase, .int .i64 l.cl.token, .string l.cl.name, .string l.cl.body]] w fun e w' => e = packed true (⟨3, rq0, an0, l.cl, rp0⟩ : Ltr) ∧ Frm0 w w' := by
  have hb := Bk.new w (.cells #[.int .i64 l.cl.tenant, .string l.cl.key, .int .i64 l.cl.epoch, .int .i64 l.cl.phase, .int .i64 l.cl.token, .string l.cl.name, .string l.cl.body] 27)
  have hF := (Frm.refl (fun _ => False) w).alloc (.cells #[.int .i64 l.cl.tenant, .string l.cl.key, .int .i64 l.cl.epoch, .int .i64 l.cl.phase, .int .i64 l.cl.token, .string l.cl.name, .string l.cl.body] 27)
  go_enter Try.func21, Try.ntmps21
  go_upto_region 1 with (fail)
  generalize w.alloc (.cells #[.int .i64 l.cl.tenant, .string l.cl.key, .int .i64 l.cl.epoch, .int .i64 l.cl.phase, .int .i64 l.cl.token, .string l.cl.name, .string l.cl.body] 27) = w1 at *
  generalize w.heap.size = b at *
  go_wp2_with (first | (refine wpList_load_blk rfl 27 (.tmp 1) rfl (l := [.int .i64 l.cl.tenant, .string l.cl.key, .int .i64 l.cl.epoch, .int .i64 l.cl.phase, .int .i64 l.cl.token, .string l.cl.name, .string l.cl.body]) hb rfl Try.underlying27 rfl i3 rfl ?_))
  refine (pack_any (⟨3, rq0, an0, l.cl, rp0⟩ : Ltr) true ⟨fun _ => rfl, fun _ => rfl⟩ hz _).mono ?_
  rintro e w2 ⟨rfl, hf2⟩
  have hF2 := hF.trans hf2
  obtain ⟨s, n, hp⟩ := packed_form true (⟨3, rq0, an0, l.cl, rp0⟩ : Ltr)
  rw [hp]
  go_wp2
  go_returns
  exact ⟨by rw [hp]; rfl, hF2⟩

set_option maxHeartbeats 1000000 in
theorem ask_4 (l : Ltr) (hz : Sm (⟨4, rq0, an0, cl0, l.rp⟩ : Ltr)) (w : World) : Calls Try.prog 22 #[.agg #[.int .i64 l.rp.tenant, .string l.rp.key, .int .i64 l.rp.epoch, .int .i64 l.rp.phase, .int .i64 l.rp.token, .int .i64 l.rp.code]] w fun e w' => e = packed true (⟨4, rq0, an0, cl0, l.rp⟩ : Ltr) ∧ Frm0 w w' := by
  have hb := Bk.new w (.cells #[.int .i64 l.rp.tenant, .string l.rp.key, .int .i64 l.rp.epoch, .int .i64 l.rp.phase, .int .i64 l.rp.token, .int .i64 l.rp.code] 29)
  have hF := (Frm.refl (fun _ => False) w).alloc (.cells #[.int .i64 l.rp.tenant, .string l.rp.key, .int .i64 l.rp.epoch, .int .i64 l.rp.phase, .int .i64 l.rp.token, .int .i64 l.rp.code] 29)
  go_enter Try.func22, Try.ntmps22
  go_upto_region 1 with (fail)
  generalize w.alloc (.cells #[.int .i64 l.rp.tenant, .string l.rp.key, .int .i64 l.rp.epoch, .int .i64 l.rp.phase, .int .i64 l.rp.token, .int .i64 l.rp.code] 29) = w1 at *
  generalize w.heap.size = b at *
  go_wp2_with (first | (refine wpList_load_blk rfl 29 (.tmp 1) rfl (l := [.int .i64 l.rp.tenant, .string l.rp.key, .int .i64 l.rp.epoch, .int .i64 l.rp.phase, .int .i64 l.rp.token, .int .i64 l.rp.code]) hb rfl Try.underlying29 rfl i4 rfl ?_))
  refine (pack_any (⟨4, rq0, an0, cl0, l.rp⟩ : Ltr) true ⟨fun _ => rfl, fun _ => rfl⟩ hz _).mono ?_
  rintro e w2 ⟨rfl, hf2⟩
  have hF2 := hF.trans hf2
  obtain ⟨s, n, hp⟩ := packed_form true (⟨4, rq0, an0, cl0, l.rp⟩ : Ltr)
  rw [hp]
  go_wp2
  go_returns
  exact ⟨by rw [hp]; rfl, hF2⟩

def LP (l : Ltr) (w : World) (e : Ending) (w' : World) : Prop := ∃ b, e = .returned (.bool b) ∧ Frm0 w w' ∧ (b = false → Sm l)
def tl (l : Ltr) : List ByteArray := [l.rq.key, l.rq.method, l.rq.path, l.rq.body, l.an.text, l.cl.key, l.cl.name, l.cl.body, l.rp.key]
theorem tl_small {l : Ltr} (h : ∀ k, k < 9 → ((tl l).getD k ⟨#[]⟩).size ≤ 250) : Sm l := by
  have g : ∀ k, k < 9 → ((tl l).getD k ⟨#[]⟩).size ≤ 1000 := fun k hk => by have := h k hk; omega
  exact ⟨g 0 (by decide), g 1 (by decide), g 2 (by decide), g 3 (by decide), g 4 (by decide), g 5 (by decide), g 6 (by decide), g 7 (by decide), g 8 (by decide)⟩
set_option maxHeartbeats 2000000 in
theorem long_any (l : Ltr) (w : World) : Calls Try.prog 12 #[.agg #[.int .i64 l.kind, .int .i64 l.rq.client, .int .i64 l.rq.serial, .int .i64 l.rq.tenant, .string l.rq.key, .string l.rq.method, .string l.rq.path, .string l.rq.body, .int .i64 l.an.client, .int .i64 l.an.serial, .int .i64 l.an.status, .string l.an.text, .int .i64 l.an.after, .int .i64 l.an.epoch, .int .i64 l.cl.tenant, .string l.cl.key, .int .i64 l.cl.epoch, .int .i64 l.cl.phase, .int .i64 l.cl.token, .string l.cl.name, .string l.cl.body, .int .i64 l.rp.tenant, .string l.rp.key, .int .i64 l.rp.epoch, .int .i64 l.rp.phase, .int .i64 l.rp.token, .int .i64 l.rp.code]] w (LP l w) := by
  have hb := Bk.new w (.cells #[.int .i64 l.kind, .int .i64 l.rq.client, .int .i64 l.rq.serial, .int .i64 l.rq.tenant, .string l.rq.key, .string l.rq.method, .string l.rq.path, .string l.rq.body, .int .i64 l.an.client, .int .i64 l.an.serial, .int .i64 l.an.status, .string l.an.text, .int .i64 l.an.after, .int .i64 l.an.epoch, .int .i64 l.cl.tenant, .string l.cl.key, .int .i64 l.cl.epoch, .int .i64 l.cl.phase, .int .i64 l.cl.token, .string l.cl.name, .string l.cl.body, .int .i64 l.rp.tenant, .string l.rp.key, .int .i64 l.rp.epoch, .int .i64 l.rp.phase, .int .i64 l.rp.token, .int .i64 l.rp.code] 31)
  have hF := (Frm.refl (fun _ => False) w).alloc (.cells #[.int .i64 l.kind, .int .i64 l.rq.client, .int .i64 l.rq.serial, .int .i64 l.rq.tenant, .string l.rq.key, .string l.rq.method, .string l.rq.path, .string l.rq.body, .int .i64 l.an.client, .int .i64 l.an.serial, .int .i64 l.an.status, .string l.an.text, .int .i64 l.an.after, .int .i64 l.an.epoch, .int .i64 l.cl.tenant, .string l.cl.key, .int .i64 l.cl.epoch, .int .i64 l.cl.phase, .int .i64 l.cl.token, .string l.cl.name, .string l.cl.body, .int .i64 l.rp.tenant, .string l.rp.key, .int .i64 l.rp.epoch, .int .i64 l.rp.phase, .int .i64 l.rp.token, .int .i64 l.rp.code] 31)
  go_enter Try.func12, Try.ntmps12
  go_upto_region 1 with (fail)
  generalize w.alloc (.cells #[.int .i64 l.kind, .int .i64 l.rq.client, .int .i64 l.rq.serial, .int .i64 l.rq.tenant, .string l.rq.key, .string l.rq.method, .string l.rq.path, .string l.rq.body, .int .i64 l.an.client, .int .i64 l.an.serial, .int .i64 l.an.status, .string l.an.text, .int .i64 l.an.after, .int .i64 l.an.epoch, .int .i64 l.cl.tenant, .string l.cl.key, .int .i64 l.cl.epoch, .int .i64 l.cl.phase, .int .i64 l.cl.token, .string l.cl.name, .string l.cl.body, .int .i64 l.rp.tenant, .string l.rp.key, .int .i64 l.rp.epoch, .int .i64 l.rp.phase, .int .i64 l.rp.token, .int .i64 l.rp.code] 31) = w1 at *
  generalize w.heap.size = b at *
  have x0 : w1.cell? ⟨b, 4, none⟩ = some (.string l.rq.key) := by rw [Bk.cell hb]; rfl
  have x1 : w1.cell? ⟨b, 5, none⟩ = some (.string l.rq.method) := by rw [Bk.cell hb]; rfl
  have x2 : w1.cell? ⟨b, 6, none⟩ = some (.string l.rq.path) := by rw [Bk.cell hb]; rfl
  have x3 : w1.cell? ⟨b, 7, none⟩ = some (.string l.rq.body) := by rw [Bk.cell hb]; rfl
  have x4 : w1.cell? ⟨b, 11, none⟩ = some (.string l.an.text) := by rw [Bk.cell hb]; rfl
  have x5 : w1.cell? ⟨b, 15, none⟩ = some (.string l.cl.key) := by rw [Bk.cell hb]; rfl
  have x6 : w1.cell? ⟨b, 19, none⟩ = some (.string l.cl.name) := by rw [Bk.cell hb]; rfl
  have x7 : w1.cell? ⟨b, 20, none⟩ = some (.string l.cl.body) := by rw [Bk.cell hb]; rfl
  have x8 : w1.cell? ⟨b, 22, none⟩ = some (.string l.rp.key) := by rw [Bk.cell hb]; rfl
  have hs : (w1.alloc (.cells #[.string l.rq.key, .string l.rq.method, .string l.rq.path, .string l.rq.body, .string l.an.text, .string l.cl.key, .string l.cl.name, .string l.cl.body, .string l.rp.key] 9)).heap[w1.heap.size]? = some (.cells #[.string l.rq.key, .string l.rq.method, .string l.rq.path, .string l.rq.body, .string l.an.text, .string l.cl.key, .string l.cl.name, .string l.cl.body, .string l.rp.key] 9 (0, 0)) := Bk.new _ _
  have hF2 := hF.alloc (.cells #[.string l.rq.key, .string l.rq.method, .string l.rq.path, .string l.rq.body, .string l.an.text, .string l.cl.key, .string l.cl.name, .string l.cl.body, .string l.rp.key] 9)
  clear hb hF
  go_upto_region 2 with (fail)
  clear x0 x1 x2 x3 x4 x5 x6 x7 x8
  generalize w1.alloc (.cells #[.string l.rq.key, .string l.rq.method, .string l.rq.path, .string l.rq.body, .string l.an.text, .string l.cl.key, .string l.cl.name, .string l.cl.body, .string l.rp.key] 9) = w2 at *
  generalize w1.heap.size = sb at *
  have hc : ∀ k, k < 9 → w2.cell? ⟨sb, k, none⟩ = some (.string ((tl l).getD k ⟨#[]⟩)) := fun k hk => by
    rcases (by omega : k = 0 ∨ k = 1 ∨ k = 2 ∨ k = 3 ∨ k = 4 ∨ k = 5 ∨ k = 6 ∨ k = 7 ∨ k = 8) with rfl | rfl | rfl | rfl | rfl | rfl | rfl | rfl | rfl <;> (rw [Bk.cell hs]; rfl)
  have HC := Lib.hid hc
  clear hc hs
  go_loop [34] (fun i => ∃ k : Nat, k ≤ 9 ∧ i = .int .i64 k ∧ ∀ j, j < k → ((tl l).getD j ⟨#[]⟩).size ≤ 250) (fun i => 9 - (intOf i).toNat)
  case atStart => exact ⟨0, by decide, rfl, fun j hj => by omega⟩
  case round =>
    obtain ⟨k, hk, rfl, hall⟩ := hrel
    have HA := Lib.hid hall
    clear hall
    by_cases hlt : k < 9
    · have hc := HC.out k hlt
      obtain ⟨x, hx⟩ : ∃ x, (tl l).getD k ⟨#[]⟩ = x := ⟨_, rfl⟩
      rw [hx] at hc
      have hlt2 : (k : Int) < 9 := by omega
      by_cases h250 : 250 < x.size
      · have d1 : decide ((250 : Int) < (x.size : Int)) = true := decide_eq_true (by omega)
        go_wp2
        all_goals first
          | (go_ret; exact ⟨true, rfl, hF2, fun h => by cases h⟩)
      · have d1 : decide ((250 : Int) < (x.size : Int)) = false := decide_eq_false (by omega)
        go_wp2
        go_round
        case rel =>
          refine ⟨k + 1, by omega, by go_num, fun j hj => ?_⟩
          by_cases hj2 : j < k
          · exact HA.out j hj2
          · have e : j = k := by omega
            rw [e, hx]; omega
        case measure => simp [intOf]; omega
    · obtain rfl : k = 9 := by omega
      go_wp2
      go_ret
      exact ⟨false, rfl, hF2, fun _ => tl_small HA.out⟩

end
end Lt
end Go.Proofs.Ythggbohoedfkpaa
