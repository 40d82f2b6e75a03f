/- Letters: the laws' awake. -/
import Derived.Test.YthggbohoedfkpaaLtq
namespace Go.Proofs.Ythggbohoedfkpaa
open Go.RowKit Pk
set_option linter.unusedVariables false
set_option linter.unusedSimpArgs false
set_option maxRecDepth 100000
namespace Lt
section
variable {w w1 : World}
def la : Ltr := ⟨4, rq0, an0, cl0, ⟨0, ⟨#[107]⟩, 1, 0, 2, 1⟩⟩
theorem la_chk : chk true la = true := by decide +kernel
theorem la_fit : Fit la := ⟨rfl, la_chk⟩
theorem la_sm : Sm la := ⟨by decide, by decide, by decide, by decide, by decide, by decide, by decide, by decide, by decide⟩
theorem la_pck : pck la = ⟨#[1, 4, 0, 1, 107, 1, 0, 2, 1]⟩ := by decide +kernel
theorem la_packed : packed true (⟨4, rq0, an0, cl0, la.rp⟩ : Ltr) = .returned (.tuple #[.string ⟨#[1, 4, 0, 1, 107, 1, 0, 2, 1]⟩, .int .i64 0]) := by
  have e : (⟨4, rq0, an0, cl0, la.rp⟩ : Ltr) = la := rfl
  rw [e]
  have h : packed true la = .returned (.tuple #[.string (pck la), .int .i64 0]) := by
    unfold packed pck
    rw [if_pos la_chk]
  rw [h, la_pck]
theorem la_opened : opened (some la) = .returned (.tuple #[.agg #[.int .i64 4, .int .i64 0, .int .i64 0, .int .i64 0, .string ⟨#[]⟩, .string ⟨#[]⟩, .string ⟨#[]⟩, .string ⟨#[]⟩, .int .i64 0, .int .i64 0, .int .i64 0, .string ⟨#[]⟩, .int .i64 0, .int .i64 0, .int .i64 0, .string ⟨#[]⟩, .int .i64 0, .int .i64 0, .int .i64 0, .string ⟨#[]⟩, .string ⟨#[]⟩, .int .i64 0, .string ⟨#[107]⟩, .int .i64 1, .int .i64 0, .int .i64 2, .int .i64 1], .int .i64 0]) := rfl
set_option maxHeartbeats 2000000 in
theorem awake_any (w : World) : Calls Try.prog 11 #[] w fun e w' => e = .returned (.bool true) ∧ Frm0 w w' := by
  have hb := Bk.new w (.cells #[.int .i64 0, .string ⟨#[107]⟩, .int .i64 1, .int .i64 0, .int .i64 2, .int .i64 1] 29)
  have hF := (Frm.refl (fun _ => False) w).alloc (.cells #[.int .i64 0, .string ⟨#[107]⟩, .int .i64 1, .int .i64 0, .int .i64 2, .int .i64 1] 29)
  have hpk := la_packed
  have hpc := la_pck.symm
  obtain ⟨L, hL⟩ : ∃ L, la = L := ⟨_, rfl⟩
  obtain ⟨X, hX⟩ : ∃ X, (⟨#[1, 4, 0, 1, 107, 1, 0, 2, 1]⟩ : ByteArray) = X := ⟨_, rfl⟩
  have HXb : (X.toList == (⟨#[1, 4, 0, 1, 107, 1, 0, 2, 1]⟩ : ByteArray).toList) = true := by rw [hX]; exact beq_iff_eq.2 rfl
  have HXl : X.toList = [1, 4, 0, 1, 107, 1, 0, 2, 1] := by rw [← hX]; decide +kernel
  have hXs : X.size ≤ 10000 := by rw [← hX]; decide
  rw [hX] at hpk hpc
  have HE : ∀ w9, (binOp .eql 31 (.agg #[.int .i64 L.kind, .int .i64 L.rq.client, .int .i64 L.rq.serial, .int .i64 L.rq.tenant, .string L.rq.key, .string L.rq.method, .string L.rq.path, .string L.rq.body, .int .i64 L.an.client, .int .i64 L.an.serial, .int .i64 L.an.status, .string L.an.text, .int .i64 L.an.after, .int .i64 L.an.epoch, .int .i64 L.cl.tenant, .string L.cl.key, .int .i64 L.cl.epoch, .int .i64 L.cl.phase, .int .i64 L.cl.token, .string L.cl.name, .string L.cl.body, .int .i64 L.rp.tenant, .string L.rp.key, .int .i64 L.rp.epoch, .int .i64 L.rp.phase, .int .i64 L.rp.token, .int .i64 L.rp.code]) (.agg #[.int .i64 4, .int .i64 0, .int .i64 0, .int .i64 0, .string ⟨#[]⟩, .string ⟨#[]⟩, .string ⟨#[]⟩, .string ⟨#[]⟩, .int .i64 0, .int .i64 0, .int .i64 0, .string ⟨#[]⟩, .int .i64 0, .int .i64 0, .int .i64 0, .string ⟨#[]⟩, .int .i64 0, .int .i64 0, .int .i64 0, .string ⟨#[]⟩, .string ⟨#[]⟩, .int .i64 0, .string ⟨#[107]⟩, .int .i64 1, .int .i64 0, .int .i64 2, .int .i64 1])).run Try.prog w9 = .ok (.bool true) w9 := by
    rw [← hL]
    exact fun w9 => eql_same la w9
  have hfit := la_fit
  have hsm := la_sm
  rw [hL] at hpc hfit hsm
  have HPC := Lib.hid hpc
  clear hX hL hpc
  go_enter Try.func11, Try.ntmps11
  go_upto_region 2 with (fail)
  generalize w.alloc (.cells #[.int .i64 0, .string ⟨#[107]⟩, .int .i64 1, .int .i64 0, .int .i64 2, .int .i64 1] 29) = w1 at *
  generalize w.heap.size = b at *
  go_wp2_with (first | (refine wpList_load_blk rfl 29 (.tmp 1) rfl (l := [.int .i64 0, .string ⟨#[107]⟩, .int .i64 1, .int .i64 0, .int .i64 2, .int .i64 1]) hb rfl Try.underlying29 rfl i4 rfl ?_))
  refine (ask_4 la la_sm _).mono ?_
  rintro e w2 ⟨rfl, hf2⟩
  have hb2 := hf2.blk hb (fun h => h)
  have hF2 := hF.trans hf2
  rw [hpk]
  clear hpk
  go_wp2_with fail
  refine (open_letter X hXs _).mono ?_
  rintro e w3 ⟨r, rfl, hf3, hsp⟩
  have hr : r = some L := (hsp L).2 ⟨hfit, HPC.out⟩
  subst hr
  have hb3 := hf3.blk hb2 (fun h => h)
  have hF3 := hF2.trans hf3
  have hb4' := ((Frm.refl (fun _ => False) w3).alloc (.cells #[.int .i64 0, .int .i64 0, .int .i64 0, .int .i64 0, .string ⟨#[]⟩, .string ⟨#[]⟩, .string ⟨#[]⟩, .string ⟨#[]⟩, .int .i64 0, .int .i64 0, .int .i64 0, .string ⟨#[]⟩, .int .i64 0, .int .i64 0, .int .i64 0, .string ⟨#[]⟩, .int .i64 0, .int .i64 0, .int .i64 0, .string ⟨#[]⟩, .string ⟨#[]⟩, .int .i64 0, .string ⟨#[]⟩, .int .i64 0, .int .i64 0, .int .i64 0, .int .i64 0] 31)).blk hb3 (fun h => h)
  have hz4 := Bk.new w3 (.cells #[.int .i64 0, .int .i64 0, .int .i64 0, .int .i64 0, .string ⟨#[]⟩, .string ⟨#[]⟩, .string ⟨#[]⟩, .string ⟨#[]⟩, .int .i64 0, .int .i64 0, .int .i64 0, .string ⟨#[]⟩, .int .i64 0, .int .i64 0, .int .i64 0, .string ⟨#[]⟩, .int .i64 0, .int .i64 0, .int .i64 0, .string ⟨#[]⟩, .string ⟨#[]⟩, .int .i64 0, .string ⟨#[]⟩, .int .i64 0, .int .i64 0, .int .i64 0, .int .i64 0] 31)
  have hF4' := hF3.alloc (.cells #[.int .i64 0, .int .i64 0, .int .i64 0, .int .i64 0, .string ⟨#[]⟩, .string ⟨#[]⟩, .string ⟨#[]⟩, .string ⟨#[]⟩, .int .i64 0, .int .i64 0, .int .i64 0, .string ⟨#[]⟩, .int .i64 0, .int .i64 0, .int .i64 0, .string ⟨#[]⟩, .int .i64 0, .int .i64 0, .int .i64 0, .string ⟨#[]⟩, .string ⟨#[]⟩, .int .i64 0, .string ⟨#[]⟩, .int .i64 0, .int .i64 0, .int .i64 0, .int .i64 0] 31)
  have hbl := Bk.lt hb3
  have hsz0 := hF3.size
  rw [show opened (some L) = .returned (.tuple #[.agg #[.int .i64 L.kind, .int .i64 L.rq.client, .int .i64 L.rq.serial, .int .i64 L.rq.tenant, .string L.rq.key, .string L.rq.method, .string L.rq.path, .string L.rq.body, .int .i64 L.an.client, .int .i64 L.an.serial, .int .i64 L.an.status, .string L.an.text, .int .i64 L.an.after, .int .i64 L.an.epoch, .int .i64 L.cl.tenant, .string L.cl.key, .int .i64 L.cl.epoch, .int .i64 L.cl.phase, .int .i64 L.cl.token, .string L.cl.name, .string L.cl.body, .int .i64 L.rp.tenant, .string L.rp.key, .int .i64 L.rp.epoch, .int .i64 L.rp.phase, .int .i64 L.rp.token, .int .i64 L.rp.code], .int .i64 0]) from rfl]
  clear hb hF hb2 hF2 hf2 hf3 hsp hb3 hF3
  go_upto_region 4 with (refine wpList_store_blk rfl 31 (.tmp 4) (.tmp 15) rfl hz4 rfl rfl iL (us := #[.int .i64 L.kind, .int .i64 L.rq.client, .int .i64 L.rq.serial, .int .i64 L.rq.tenant, .string L.rq.key, .string L.rq.method, .string L.rq.path, .string L.rq.body, .int .i64 L.an.client, .int .i64 L.an.serial, .int .i64 L.an.status, .string L.an.text, .int .i64 L.an.after, .int .i64 L.an.epoch, .int .i64 L.cl.tenant, .string L.cl.key, .int .i64 L.cl.epoch, .int .i64 L.cl.phase, .int .i64 L.cl.token, .string L.cl.name, .string L.cl.body, .int .i64 L.rp.tenant, .string L.rp.key, .int .i64 L.rp.epoch, .int .i64 L.rp.phase, .int .i64 L.rp.token, .int .i64 L.rp.code]) rfl rfl rfl ?_; intro w4 hc4 hf4)
  generalize w3.alloc (.cells #[.int .i64 0, .int .i64 0, .int .i64 0, .int .i64 0, .string ⟨#[]⟩, .string ⟨#[]⟩, .string ⟨#[]⟩, .string ⟨#[]⟩, .int .i64 0, .int .i64 0, .int .i64 0, .string ⟨#[]⟩, .int .i64 0, .int .i64 0, .int .i64 0, .string ⟨#[]⟩, .int .i64 0, .int .i64 0, .int .i64 0, .string ⟨#[]⟩, .string ⟨#[]⟩, .int .i64 0, .string ⟨#[]⟩, .int .i64 0, .int .i64 0, .int .i64 0, .int .i64 0] 31) = w4' at *
  generalize w3.heap.size = b4 at *
  have hb4 := hf4.blk hb4' (show ¬ b = b4 by omega)
  have hF4 := hF4'.then_ hf4 (fun i hi e => by omega)
  clear hb4' hz4 hF4' hf4
  go_wp2_with (first | (refine wpList_load_blk_g (by rfl) 31 (.tmp 4) rfl (l := [.int .i64 L.kind, .int .i64 L.rq.client, .int .i64 L.rq.serial, .int .i64 L.rq.tenant, .string L.rq.key, .string L.rq.method, .string L.rq.path, .string L.rq.body, .int .i64 L.an.client, .int .i64 L.an.serial, .int .i64 L.an.status, .string L.an.text, .int .i64 L.an.after, .int .i64 L.an.epoch, .int .i64 L.cl.tenant, .string L.cl.key, .int .i64 L.cl.epoch, .int .i64 L.cl.phase, .int .i64 L.cl.token, .string L.cl.name, .string L.cl.body, .int .i64 L.rp.tenant, .string L.rp.key, .int .i64 L.rp.epoch, .int .i64 L.rp.phase, .int .i64 L.rp.token, .int .i64 L.rp.code]) hc4 rfl Try.underlying31 rfl iL rfl ?_) | (refine wpList_load_blk_g (by rfl) 29 (.tmp 1) rfl (l := [.int .i64 0, .string ⟨#[107]⟩, .int .i64 1, .int .i64 0, .int .i64 2, .int .i64 1]) hb4 rfl Try.underlying29 rfl i4 rfl ?_))
  refine (may_any L true ⟨fun _ => hfit.1, fun _ => rfl⟩ hsm _).mono ?_
  rintro e w5 ⟨rfl, hf5⟩
  rw [hfit.2]
  go_wp2
  go_returns
  exact ⟨rfl, hF4.trans hf5⟩
end
end Lt
end Go.Proofs.Ythggbohoedfkpaa
