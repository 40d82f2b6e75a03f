/- Letters: the walk of LetterBack. -/
import Derived.Test.YthggbohoedfkpaaLtpe
import Derived.Test.YthggbohoedfkpaaLts
namespace Go.Proofs.Ythggbohoedfkpaa
open Go.RowKit Pk
set_option linter.unusedVariables false
set_option linter.unusedSimpArgs false
set_option maxRecDepth 100000
namespace Lt
set_option maxHeartbeats 4000000 in
theorem back26_walk (l : Ltr) (w : World) : Calls Try.prog 3 #[.agg #[.int .i64 l.kind, .int .i64 l.rq.client, .int .i64 l.rq.serial, .int .i64 l.rq.tenant, .string l.rq.key, .string l.rq.method, .string l.rq.path, .string l.rq.body, .int .i64 l.an.client, .int .i64 l.an.serial, .int .i64 l.an.status, .string l.an.text, .int .i64 l.an.after, .int .i64 l.an.epoch, .int .i64 l.cl.tenant, .string l.cl.key, .int .i64 l.cl.epoch, .int .i64 l.cl.phase, .int .i64 l.cl.token, .string l.cl.name, .string l.cl.body, .int .i64 l.rp.tenant, .string l.rp.key, .int .i64 l.rp.epoch, .int .i64 l.rp.phase, .int .i64 l.rp.token, .int .i64 l.rp.code]] w fun e w' => e = .returned (.bool true) ∧ Below w.heap.size w w' := by
  have hb := Bk.new w (.cells #[.int .i64 l.kind, .int .i64 l.rq.client, .int .i64 l.rq.serial, .int .i64 l.rq.tenant, .string l.rq.key, .string l.rq.method, .string l.rq.path, .string l.rq.body, .int .i64 l.an.client, .int .i64 l.an.serial, .int .i64 l.an.status, .string l.an.text, .int .i64 l.an.after, .int .i64 l.an.epoch, .int .i64 l.cl.tenant, .string l.cl.key, .int .i64 l.cl.epoch, .int .i64 l.cl.phase, .int .i64 l.cl.token, .string l.cl.name, .string l.cl.body, .int .i64 l.rp.tenant, .string l.rp.key, .int .i64 l.rp.epoch, .int .i64 l.rp.phase, .int .i64 l.rp.token, .int .i64 l.rp.code] 31)
  have hF := (Frm.refl (fun _ => False) w).alloc (.cells #[.int .i64 l.kind, .int .i64 l.rq.client, .int .i64 l.rq.serial, .int .i64 l.rq.tenant, .string l.rq.key, .string l.rq.method, .string l.rq.path, .string l.rq.body, .int .i64 l.an.client, .int .i64 l.an.serial, .int .i64 l.an.status, .string l.an.text, .int .i64 l.an.after, .int .i64 l.an.epoch, .int .i64 l.cl.tenant, .string l.cl.key, .int .i64 l.cl.epoch, .int .i64 l.cl.phase, .int .i64 l.cl.token, .string l.cl.name, .string l.cl.body, .int .i64 l.rp.tenant, .string l.rp.key, .int .i64 l.rp.epoch, .int .i64 l.rp.phase, .int .i64 l.rp.token, .int .i64 l.rp.code] 31)
  have hle : w.heap.size < (w.alloc (.cells #[.int .i64 l.kind, .int .i64 l.rq.client, .int .i64 l.rq.serial, .int .i64 l.rq.tenant, .string l.rq.key, .string l.rq.method, .string l.rq.path, .string l.rq.body, .int .i64 l.an.client, .int .i64 l.an.serial, .int .i64 l.an.status, .string l.an.text, .int .i64 l.an.after, .int .i64 l.an.epoch, .int .i64 l.cl.tenant, .string l.cl.key, .int .i64 l.cl.epoch, .int .i64 l.cl.phase, .int .i64 l.cl.token, .string l.cl.name, .string l.cl.body, .int .i64 l.rp.tenant, .string l.rp.key, .int .i64 l.rp.epoch, .int .i64 l.rp.phase, .int .i64 l.rp.token, .int .i64 l.rp.code] 31)).heap.size := by simp
  go_enter Try.func3, Try.ntmps3
  go_wp2_with fail
  generalize w.alloc (.cells #[.int .i64 l.kind, .int .i64 l.rq.client, .int .i64 l.rq.serial, .int .i64 l.rq.tenant, .string l.rq.key, .string l.rq.method, .string l.rq.path, .string l.rq.body, .int .i64 l.an.client, .int .i64 l.an.serial, .int .i64 l.an.status, .string l.an.text, .int .i64 l.an.after, .int .i64 l.an.epoch, .int .i64 l.cl.tenant, .string l.cl.key, .int .i64 l.cl.epoch, .int .i64 l.cl.phase, .int .i64 l.cl.token, .string l.cl.name, .string l.cl.body, .int .i64 l.rp.tenant, .string l.rp.key, .int .i64 l.rp.epoch, .int .i64 l.rp.phase, .int .i64 l.rp.token, .int .i64 l.rp.code] 31) = w0 at *
  generalize hbe : w.heap.size = b at *
  refine (awake_any _).mono ?_
  rintro e w1 ⟨rfl, hf1⟩
  have hb := hf1.blk hb (fun h => h)
  have hF := hF.trans hf1
  go_wp2_with (first | (refine wpList_load_blk rfl 31 (.tmp 1) rfl (l := [.int .i64 l.kind, .int .i64 l.rq.client, .int .i64 l.rq.serial, .int .i64 l.rq.tenant, .string l.rq.key, .string l.rq.method, .string l.rq.path, .string l.rq.body, .int .i64 l.an.client, .int .i64 l.an.serial, .int .i64 l.an.status, .string l.an.text, .int .i64 l.an.after, .int .i64 l.an.epoch, .int .i64 l.cl.tenant, .string l.cl.key, .int .i64 l.cl.epoch, .int .i64 l.cl.phase, .int .i64 l.cl.token, .string l.cl.name, .string l.cl.body, .int .i64 l.rp.tenant, .string l.rp.key, .int .i64 l.rp.epoch, .int .i64 l.rp.phase, .int .i64 l.rp.token, .int .i64 l.rp.code]) hb rfl Try.underlying31 rfl iL rfl ?_))
  refine (long_any l _).mono ?_
  rintro e w2 ⟨lg, rfl, hf2, hz⟩
  have hb := hf2.blk hb (fun h => h)
  have hF := hF.trans hf2
  cases lg
  · have HZ : Sm l := hz rfl
    clear hz
    obtain ⟨ok, hok⟩ := ex_ok (l = alone l)
    go_wp2_with (first | (refine wpList_load_blk rfl 31 (.tmp 1) rfl (l := [.int .i64 l.kind, .int .i64 l.rq.client, .int .i64 l.rq.serial, .int .i64 l.rq.tenant, .string l.rq.key, .string l.rq.method, .string l.rq.path, .string l.rq.body, .int .i64 l.an.client, .int .i64 l.an.serial, .int .i64 l.an.status, .string l.an.text, .int .i64 l.an.after, .int .i64 l.an.epoch, .int .i64 l.cl.tenant, .string l.cl.key, .int .i64 l.cl.epoch, .int .i64 l.cl.phase, .int .i64 l.cl.token, .string l.cl.name, .string l.cl.body, .int .i64 l.rp.tenant, .string l.rp.key, .int .i64 l.rp.epoch, .int .i64 l.rp.phase, .int .i64 l.rp.token, .int .i64 l.rp.code]) hb rfl Try.underlying31 rfl iL rfl ?_))
    refine (pack_any l ok hok HZ _).mono ?_
    rintro e w3 ⟨rfl, hf3⟩
    have hb := hf3.blk hb (fun h => h)
    have hF := hF.trans hf3
    cases hc : chk ok l
    · rw [packed_no hc]
      go_wp2_with (first | (refine wpList_load_blk rfl 31 (.tmp 1) rfl (l := [.int .i64 l.kind, .int .i64 l.rq.client, .int .i64 l.rq.serial, .int .i64 l.rq.tenant, .string l.rq.key, .string l.rq.method, .string l.rq.path, .string l.rq.body, .int .i64 l.an.client, .int .i64 l.an.serial, .int .i64 l.an.status, .string l.an.text, .int .i64 l.an.after, .int .i64 l.an.epoch, .int .i64 l.cl.tenant, .string l.cl.key, .int .i64 l.cl.epoch, .int .i64 l.cl.phase, .int .i64 l.cl.token, .string l.cl.name, .string l.cl.body, .int .i64 l.rp.tenant, .string l.rp.key, .int .i64 l.rp.epoch, .int .i64 l.rp.phase, .int .i64 l.rp.token, .int .i64 l.rp.code]) hb rfl Try.underlying31 rfl iL rfl ?_))
      refine (rmay_any l ok hok _).mono ?_
      rintro e w4 ⟨rfl, hf4⟩
      have hb := hf4.blk hb (fun h => h)
      have hF := hF.trans hf4
      rw [hc]
      go_wp2_with (first | (refine wpList_load_blk_g (by rfl) 31 (.tmp 1) rfl (l := [.int .i64 l.kind, .int .i64 l.rq.client, .int .i64 l.rq.serial, .int .i64 l.rq.tenant, .string l.rq.key, .string l.rq.method, .string l.rq.path, .string l.rq.body, .int .i64 l.an.client, .int .i64 l.an.serial, .int .i64 l.an.status, .string l.an.text, .int .i64 l.an.after, .int .i64 l.an.epoch, .int .i64 l.cl.tenant, .string l.cl.key, .int .i64 l.cl.epoch, .int .i64 l.cl.phase, .int .i64 l.cl.token, .string l.cl.name, .string l.cl.body, .int .i64 l.rp.tenant, .string l.rp.key, .int .i64 l.rp.epoch, .int .i64 l.rp.phase, .int .i64 l.rp.token, .int .i64 l.rp.code]) hb rfl Try.underlying31 rfl iL rfl ?_))
      refine (may_any l ok hok HZ _).mono ?_
      rintro e w5 ⟨rfl, hf5⟩
      have hF := hF.trans hf5
      rw [hc]
      go_wp2
      go_returns
      exact ⟨rfl, hbe ▸ hF.below (fun _ _ h => h)⟩
    · rw [packed_yes hc]
      have hfit := fit_of hok hc
      have hpz := pck_size hfit.2
      have hrp := rpack_any l hfit.2
      obtain ⟨P, hP⟩ : ∃ P, pck l = P := ⟨_, rfl⟩
      rw [hP] at hpz ⊢
      simp only [hP] at hrp
      have b1 : (P.toList == P.toList) = true := beq_iff_eq.2 rfl
      go_wp2_with (first | (refine wpList_load_blk rfl 31 (.tmp 1) rfl (l := [.int .i64 l.kind, .int .i64 l.rq.client, .int .i64 l.rq.serial, .int .i64 l.rq.tenant, .string l.rq.key, .string l.rq.method, .string l.rq.path, .string l.rq.body, .int .i64 l.an.client, .int .i64 l.an.serial, .int .i64 l.an.status, .string l.an.text, .int .i64 l.an.after, .int .i64 l.an.epoch, .int .i64 l.cl.tenant, .string l.cl.key, .int .i64 l.cl.epoch, .int .i64 l.cl.phase, .int .i64 l.cl.token, .string l.cl.name, .string l.cl.body, .int .i64 l.rp.tenant, .string l.rp.key, .int .i64 l.rp.epoch, .int .i64 l.rp.phase, .int .i64 l.rp.token, .int .i64 l.rp.code]) hb rfl Try.underlying31 rfl iL rfl ?_))
      refine (rmay_any l ok hok _).mono ?_
      rintro e w4 ⟨rfl, hf4⟩
      have hb := hf4.blk hb (fun h => h)
      have hF := hF.trans hf4
      rw [hc]
      go_wp2_with fail
      refine (open_letter P hpz _).mono ?_
      rintro e w5 ⟨r, rfl, hf5, hsp⟩
      have hr : r = some l := (hsp l).2 ⟨hfit, hP.symm⟩
      subst hr
      have hb := hf5.blk hb (fun h => h)
      have hF := hF.trans hf5
      rw [show opened (some l) = .returned (.tuple #[.agg #[.int .i64 l.kind, .int .i64 l.rq.client, .int .i64 l.rq.serial, .int .i64 l.rq.tenant, .string l.rq.key, .string l.rq.method, .string l.rq.path, .string l.rq.body, .int .i64 l.an.client, .int .i64 l.an.serial, .int .i64 l.an.status, .string l.an.text, .int .i64 l.an.after, .int .i64 l.an.epoch, .int .i64 l.cl.tenant, .string l.cl.key, .int .i64 l.cl.epoch, .int .i64 l.cl.phase, .int .i64 l.cl.token, .string l.cl.name, .string l.cl.body, .int .i64 l.rp.tenant, .string l.rp.key, .int .i64 l.rp.epoch, .int .i64 l.rp.phase, .int .i64 l.rp.token, .int .i64 l.rp.code], .int .i64 0]) from rfl]
      have hz6 := Bk.new w5 (.cells #[.int .i64 0, .int .i64 0, .int .i64 0, .int .i64 0, .string ⟨#[]⟩, .string ⟨#[]⟩, .string ⟨#[]⟩, .string ⟨#[]⟩, .int .i64 0, .int .i64 0, .int .i64 0, .string ⟨#[]⟩, .int .i64 0, .int .i64 0, .int .i64 0, .string ⟨#[]⟩, .int .i64 0, .int .i64 0, .int .i64 0, .string ⟨#[]⟩, .string ⟨#[]⟩, .int .i64 0, .string ⟨#[]⟩, .int .i64 0, .int .i64 0, .int .i64 0, .int .i64 0] 31)
      have hb6' := ((Frm.refl (fun _ => False) w5).alloc (.cells #[.int .i64 0, .int .i64 0, .int .i64 0, .int .i64 0, .string ⟨#[]⟩, .string ⟨#[]⟩, .string ⟨#[]⟩, .string ⟨#[]⟩, .int .i64 0, .int .i64 0, .int .i64 0, .string ⟨#[]⟩, .int .i64 0, .int .i64 0, .int .i64 0, .string ⟨#[]⟩, .int .i64 0, .int .i64 0, .int .i64 0, .string ⟨#[]⟩, .string ⟨#[]⟩, .int .i64 0, .string ⟨#[]⟩, .int .i64 0, .int .i64 0, .int .i64 0, .int .i64 0] 31)).blk hb (fun h => h)
      have hF6' := hF.alloc (.cells #[.int .i64 0, .int .i64 0, .int .i64 0, .int .i64 0, .string ⟨#[]⟩, .string ⟨#[]⟩, .string ⟨#[]⟩, .string ⟨#[]⟩, .int .i64 0, .int .i64 0, .int .i64 0, .string ⟨#[]⟩, .int .i64 0, .int .i64 0, .int .i64 0, .string ⟨#[]⟩, .int .i64 0, .int .i64 0, .int .i64 0, .string ⟨#[]⟩, .string ⟨#[]⟩, .int .i64 0, .string ⟨#[]⟩, .int .i64 0, .int .i64 0, .int .i64 0, .int .i64 0] 31)
      have hlt := Bk.lt hb
      clear hb hF hf5 hf4 hf3 hf2 hf1
      go_upto_region 9 with (refine wpList_store_blk rfl 31 (.tmp 5) (.tmp 33) rfl hz6 rfl rfl iL (us := #[.int .i64 l.kind, .int .i64 l.rq.client, .int .i64 l.rq.serial, .int .i64 l.rq.tenant, .string l.rq.key, .string l.rq.method, .string l.rq.path, .string l.rq.body, .int .i64 l.an.client, .int .i64 l.an.serial, .int .i64 l.an.status, .string l.an.text, .int .i64 l.an.after, .int .i64 l.an.epoch, .int .i64 l.cl.tenant, .string l.cl.key, .int .i64 l.cl.epoch, .int .i64 l.cl.phase, .int .i64 l.cl.token, .string l.cl.name, .string l.cl.body, .int .i64 l.rp.tenant, .string l.rp.key, .int .i64 l.rp.epoch, .int .i64 l.rp.phase, .int .i64 l.rp.token, .int .i64 l.rp.code]) rfl rfl rfl ?_; intro w6 hx6 hf6)
      generalize w5.alloc (.cells #[.int .i64 0, .int .i64 0, .int .i64 0, .int .i64 0, .string ⟨#[]⟩, .string ⟨#[]⟩, .string ⟨#[]⟩, .string ⟨#[]⟩, .int .i64 0, .int .i64 0, .int .i64 0, .string ⟨#[]⟩, .int .i64 0, .int .i64 0, .int .i64 0, .string ⟨#[]⟩, .int .i64 0, .int .i64 0, .int .i64 0, .string ⟨#[]⟩, .string ⟨#[]⟩, .int .i64 0, .string ⟨#[]⟩, .int .i64 0, .int .i64 0, .int .i64 0, .int .i64 0] 31) = w6' at *
      generalize w5.heap.size = b6 at *
      have hb := hf6.blk hb6' (show ¬ b = b6 by omega)
      have hF := hF6'.then_ hf6 (fun i hi e => by omega)
      have HE := eql_same l
      go_wp2_with (first | (refine wpList_load_blk_g (by rfl) 31 (.tmp 1) rfl (l := [.int .i64 l.kind, .int .i64 l.rq.client, .int .i64 l.rq.serial, .int .i64 l.rq.tenant, .string l.rq.key, .string l.rq.method, .string l.rq.path, .string l.rq.body, .int .i64 l.an.client, .int .i64 l.an.serial, .int .i64 l.an.status, .string l.an.text, .int .i64 l.an.after, .int .i64 l.an.epoch, .int .i64 l.cl.tenant, .string l.cl.key, .int .i64 l.cl.epoch, .int .i64 l.cl.phase, .int .i64 l.cl.token, .string l.cl.name, .string l.cl.body, .int .i64 l.rp.tenant, .string l.rp.key, .int .i64 l.rp.epoch, .int .i64 l.rp.phase, .int .i64 l.rp.token, .int .i64 l.rp.code]) hb rfl Try.underlying31 rfl iL rfl ?_))
      refine (hrp _).mono ?_
      rintro e w7 ⟨rfl, hf7⟩
      have hb := hf7.blk hb (fun h => h)
      have hx7 := hf7.blk hx6 (fun h => h)
      have hF := hF.trans hf7
      go_wp2_with (first | (refine wpList_load_blk_g (by rfl) 31 (.tmp 1) rfl (l := [.int .i64 l.kind, .int .i64 l.rq.client, .int .i64 l.rq.serial, .int .i64 l.rq.tenant, .string l.rq.key, .string l.rq.method, .string l.rq.path, .string l.rq.body, .int .i64 l.an.client, .int .i64 l.an.serial, .int .i64 l.an.status, .string l.an.text, .int .i64 l.an.after, .int .i64 l.an.epoch, .int .i64 l.cl.tenant, .string l.cl.key, .int .i64 l.cl.epoch, .int .i64 l.cl.phase, .int .i64 l.cl.token, .string l.cl.name, .string l.cl.body, .int .i64 l.rp.tenant, .string l.rp.key, .int .i64 l.rp.epoch, .int .i64 l.rp.phase, .int .i64 l.rp.token, .int .i64 l.rp.code]) hb rfl Try.underlying31 rfl iL rfl ?_))
      refine (may_any l ok hok HZ _).mono ?_
      rintro e w8 ⟨rfl, hf8⟩
      have hb := hf8.blk hb (fun h => h)
      have hx8 := hf8.blk hx7 (fun h => h)
      have hF := hF.trans hf8
      rw [hc]
      go_wp2_with (first | (refine wpList_load_blk_g (by rfl) 31 (.tmp 5) rfl (l := [.int .i64 l.kind, .int .i64 l.rq.client, .int .i64 l.rq.serial, .int .i64 l.rq.tenant, .string l.rq.key, .string l.rq.method, .string l.rq.path, .string l.rq.body, .int .i64 l.an.client, .int .i64 l.an.serial, .int .i64 l.an.status, .string l.an.text, .int .i64 l.an.after, .int .i64 l.an.epoch, .int .i64 l.cl.tenant, .string l.cl.key, .int .i64 l.cl.epoch, .int .i64 l.cl.phase, .int .i64 l.cl.token, .string l.cl.name, .string l.cl.body, .int .i64 l.rp.tenant, .string l.rp.key, .int .i64 l.rp.epoch, .int .i64 l.rp.phase, .int .i64 l.rp.token, .int .i64 l.rp.code]) hx8 rfl Try.underlying31 rfl iL rfl ?_) | (refine wpList_load_blk_g (by rfl) 31 (.tmp 1) rfl (l := [.int .i64 l.kind, .int .i64 l.rq.client, .int .i64 l.rq.serial, .int .i64 l.rq.tenant, .string l.rq.key, .string l.rq.method, .string l.rq.path, .string l.rq.body, .int .i64 l.an.client, .int .i64 l.an.serial, .int .i64 l.an.status, .string l.an.text, .int .i64 l.an.after, .int .i64 l.an.epoch, .int .i64 l.cl.tenant, .string l.cl.key, .int .i64 l.cl.epoch, .int .i64 l.cl.phase, .int .i64 l.cl.token, .string l.cl.name, .string l.cl.body, .int .i64 l.rp.tenant, .string l.rp.key, .int .i64 l.rp.epoch, .int .i64 l.rp.phase, .int .i64 l.rp.token, .int .i64 l.rp.code]) hb rfl Try.underlying31 rfl iL rfl ?_))
      go_returns
      exact ⟨rfl, hbe ▸ hF.below (fun _ _ h => h)⟩
  · go_wp2
    go_returns
    exact ⟨rfl, hbe ▸ hF.below (fun _ _ h => h)⟩
end Lt
end Go.Proofs.Ythggbohoedfkpaa
