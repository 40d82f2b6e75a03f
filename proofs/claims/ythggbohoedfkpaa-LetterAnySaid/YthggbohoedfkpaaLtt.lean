/- Letters: the walk of LetterAny. -/
import Derived.Test.YthggbohoedfkpaaLtpe
import Derived.Test.YthggbohoedfkpaaLts
namespace Go.Proofs.Ythggbohoedfkpaa
open Go.RowKit Pk
set_option linter.unusedVariables false
set_option linter.unusedSimpArgs false
set_option maxRecDepth 100000
namespace Lt
set_option maxHeartbeats 2000000 in
theorem any_walk (s : ByteArray) (w : World) : Calls Try.prog 4 #[.string s] w fun e w' => e = .returned (.bool true) ∧ Below w.heap.size w w' := by
  by_cases h500 : 500 < s.size
  · have d1 : decide ((500 : Int) < (s.size : Int)) = true := decide_eq_true (by omega)
    go_enter Try.func4, Try.ntmps4
    go_wp2_with fail
    refine (awake_any _).mono ?_
    rintro e w1 ⟨rfl, hf1⟩
    go_wp2
    go_returns
    exact ⟨rfl, hf1.below (fun _ _ h => h)⟩
  have d1 : decide ((500 : Int) < (s.size : Int)) = false := decide_eq_false (by omega)
  go_enter Try.func4, Try.ntmps4
  go_wp2_with fail
  refine (awake_any _).mono ?_
  rintro e w1 ⟨rfl, hf1⟩
  go_wp2_with fail
  refine (open_letter s (by omega) _).mono ?_
  rintro e w2 ⟨r, rfl, hf2, hs1⟩
  have hF2 := hf1.trans hf2
  obtain ⟨L, hL⟩ : ∃ L, r.getD l0 = L := ⟨_, rfl⟩
  obtain ⟨n, hn⟩ : ∃ n : Int, (if r.isSome then 0 else 3) = n := ⟨_, rfl⟩
  rw [show opened r = .returned (.tuple #[.agg #[.int .i64 L.kind, .int .i64 L.rq.client, .int .i64 L.rq.serial, .int .i64 L.rq.tenant, .string L.rq.key, .string L.rq.method, .string L.rq.path, .string L.rq.body, .int .i64 L.an.client, .int .i64 L.an.serial, .int .i64 L.an.status, .string L.an.text, .int .i64 L.an.after, .int .i64 L.an.epoch, .int .i64 L.cl.tenant, .string L.cl.key, .int .i64 L.cl.epoch, .int .i64 L.cl.phase, .int .i64 L.cl.token, .string L.cl.name, .string L.cl.body, .int .i64 L.rp.tenant, .string L.rp.key, .int .i64 L.rp.epoch, .int .i64 L.rp.phase, .int .i64 L.rp.token, .int .i64 L.rp.code], .int .i64 n]) from by unfold opened; rw [hL, hn]; rfl]
  have hz3 := Bk.new w2 (.cells #[.int .i64 0, .int .i64 0, .int .i64 0, .int .i64 0, .string ⟨#[]⟩, .string ⟨#[]⟩, .string ⟨#[]⟩, .string ⟨#[]⟩, .int .i64 0, .int .i64 0, .int .i64 0, .string ⟨#[]⟩, .int .i64 0, .int .i64 0, .int .i64 0, .string ⟨#[]⟩, .int .i64 0, .int .i64 0, .int .i64 0, .string ⟨#[]⟩, .string ⟨#[]⟩, .int .i64 0, .string ⟨#[]⟩, .int .i64 0, .int .i64 0, .int .i64 0, .int .i64 0] 31)
  have hF3' := hF2.alloc (.cells #[.int .i64 0, .int .i64 0, .int .i64 0, .int .i64 0, .string ⟨#[]⟩, .string ⟨#[]⟩, .string ⟨#[]⟩, .string ⟨#[]⟩, .int .i64 0, .int .i64 0, .int .i64 0, .string ⟨#[]⟩, .int .i64 0, .int .i64 0, .int .i64 0, .string ⟨#[]⟩, .int .i64 0, .int .i64 0, .int .i64 0, .string ⟨#[]⟩, .string ⟨#[]⟩, .int .i64 0, .string ⟨#[]⟩, .int .i64 0, .int .i64 0, .int .i64 0, .int .i64 0] 31)
  have hsz := hF2.size
  go_wp2_with (refine wpList_store_blk rfl 31 (.tmp 3) (.tmp 15) rfl hz3 rfl rfl iL (us := #[.int .i64 L.kind, .int .i64 L.rq.client, .int .i64 L.rq.serial, .int .i64 L.rq.tenant, .string L.rq.key, .string L.rq.method, .string L.rq.path, .string L.rq.body, .int .i64 L.an.client, .int .i64 L.an.serial, .int .i64 L.an.status, .string L.an.text, .int .i64 L.an.after, .int .i64 L.an.epoch, .int .i64 L.cl.tenant, .string L.cl.key, .int .i64 L.cl.epoch, .int .i64 L.cl.phase, .int .i64 L.cl.token, .string L.cl.name, .string L.cl.body, .int .i64 L.rp.tenant, .string L.rp.key, .int .i64 L.rp.epoch, .int .i64 L.rp.phase, .int .i64 L.rp.token, .int .i64 L.rp.code]) rfl rfl rfl ?_; intro w3 hb3 hf3)
  generalize w2.alloc (.cells #[.int .i64 0, .int .i64 0, .int .i64 0, .int .i64 0, .string ⟨#[]⟩, .string ⟨#[]⟩, .string ⟨#[]⟩, .string ⟨#[]⟩, .int .i64 0, .int .i64 0, .int .i64 0, .string ⟨#[]⟩, .int .i64 0, .int .i64 0, .int .i64 0, .string ⟨#[]⟩, .int .i64 0, .int .i64 0, .int .i64 0, .string ⟨#[]⟩, .string ⟨#[]⟩, .int .i64 0, .string ⟨#[]⟩, .int .i64 0, .int .i64 0, .int .i64 0, .int .i64 0] 31) = w3' at *
  generalize w2.heap.size = b3 at *
  have hF3 := hF3'.then_ hf3 (fun i hi e => by omega)
  clear hz3 hF3' hf3
  refine (ropen_letter s (by omega) _).mono ?_
  rintro e w4 ⟨r', rfl, hf4, hs2⟩
  have hrr : r' = r := hs2.same hs1
  subst hrr
  have hb4 := hf4.blk hb3 (fun h => h)
  have hF4 := hF3.trans hf4
  rw [show ropened r' = .returned (.tuple #[.agg #[.int .i64 L.kind, .int .i64 L.rq.client, .int .i64 L.rq.serial, .int .i64 L.rq.tenant, .string L.rq.key, .string L.rq.method, .string L.rq.path, .string L.rq.body, .int .i64 L.an.client, .int .i64 L.an.serial, .int .i64 L.an.status, .string L.an.text, .int .i64 L.an.after, .int .i64 L.an.epoch, .int .i64 L.cl.tenant, .string L.cl.key, .int .i64 L.cl.epoch, .int .i64 L.cl.phase, .int .i64 L.cl.token, .string L.cl.name, .string L.cl.body, .int .i64 L.rp.tenant, .string L.rp.key, .int .i64 L.rp.epoch, .int .i64 L.rp.phase, .int .i64 L.rp.token, .int .i64 L.rp.code], .bool r'.isSome]) from by unfold ropened; rw [hL]; rfl]
  have hz5 := Bk.new w4 (.cells #[.int .i64 0, .int .i64 0, .int .i64 0, .int .i64 0, .string ⟨#[]⟩, .string ⟨#[]⟩, .string ⟨#[]⟩, .string ⟨#[]⟩, .int .i64 0, .int .i64 0, .int .i64 0, .string ⟨#[]⟩, .int .i64 0, .int .i64 0, .int .i64 0, .string ⟨#[]⟩, .int .i64 0, .int .i64 0, .int .i64 0, .string ⟨#[]⟩, .string ⟨#[]⟩, .int .i64 0, .string ⟨#[]⟩, .int .i64 0, .int .i64 0, .int .i64 0, .int .i64 0] 31)
  have hf5' := (Frm.refl (fun _ => False) w4).alloc (.cells #[.int .i64 0, .int .i64 0, .int .i64 0, .int .i64 0, .string ⟨#[]⟩, .string ⟨#[]⟩, .string ⟨#[]⟩, .string ⟨#[]⟩, .int .i64 0, .int .i64 0, .int .i64 0, .string ⟨#[]⟩, .int .i64 0, .int .i64 0, .int .i64 0, .string ⟨#[]⟩, .int .i64 0, .int .i64 0, .int .i64 0, .string ⟨#[]⟩, .string ⟨#[]⟩, .int .i64 0, .string ⟨#[]⟩, .int .i64 0, .int .i64 0, .int .i64 0, .int .i64 0] 31)
  have hF5' := hF4.alloc (.cells #[.int .i64 0, .int .i64 0, .int .i64 0, .int .i64 0, .string ⟨#[]⟩, .string ⟨#[]⟩, .string ⟨#[]⟩, .string ⟨#[]⟩, .int .i64 0, .int .i64 0, .int .i64 0, .string ⟨#[]⟩, .int .i64 0, .int .i64 0, .int .i64 0, .string ⟨#[]⟩, .int .i64 0, .int .i64 0, .int .i64 0, .string ⟨#[]⟩, .string ⟨#[]⟩, .int .i64 0, .string ⟨#[]⟩, .int .i64 0, .int .i64 0, .int .i64 0, .int .i64 0] 31)
  have hb5' := hf5'.blk hb4 (fun h => h)
  have hlt := Bk.lt hb4
  have hsz4 := hF4.size
  clear hf5' hb3 hF3 hf4 hF4 hb4
  go_upto_region 7 with (refine wpList_store_blk rfl 31 (.tmp 5) (.tmp 20) rfl hz5 rfl rfl iL (us := #[.int .i64 L.kind, .int .i64 L.rq.client, .int .i64 L.rq.serial, .int .i64 L.rq.tenant, .string L.rq.key, .string L.rq.method, .string L.rq.path, .string L.rq.body, .int .i64 L.an.client, .int .i64 L.an.serial, .int .i64 L.an.status, .string L.an.text, .int .i64 L.an.after, .int .i64 L.an.epoch, .int .i64 L.cl.tenant, .string L.cl.key, .int .i64 L.cl.epoch, .int .i64 L.cl.phase, .int .i64 L.cl.token, .string L.cl.name, .string L.cl.body, .int .i64 L.rp.tenant, .string L.rp.key, .int .i64 L.rp.epoch, .int .i64 L.rp.phase, .int .i64 L.rp.token, .int .i64 L.rp.code]) rfl rfl rfl ?_; intro w5 hb6 hf5)
  generalize w4.alloc (.cells #[.int .i64 0, .int .i64 0, .int .i64 0, .int .i64 0, .string ⟨#[]⟩, .string ⟨#[]⟩, .string ⟨#[]⟩, .string ⟨#[]⟩, .int .i64 0, .int .i64 0, .int .i64 0, .string ⟨#[]⟩, .int .i64 0, .int .i64 0, .int .i64 0, .string ⟨#[]⟩, .int .i64 0, .int .i64 0, .int .i64 0, .string ⟨#[]⟩, .string ⟨#[]⟩, .int .i64 0, .string ⟨#[]⟩, .int .i64 0, .int .i64 0, .int .i64 0, .int .i64 0] 31) = w5' at *
  generalize w4.heap.size = b5 at *
  have hb5 := hf5.blk hb5' (show ¬ b3 = b5 by omega)
  have hF5 := hF5'.then_ hf5 (fun i hi e => by omega)
  clear hz5 hF5' hb5' hf5
  have HE := eql_same L
  cases r' with
  | none =>
    have hL2 : L = l0 := hL.symm
    have hn2 : n = 3 := hn.symm
    subst hL2 hn2
    have HE2 : ∀ w9, (binOp .eql 31 (.agg #[.int .i64 l0.kind, .int .i64 l0.rq.client, .int .i64 l0.rq.serial, .int .i64 l0.rq.tenant, .string l0.rq.key, .string l0.rq.method, .string l0.rq.path, .string l0.rq.body, .int .i64 l0.an.client, .int .i64 l0.an.serial, .int .i64 l0.an.status, .string l0.an.text, .int .i64 l0.an.after, .int .i64 l0.an.epoch, .int .i64 l0.cl.tenant, .string l0.cl.key, .int .i64 l0.cl.epoch, .int .i64 l0.cl.phase, .int .i64 l0.cl.token, .string l0.cl.name, .string l0.cl.body, .int .i64 l0.rp.tenant, .string l0.rp.key, .int .i64 l0.rp.epoch, .int .i64 l0.rp.phase, .int .i64 l0.rp.token, .int .i64 l0.rp.code]) (.agg #[.int .i64 0, .int .i64 0, .int .i64 0, .int .i64 0, .string ⟨#[]⟩, .string ⟨#[]⟩, .string ⟨#[]⟩, .string ⟨#[]⟩, .int .i64 0, .int .i64 0, .int .i64 0, .string ⟨#[]⟩, .int .i64 0, .int .i64 0, .int .i64 0, .string ⟨#[]⟩, .int .i64 0, .int .i64 0, .int .i64 0, .string ⟨#[]⟩, .string ⟨#[]⟩, .int .i64 0, .string ⟨#[]⟩, .int .i64 0, .int .i64 0, .int .i64 0, .int .i64 0])).run Try.prog w9 = .ok (.bool true) w9 := HE
    go_wp2_with (first | (refine wpList_load_blk_g (by rfl) 31 (.tmp 3) rfl (l := [.int .i64 l0.kind, .int .i64 l0.rq.client, .int .i64 l0.rq.serial, .int .i64 l0.rq.tenant, .string l0.rq.key, .string l0.rq.method, .string l0.rq.path, .string l0.rq.body, .int .i64 l0.an.client, .int .i64 l0.an.serial, .int .i64 l0.an.status, .string l0.an.text, .int .i64 l0.an.after, .int .i64 l0.an.epoch, .int .i64 l0.cl.tenant, .string l0.cl.key, .int .i64 l0.cl.epoch, .int .i64 l0.cl.phase, .int .i64 l0.cl.token, .string l0.cl.name, .string l0.cl.body, .int .i64 l0.rp.tenant, .string l0.rp.key, .int .i64 l0.rp.epoch, .int .i64 l0.rp.phase, .int .i64 l0.rp.token, .int .i64 l0.rp.code]) hb5 rfl Try.underlying31 rfl iL rfl ?_))
    go_returns
    exact ⟨rfl, hF5.below (fun _ _ h => h)⟩
  | some l =>
    have hn2 : n = 0 := hn.symm
    subst hn2
    go_wp2_with (first | (refine wpList_load_blk_g (by rfl) 31 (.tmp 3) rfl (l := [.int .i64 L.kind, .int .i64 L.rq.client, .int .i64 L.rq.serial, .int .i64 L.rq.tenant, .string L.rq.key, .string L.rq.method, .string L.rq.path, .string L.rq.body, .int .i64 L.an.client, .int .i64 L.an.serial, .int .i64 L.an.status, .string L.an.text, .int .i64 L.an.after, .int .i64 L.an.epoch, .int .i64 L.cl.tenant, .string L.cl.key, .int .i64 L.cl.epoch, .int .i64 L.cl.phase, .int .i64 L.cl.token, .string L.cl.name, .string L.cl.body, .int .i64 L.rp.tenant, .string L.rp.key, .int .i64 L.rp.epoch, .int .i64 L.rp.phase, .int .i64 L.rp.token, .int .i64 L.rp.code]) hb5 rfl Try.underlying31 rfl iL rfl ?_) | (refine wpList_load_blk_g (by rfl) 31 (.tmp 5) rfl (l := [.int .i64 L.kind, .int .i64 L.rq.client, .int .i64 L.rq.serial, .int .i64 L.rq.tenant, .string L.rq.key, .string L.rq.method, .string L.rq.path, .string L.rq.body, .int .i64 L.an.client, .int .i64 L.an.serial, .int .i64 L.an.status, .string L.an.text, .int .i64 L.an.after, .int .i64 L.an.epoch, .int .i64 L.cl.tenant, .string L.cl.key, .int .i64 L.cl.epoch, .int .i64 L.cl.phase, .int .i64 L.cl.token, .string L.cl.name, .string L.cl.body, .int .i64 L.rp.tenant, .string L.rp.key, .int .i64 L.rp.epoch, .int .i64 L.rp.phase, .int .i64 L.rp.token, .int .i64 L.rp.code]) hb6 rfl Try.underlying31 rfl iL rfl ?_))
    go_returns
    exact ⟨rfl, hF5.below (fun _ _ h => h)⟩
end Lt
end Go.Proofs.Ythggbohoedfkpaa
