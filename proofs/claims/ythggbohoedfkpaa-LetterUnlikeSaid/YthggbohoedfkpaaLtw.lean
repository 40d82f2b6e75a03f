/- Letters: the walk of LetterUnlike. -/
import Derived.Test.YthggbohoedfkpaaLts
namespace Go.Proofs.Ythggbohoedfkpaa
open Go.RowKit Pk
set_option linter.unusedVariables false
set_option linter.unusedSimpArgs false
set_option maxRecDepth 100000
namespace Lt
theorem ex_ok2 (p : Prop) : ∃ ok : Bool, ok = true ↔ p := by
  by_cases h : p
  · exact ⟨true, fun _ => h, fun _ => rfl⟩
  · exact ⟨false, (fun e => by cases e), fun e => absurd e h⟩
set_option maxHeartbeats 4000000 in
theorem unlike_walk (a b : Ltr) (w : World) : Calls Try.prog 5 #[.agg #[.int .i64 a.kind, .int .i64 a.rq.client, .int .i64 a.rq.serial, .int .i64 a.rq.tenant, .string a.rq.key, .string a.rq.method, .string a.rq.path, .string a.rq.body, .int .i64 a.an.client, .int .i64 a.an.serial, .int .i64 a.an.status, .string a.an.text, .int .i64 a.an.after, .int .i64 a.an.epoch, .int .i64 a.cl.tenant, .string a.cl.key, .int .i64 a.cl.epoch, .int .i64 a.cl.phase, .int .i64 a.cl.token, .string a.cl.name, .string a.cl.body, .int .i64 a.rp.tenant, .string a.rp.key, .int .i64 a.rp.epoch, .int .i64 a.rp.phase, .int .i64 a.rp.token, .int .i64 a.rp.code], .agg #[.int .i64 b.kind, .int .i64 b.rq.client, .int .i64 b.rq.serial, .int .i64 b.rq.tenant, .string b.rq.key, .string b.rq.method, .string b.rq.path, .string b.rq.body, .int .i64 b.an.client, .int .i64 b.an.serial, .int .i64 b.an.status, .string b.an.text, .int .i64 b.an.after, .int .i64 b.an.epoch, .int .i64 b.cl.tenant, .string b.cl.key, .int .i64 b.cl.epoch, .int .i64 b.cl.phase, .int .i64 b.cl.token, .string b.cl.name, .string b.cl.body, .int .i64 b.rp.tenant, .string b.rp.key, .int .i64 b.rp.epoch, .int .i64 b.rp.phase, .int .i64 b.rp.token, .int .i64 b.rp.code]] w fun e w' => e = .returned (.bool true) ∧ Below w.heap.size w w' := by
  have ha := Bk.alloc (Bk.new w (.cells #[.int .i64 a.kind, .int .i64 a.rq.client, .int .i64 a.rq.serial, .int .i64 a.rq.tenant, .string a.rq.key, .string a.rq.method, .string a.rq.path, .string a.rq.body, .int .i64 a.an.client, .int .i64 a.an.serial, .int .i64 a.an.status, .string a.an.text, .int .i64 a.an.after, .int .i64 a.an.epoch, .int .i64 a.cl.tenant, .string a.cl.key, .int .i64 a.cl.epoch, .int .i64 a.cl.phase, .int .i64 a.cl.token, .string a.cl.name, .string a.cl.body, .int .i64 a.rp.tenant, .string a.rp.key, .int .i64 a.rp.epoch, .int .i64 a.rp.phase, .int .i64 a.rp.token, .int .i64 a.rp.code] 31)) (.cells #[.int .i64 b.kind, .int .i64 b.rq.client, .int .i64 b.rq.serial, .int .i64 b.rq.tenant, .string b.rq.key, .string b.rq.method, .string b.rq.path, .string b.rq.body, .int .i64 b.an.client, .int .i64 b.an.serial, .int .i64 b.an.status, .string b.an.text, .int .i64 b.an.after, .int .i64 b.an.epoch, .int .i64 b.cl.tenant, .string b.cl.key, .int .i64 b.cl.epoch, .int .i64 b.cl.phase, .int .i64 b.cl.token, .string b.cl.name, .string b.cl.body, .int .i64 b.rp.tenant, .string b.rp.key, .int .i64 b.rp.epoch, .int .i64 b.rp.phase, .int .i64 b.rp.token, .int .i64 b.rp.code] 31)
  have hb := Bk.new (w.alloc (.cells #[.int .i64 a.kind, .int .i64 a.rq.client, .int .i64 a.rq.serial, .int .i64 a.rq.tenant, .string a.rq.key, .string a.rq.method, .string a.rq.path, .string a.rq.body, .int .i64 a.an.client, .int .i64 a.an.serial, .int .i64 a.an.status, .string a.an.text, .int .i64 a.an.after, .int .i64 a.an.epoch, .int .i64 a.cl.tenant, .string a.cl.key, .int .i64 a.cl.epoch, .int .i64 a.cl.phase, .int .i64 a.cl.token, .string a.cl.name, .string a.cl.body, .int .i64 a.rp.tenant, .string a.rp.key, .int .i64 a.rp.epoch, .int .i64 a.rp.phase, .int .i64 a.rp.token, .int .i64 a.rp.code] 31)) (.cells #[.int .i64 b.kind, .int .i64 b.rq.client, .int .i64 b.rq.serial, .int .i64 b.rq.tenant, .string b.rq.key, .string b.rq.method, .string b.rq.path, .string b.rq.body, .int .i64 b.an.client, .int .i64 b.an.serial, .int .i64 b.an.status, .string b.an.text, .int .i64 b.an.after, .int .i64 b.an.epoch, .int .i64 b.cl.tenant, .string b.cl.key, .int .i64 b.cl.epoch, .int .i64 b.cl.phase, .int .i64 b.cl.token, .string b.cl.name, .string b.cl.body, .int .i64 b.rp.tenant, .string b.rp.key, .int .i64 b.rp.epoch, .int .i64 b.rp.phase, .int .i64 b.rp.token, .int .i64 b.rp.code] 31)
  rw [show (w.alloc (.cells #[.int .i64 a.kind, .int .i64 a.rq.client, .int .i64 a.rq.serial, .int .i64 a.rq.tenant, .string a.rq.key, .string a.rq.method, .string a.rq.path, .string a.rq.body, .int .i64 a.an.client, .int .i64 a.an.serial, .int .i64 a.an.status, .string a.an.text, .int .i64 a.an.after, .int .i64 a.an.epoch, .int .i64 a.cl.tenant, .string a.cl.key, .int .i64 a.cl.epoch, .int .i64 a.cl.phase, .int .i64 a.cl.token, .string a.cl.name, .string a.cl.body, .int .i64 a.rp.tenant, .string a.rp.key, .int .i64 a.rp.epoch, .int .i64 a.rp.phase, .int .i64 a.rp.token, .int .i64 a.rp.code] 31)).heap.size = w.heap.size + 1 by simp] at hb
  have hF := ((Frm.refl (fun _ => False) w).alloc (.cells #[.int .i64 a.kind, .int .i64 a.rq.client, .int .i64 a.rq.serial, .int .i64 a.rq.tenant, .string a.rq.key, .string a.rq.method, .string a.rq.path, .string a.rq.body, .int .i64 a.an.client, .int .i64 a.an.serial, .int .i64 a.an.status, .string a.an.text, .int .i64 a.an.after, .int .i64 a.an.epoch, .int .i64 a.cl.tenant, .string a.cl.key, .int .i64 a.cl.epoch, .int .i64 a.cl.phase, .int .i64 a.cl.token, .string a.cl.name, .string a.cl.body, .int .i64 a.rp.tenant, .string a.rp.key, .int .i64 a.rp.epoch, .int .i64 a.rp.phase, .int .i64 a.rp.token, .int .i64 a.rp.code] 31)).alloc (.cells #[.int .i64 b.kind, .int .i64 b.rq.client, .int .i64 b.rq.serial, .int .i64 b.rq.tenant, .string b.rq.key, .string b.rq.method, .string b.rq.path, .string b.rq.body, .int .i64 b.an.client, .int .i64 b.an.serial, .int .i64 b.an.status, .string b.an.text, .int .i64 b.an.after, .int .i64 b.an.epoch, .int .i64 b.cl.tenant, .string b.cl.key, .int .i64 b.cl.epoch, .int .i64 b.cl.phase, .int .i64 b.cl.token, .string b.cl.name, .string b.cl.body, .int .i64 b.rp.tenant, .string b.rp.key, .int .i64 b.rp.epoch, .int .i64 b.rp.phase, .int .i64 b.rp.token, .int .i64 b.rp.code] 31)
  go_enter Try.func5, Try.ntmps5
  go_wp2_with fail
  generalize (w.alloc (.cells #[.int .i64 a.kind, .int .i64 a.rq.client, .int .i64 a.rq.serial, .int .i64 a.rq.tenant, .string a.rq.key, .string a.rq.method, .string a.rq.path, .string a.rq.body, .int .i64 a.an.client, .int .i64 a.an.serial, .int .i64 a.an.status, .string a.an.text, .int .i64 a.an.after, .int .i64 a.an.epoch, .int .i64 a.cl.tenant, .string a.cl.key, .int .i64 a.cl.epoch, .int .i64 a.cl.phase, .int .i64 a.cl.token, .string a.cl.name, .string a.cl.body, .int .i64 a.rp.tenant, .string a.rp.key, .int .i64 a.rp.epoch, .int .i64 a.rp.phase, .int .i64 a.rp.token, .int .i64 a.rp.code] 31)).alloc (.cells #[.int .i64 b.kind, .int .i64 b.rq.client, .int .i64 b.rq.serial, .int .i64 b.rq.tenant, .string b.rq.key, .string b.rq.method, .string b.rq.path, .string b.rq.body, .int .i64 b.an.client, .int .i64 b.an.serial, .int .i64 b.an.status, .string b.an.text, .int .i64 b.an.after, .int .i64 b.an.epoch, .int .i64 b.cl.tenant, .string b.cl.key, .int .i64 b.cl.epoch, .int .i64 b.cl.phase, .int .i64 b.cl.token, .string b.cl.name, .string b.cl.body, .int .i64 b.rp.tenant, .string b.rp.key, .int .i64 b.rp.epoch, .int .i64 b.rp.phase, .int .i64 b.rp.token, .int .i64 b.rp.code] 31) = w0 at *
  generalize w.heap.size + 1 = bb at *
  generalize hbe : w.heap.size = ba at *
  refine (awake_any _).mono ?_
  rintro e w1 ⟨rfl, hf1⟩
  have ha := hf1.blk ha (fun h => h)
  have hb := hf1.blk hb (fun h => h)
  have hF := hF.trans hf1
  go_wp2_with (first | (refine wpList_load_blk rfl 31 (.tmp 2) rfl (l := [.int .i64 a.kind, .int .i64 a.rq.client, .int .i64 a.rq.serial, .int .i64 a.rq.tenant, .string a.rq.key, .string a.rq.method, .string a.rq.path, .string a.rq.body, .int .i64 a.an.client, .int .i64 a.an.serial, .int .i64 a.an.status, .string a.an.text, .int .i64 a.an.after, .int .i64 a.an.epoch, .int .i64 a.cl.tenant, .string a.cl.key, .int .i64 a.cl.epoch, .int .i64 a.cl.phase, .int .i64 a.cl.token, .string a.cl.name, .string a.cl.body, .int .i64 a.rp.tenant, .string a.rp.key, .int .i64 a.rp.epoch, .int .i64 a.rp.phase, .int .i64 a.rp.token, .int .i64 a.rp.code]) ha rfl Try.underlying31 rfl iL rfl ?_))
  refine (long_any a _).mono ?_
  rintro e w2 ⟨lg, rfl, hf2, hz⟩
  have ha := hf2.blk ha (fun h => h)
  have hb := hf2.blk hb (fun h => h)
  have hF := hF.trans hf2
  cases lg
  · have HA : Sm a := hz rfl
    clear hz hf1 hf2
    go_wp2_with (first | (refine wpList_load_blk_g (by rfl) 31 (.tmp 3) rfl (l := [.int .i64 b.kind, .int .i64 b.rq.client, .int .i64 b.rq.serial, .int .i64 b.rq.tenant, .string b.rq.key, .string b.rq.method, .string b.rq.path, .string b.rq.body, .int .i64 b.an.client, .int .i64 b.an.serial, .int .i64 b.an.status, .string b.an.text, .int .i64 b.an.after, .int .i64 b.an.epoch, .int .i64 b.cl.tenant, .string b.cl.key, .int .i64 b.cl.epoch, .int .i64 b.cl.phase, .int .i64 b.cl.token, .string b.cl.name, .string b.cl.body, .int .i64 b.rp.tenant, .string b.rp.key, .int .i64 b.rp.epoch, .int .i64 b.rp.phase, .int .i64 b.rp.token, .int .i64 b.rp.code]) hb rfl Try.underlying31 rfl iL rfl ?_))
    refine (long_any b _).mono ?_
    rintro e w3 ⟨lg, rfl, hf3, hz⟩
    have ha := hf3.blk ha (fun h => h)
    have hb := hf3.blk hb (fun h => h)
    have hF := hF.trans hf3
    cases lg
    · have HB : Sm b := hz rfl
      clear hz hf3
      obtain ⟨oka, hoka⟩ := ex_ok2 (a = alone a)
      obtain ⟨okb, hokb⟩ := ex_ok2 (b = alone b)
      go_wp2_with (first | (refine wpList_load_blk rfl 31 (.tmp 2) rfl (l := [.int .i64 a.kind, .int .i64 a.rq.client, .int .i64 a.rq.serial, .int .i64 a.rq.tenant, .string a.rq.key, .string a.rq.method, .string a.rq.path, .string a.rq.body, .int .i64 a.an.client, .int .i64 a.an.serial, .int .i64 a.an.status, .string a.an.text, .int .i64 a.an.after, .int .i64 a.an.epoch, .int .i64 a.cl.tenant, .string a.cl.key, .int .i64 a.cl.epoch, .int .i64 a.cl.phase, .int .i64 a.cl.token, .string a.cl.name, .string a.cl.body, .int .i64 a.rp.tenant, .string a.rp.key, .int .i64 a.rp.epoch, .int .i64 a.rp.phase, .int .i64 a.rp.token, .int .i64 a.rp.code]) ha rfl Try.underlying31 rfl iL rfl ?_))
      refine (pack_any a oka hoka HA _).mono ?_
      rintro e w4 ⟨rfl, hf4⟩
      have ha := hf4.blk ha (fun h => h)
      have hb := hf4.blk hb (fun h => h)
      have hF := hF.trans hf4
      have hpa : ∃ s n, packed oka a = .returned (.tuple #[.string s, .int .i64 n]) ∧ (chk oka a = true → s = pck a ∧ n = 0) ∧ (chk oka a = false → n = 1) := by
        cases h : chk oka a
        · exact ⟨_, _, packed_no h, (fun h => by cases h), fun _ => rfl⟩
        · exact ⟨_, _, packed_yes h, (fun _ => ⟨rfl, rfl⟩), fun h => by cases h⟩
      have hpb : ∃ s n, packed okb b = .returned (.tuple #[.string s, .int .i64 n]) ∧ (chk okb b = true → s = pck b ∧ n = 0) ∧ (chk okb b = false → n = 1) := by
        cases h : chk okb b
        · exact ⟨_, _, packed_no h, (fun h => by cases h), fun _ => rfl⟩
        · exact ⟨_, _, packed_yes h, (fun _ => ⟨rfl, rfl⟩), fun h => by cases h⟩
      obtain ⟨P, na, hpa, hya, hna⟩ := hpa
      obtain ⟨Q, nb, hpb, hyb, hnb⟩ := hpb
      rw [hpa]
      go_wp2_with (first | (refine wpList_load_blk rfl 31 (.tmp 3) rfl (l := [.int .i64 b.kind, .int .i64 b.rq.client, .int .i64 b.rq.serial, .int .i64 b.rq.tenant, .string b.rq.key, .string b.rq.method, .string b.rq.path, .string b.rq.body, .int .i64 b.an.client, .int .i64 b.an.serial, .int .i64 b.an.status, .string b.an.text, .int .i64 b.an.after, .int .i64 b.an.epoch, .int .i64 b.cl.tenant, .string b.cl.key, .int .i64 b.cl.epoch, .int .i64 b.cl.phase, .int .i64 b.cl.token, .string b.cl.name, .string b.cl.body, .int .i64 b.rp.tenant, .string b.rp.key, .int .i64 b.rp.epoch, .int .i64 b.rp.phase, .int .i64 b.rp.token, .int .i64 b.rp.code]) hb rfl Try.underlying31 rfl iL rfl ?_))
      refine (pack_any b okb hokb HB _).mono ?_
      rintro e w5 ⟨rfl, hf5⟩
      have ha := hf5.blk ha (fun h => h)
      have hb := hf5.blk hb (fun h => h)
      have hF := hF.trans hf5
      rw [hpb]
      clear hpa hpb hf4 hf5
      cases hca : chk oka a
      · have hn := hna hca
        subst hn
        go_wp2_with (first | (refine wpList_load_blk rfl 31 (.tmp 2) rfl (l := [.int .i64 a.kind, .int .i64 a.rq.client, .int .i64 a.rq.serial, .int .i64 a.rq.tenant, .string a.rq.key, .string a.rq.method, .string a.rq.path, .string a.rq.body, .int .i64 a.an.client, .int .i64 a.an.serial, .int .i64 a.an.status, .string a.an.text, .int .i64 a.an.after, .int .i64 a.an.epoch, .int .i64 a.cl.tenant, .string a.cl.key, .int .i64 a.cl.epoch, .int .i64 a.cl.phase, .int .i64 a.cl.token, .string a.cl.name, .string a.cl.body, .int .i64 a.rp.tenant, .string a.rp.key, .int .i64 a.rp.epoch, .int .i64 a.rp.phase, .int .i64 a.rp.token, .int .i64 a.rp.code]) ha rfl Try.underlying31 rfl iL rfl ?_))
        refine (rmay_any a oka hoka _).mono ?_
        rintro e w6 ⟨rfl, hf6⟩
        have hF := hF.trans hf6
        rw [hca]
        go_wp2
        go_returns
        exact ⟨rfl, hbe ▸ hF.below (fun _ _ h => h)⟩
      · obtain ⟨hP, hn⟩ := hya hca
        subst hn
        cases hcb : chk okb b
        · have hn := hnb hcb
          subst hn
          go_wp2_with (first | (refine wpList_load_blk rfl 31 (.tmp 2) rfl (l := [.int .i64 a.kind, .int .i64 a.rq.client, .int .i64 a.rq.serial, .int .i64 a.rq.tenant, .string a.rq.key, .string a.rq.method, .string a.rq.path, .string a.rq.body, .int .i64 a.an.client, .int .i64 a.an.serial, .int .i64 a.an.status, .string a.an.text, .int .i64 a.an.after, .int .i64 a.an.epoch, .int .i64 a.cl.tenant, .string a.cl.key, .int .i64 a.cl.epoch, .int .i64 a.cl.phase, .int .i64 a.cl.token, .string a.cl.name, .string a.cl.body, .int .i64 a.rp.tenant, .string a.rp.key, .int .i64 a.rp.epoch, .int .i64 a.rp.phase, .int .i64 a.rp.token, .int .i64 a.rp.code]) ha rfl Try.underlying31 rfl iL rfl ?_))
          refine (rmay_any a oka hoka _).mono ?_
          rintro e w6 ⟨rfl, hf6⟩
          have ha := hf6.blk ha (fun h => h)
          have hb := hf6.blk hb (fun h => h)
          have hF := hF.trans hf6
          rw [hca]
          go_wp2_with (first | (refine wpList_load_blk_g (by rfl) 31 (.tmp 3) rfl (l := [.int .i64 b.kind, .int .i64 b.rq.client, .int .i64 b.rq.serial, .int .i64 b.rq.tenant, .string b.rq.key, .string b.rq.method, .string b.rq.path, .string b.rq.body, .int .i64 b.an.client, .int .i64 b.an.serial, .int .i64 b.an.status, .string b.an.text, .int .i64 b.an.after, .int .i64 b.an.epoch, .int .i64 b.cl.tenant, .string b.cl.key, .int .i64 b.cl.epoch, .int .i64 b.cl.phase, .int .i64 b.cl.token, .string b.cl.name, .string b.cl.body, .int .i64 b.rp.tenant, .string b.rp.key, .int .i64 b.rp.epoch, .int .i64 b.rp.phase, .int .i64 b.rp.token, .int .i64 b.rp.code]) hb rfl Try.underlying31 rfl iL rfl ?_))
          refine (rmay_any b okb hokb _).mono ?_
          rintro e w7 ⟨rfl, hf7⟩
          have hF := hF.trans hf7
          rw [hcb]
          go_wp2
          go_returns
          exact ⟨rfl, hbe ▸ hF.below (fun _ _ h => h)⟩
        · obtain ⟨hQ, hn⟩ := hyb hcb
          subst hn
          have hfa := Lib.hid (fit_of hoka hca)
          have hfb := Lib.hid (fit_of hokb hcb)
          have hpz := pck_size hfa.out.2
          have hqz := pck_size hfb.out.2
          rw [← hP] at hpz
          rw [← hQ] at hqz
          have hPh := Lib.hid hP.symm
          have hQh := Lib.hid hQ.symm
          have Ha := Lib.hid ha
          have Hb := Lib.hid hb
          have heq : a = b → ∀ w9, (binOp .eql 31 (.agg #[.int .i64 a.kind, .int .i64 a.rq.client, .int .i64 a.rq.serial, .int .i64 a.rq.tenant, .string a.rq.key, .string a.rq.method, .string a.rq.path, .string a.rq.body, .int .i64 a.an.client, .int .i64 a.an.serial, .int .i64 a.an.status, .string a.an.text, .int .i64 a.an.after, .int .i64 a.an.epoch, .int .i64 a.cl.tenant, .string a.cl.key, .int .i64 a.cl.epoch, .int .i64 a.cl.phase, .int .i64 a.cl.token, .string a.cl.name, .string a.cl.body, .int .i64 a.rp.tenant, .string a.rp.key, .int .i64 a.rp.epoch, .int .i64 a.rp.phase, .int .i64 a.rp.token, .int .i64 a.rp.code]) (.agg #[.int .i64 b.kind, .int .i64 b.rq.client, .int .i64 b.rq.serial, .int .i64 b.rq.tenant, .string b.rq.key, .string b.rq.method, .string b.rq.path, .string b.rq.body, .int .i64 b.an.client, .int .i64 b.an.serial, .int .i64 b.an.status, .string b.an.text, .int .i64 b.an.after, .int .i64 b.an.epoch, .int .i64 b.cl.tenant, .string b.cl.key, .int .i64 b.cl.epoch, .int .i64 b.cl.phase, .int .i64 b.cl.token, .string b.cl.name, .string b.cl.body, .int .i64 b.rp.tenant, .string b.rp.key, .int .i64 b.rp.epoch, .int .i64 b.rp.phase, .int .i64 b.rp.token, .int .i64 b.rp.code])).run Try.prog w9 = .ok (.bool true) w9 := fun e => by
            subst e
            exact eql_same a
          have hne : a ≠ b → ∀ w9, (binOp .eql 31 (.agg #[.int .i64 a.kind, .int .i64 a.rq.client, .int .i64 a.rq.serial, .int .i64 a.rq.tenant, .string a.rq.key, .string a.rq.method, .string a.rq.path, .string a.rq.body, .int .i64 a.an.client, .int .i64 a.an.serial, .int .i64 a.an.status, .string a.an.text, .int .i64 a.an.after, .int .i64 a.an.epoch, .int .i64 a.cl.tenant, .string a.cl.key, .int .i64 a.cl.epoch, .int .i64 a.cl.phase, .int .i64 a.cl.token, .string a.cl.name, .string a.cl.body, .int .i64 a.rp.tenant, .string a.rp.key, .int .i64 a.rp.epoch, .int .i64 a.rp.phase, .int .i64 a.rp.token, .int .i64 a.rp.code]) (.agg #[.int .i64 b.kind, .int .i64 b.rq.client, .int .i64 b.rq.serial, .int .i64 b.rq.tenant, .string b.rq.key, .string b.rq.method, .string b.rq.path, .string b.rq.body, .int .i64 b.an.client, .int .i64 b.an.serial, .int .i64 b.an.status, .string b.an.text, .int .i64 b.an.after, .int .i64 b.an.epoch, .int .i64 b.cl.tenant, .string b.cl.key, .int .i64 b.cl.epoch, .int .i64 b.cl.phase, .int .i64 b.cl.token, .string b.cl.name, .string b.cl.body, .int .i64 b.rp.tenant, .string b.rp.key, .int .i64 b.rp.epoch, .int .i64 b.rp.phase, .int .i64 b.rp.token, .int .i64 b.rp.code])).run Try.prog w9 = .ok (.bool false) w9 := fun e => eql_other a b e
          have hFz := hF
          clear ha hb hF hya hna hyb hnb hca hcb hoka hokb HA HB hP hQ
          generalize w5 = wz at *
          by_cases hl : Q.size < P.size
          · have d1 : decide ((Q.size : Int) < (P.size : Int)) = true := decide_eq_true (by omega)
            have hPQ : Q.size ≤ P.size := by omega
            have hPQi : (Q.size : Int) ≤ (P.size : Int) := by omega
            have hP0 : (0 : Int) ≤ (Q.size : Int) := by omega
            go_upto_region 11 with (fail)
            by_cases hab : a = b
            · have HE := heq hab
              have hbb : ((P.extract 0 Q.size).toList == Q.toList) = true := by
                have e : P = Q := by rw [← hPh.out, ← hQh.out, hab]
                rw [e]
                have e2 : Q.extract 0 Q.size = Q := ext_all Q
                rw [e2]
                exact beq_iff_eq.2 rfl
              refine wp_region_held_drew (S := fun w9 => Frm0 wz w9) (by kernel_rfl) ((Frm.refl (fun _ => False) _).drew) (fun hHeld => ?_)
              refine wpAnyH_take (i := 0) (v := ?_) rfl (by kernel_rfl) (by kernel_rfl) (by kernel_rfl) (fun _ _ _ h => h) (Or.inl ⟨by rfl, ?_⟩) (by assumption) ?_
              rotate_left 1
              focus (intro w hSw; (try dsimp only at hSw); go_simp; (try with_reducible rfl))
              (try simp only [Act.put, List.getElem_toArray, List.getElem_cons_succ, List.getElem_cons_zero, List.setIfInBounds_toArray, List.set_cons_zero, List.set_cons_succ])
              refine wpAnyH_take (i := 1) (v := ?_) rfl (by kernel_rfl) (by kernel_rfl) (by kernel_rfl) (fun _ _ _ h => h) (Or.inl ⟨by rfl, ?_⟩) (by assumption) ?_
              rotate_left 1
              focus (intro w hSw; (try dsimp only at hSw); go_simp; (try with_reducible rfl))
              (try simp only [Act.put, List.getElem_toArray, List.getElem_cons_succ, List.getElem_cons_zero, List.setIfInBounds_toArray, List.set_cons_zero, List.set_cons_succ])
              refine wpAnyH_take (i := 2) (v := ?_) rfl (by kernel_rfl) (by kernel_rfl) (by kernel_rfl) (fun _ _ _ h => h) (Or.inl ⟨by rfl, ?_⟩) (by assumption) ?_
              rotate_left 1
              focus (intro w hSw; (try dsimp only at hSw); go_simp; (try with_reducible rfl))
              (try simp only [Act.put, List.getElem_toArray, List.getElem_cons_succ, List.getElem_cons_zero, List.setIfInBounds_toArray, List.set_cons_zero, List.set_cons_succ])
              refine wpAnyH_take (i := 3) (v := ?_) rfl (by kernel_rfl) (by kernel_rfl) (by kernel_rfl) (fun _ _ _ h => h) (Or.inl ⟨by rfl, ?_⟩) (by assumption) ?_
              rotate_left 1
              focus (intro w hSw; (try dsimp only at hSw); go_simp; (try with_reducible rfl))
              (try simp only [Act.put, List.getElem_toArray, List.getElem_cons_succ, List.getElem_cons_zero, List.setIfInBounds_toArray, List.set_cons_zero, List.set_cons_succ])
              refine wpAnyH_take (i := 4) (v := ?_) rfl (by kernel_rfl) (by kernel_rfl) (by kernel_rfl) (fun _ _ _ h => h) (Or.inl ⟨by rfl, ?_⟩) (by assumption) ?_
              rotate_left 1
              focus (intro w hSw; (try dsimp only at hSw); go_simp; (try with_reducible rfl))
              (try simp only [Act.put, List.getElem_toArray, List.getElem_cons_succ, List.getElem_cons_zero, List.setIfInBounds_toArray, List.set_cons_zero, List.set_cons_succ])
              refine wpAnyH_take (i := 5) (v := ?_) rfl (by kernel_rfl) (by kernel_rfl) (by kernel_rfl) (fun _ _ _ h => h) (Or.inl ⟨by rfl, ?_⟩) (by assumption) ?_
              rotate_left 1
              focus (intro w hSw; (try dsimp only at hSw); go_simp; (try with_reducible rfl))
              (try simp only [Act.put, List.getElem_toArray, List.getElem_cons_succ, List.getElem_cons_zero, List.setIfInBounds_toArray, List.set_cons_zero, List.set_cons_succ])
              refine wpAnyH_take (i := 6) (v := .agg #[.int .i64 a.kind, .int .i64 a.rq.client, .int .i64 a.rq.serial, .int .i64 a.rq.tenant, .string a.rq.key, .string a.rq.method, .string a.rq.path, .string a.rq.body, .int .i64 a.an.client, .int .i64 a.an.serial, .int .i64 a.an.status, .string a.an.text, .int .i64 a.an.after, .int .i64 a.an.epoch, .int .i64 a.cl.tenant, .string a.cl.key, .int .i64 a.cl.epoch, .int .i64 a.cl.phase, .int .i64 a.cl.token, .string a.cl.name, .string a.cl.body, .int .i64 a.rp.tenant, .string a.rp.key, .int .i64 a.rp.epoch, .int .i64 a.rp.phase, .int .i64 a.rp.token, .int .i64 a.rp.code]) rfl (by kernel_rfl) (by kernel_rfl) (by kernel_rfl) (fun _ _ _ h => h) (yieldsIf_load_mid (by rfl) 31 (.tmp 2) rfl ba 0 rfl a.cells _ (fun w9 hSw => Bk.range (hSw.blk (Ha.out) (fun h => h)) a.cells rfl) Try.underlying31 rfl (by rw [iL]; rfl)) (by assumption) ?_
              (try simp only [Act.put, List.getElem_toArray, List.getElem_cons_succ, List.getElem_cons_zero, List.setIfInBounds_toArray, List.set_cons_zero, List.set_cons_succ])
              refine wpAnyH_take (i := 7) (v := .agg #[.int .i64 b.kind, .int .i64 b.rq.client, .int .i64 b.rq.serial, .int .i64 b.rq.tenant, .string b.rq.key, .string b.rq.method, .string b.rq.path, .string b.rq.body, .int .i64 b.an.client, .int .i64 b.an.serial, .int .i64 b.an.status, .string b.an.text, .int .i64 b.an.after, .int .i64 b.an.epoch, .int .i64 b.cl.tenant, .string b.cl.key, .int .i64 b.cl.epoch, .int .i64 b.cl.phase, .int .i64 b.cl.token, .string b.cl.name, .string b.cl.body, .int .i64 b.rp.tenant, .string b.rp.key, .int .i64 b.rp.epoch, .int .i64 b.rp.phase, .int .i64 b.rp.token, .int .i64 b.rp.code]) rfl (by kernel_rfl) (by kernel_rfl) (by kernel_rfl) (fun _ _ _ h => h) (yieldsIf_load_mid (by rfl) 31 (.tmp 3) rfl bb 0 rfl b.cells _ (fun w9 hSw => Bk.range (hSw.blk (Hb.out) (fun h => h)) b.cells rfl) Try.underlying31 rfl (by rw [iL]; rfl)) (by assumption) ?_
              (try simp only [Act.put, List.getElem_toArray, List.getElem_cons_succ, List.getElem_cons_zero, List.setIfInBounds_toArray, List.set_cons_zero, List.set_cons_succ])
              refine wpAnyH_take (i := 8) (v := .bool true) rfl (by kernel_rfl) (by kernel_rfl) (by kernel_rfl) (fun _ _ _ h => h) (Or.inl ⟨by rfl, ?_⟩) (by assumption) ?_
              focus (intro w9 hSw; go_simp; first | done | exact HE w9)
              (try simp only [Act.put, List.getElem_toArray, List.getElem_cons_succ, List.getElem_cons_zero, List.setIfInBounds_toArray, List.set_cons_zero, List.set_cons_succ])
              refine wpAnyH_take (i := 9) (v := ?_) rfl (by kernel_rfl) (by kernel_rfl) (by kernel_rfl) (fun _ _ _ h => h) (Or.inl ⟨by rfl, ?_⟩) (by assumption) ?_
              rotate_left 1
              focus (intro w hSw; (try dsimp only at hSw); go_simp; (try with_reducible rfl))
              (try simp only [Act.put, List.getElem_toArray, List.getElem_cons_succ, List.getElem_cons_zero, List.setIfInBounds_toArray, List.set_cons_zero, List.set_cons_succ])
              refine wpAnyH_take (i := 10) (v := ?_) rfl (by kernel_rfl) (by kernel_rfl) (by kernel_rfl) (fun _ _ _ h => h) (Or.inl ⟨by rfl, ?_⟩) (by assumption) ?_
              rotate_left 1
              focus (intro w hSw; (try dsimp only at hSw); go_simp; (try with_reducible rfl))
              (try simp only [Act.put, List.getElem_toArray, List.getElem_cons_succ, List.getElem_cons_zero, List.setIfInBounds_toArray, List.set_cons_zero, List.set_cons_succ])
              refine wpAnyH_done (by kernel_rfl) ?_ _
              go_wp2
              go_returns
              exact ⟨rfl, hbe ▸ hFz.drew.below (fun _ _ h => h)⟩
            · have HE := hne hab
              have hbb : ((P.extract 0 Q.size).toList == Q.toList) = false := beq_eq_false_iff_ne.2 (fun e => hab (by
                have e2 := str_inj e
                rw [← hPh.out, ← hQh.out] at e2
                exact (pck_pre hfb.out hfa.out e2).symm))
              refine wp_region_held_drew (S := fun w9 => Frm0 wz w9) (by kernel_rfl) ((Frm.refl (fun _ => False) _).drew) (fun hHeld => ?_)
              refine wpAnyH_take (i := 0) (v := ?_) rfl (by kernel_rfl) (by kernel_rfl) (by kernel_rfl) (fun _ _ _ h => h) (Or.inl ⟨by rfl, ?_⟩) (by assumption) ?_
              rotate_left 1
              focus (intro w hSw; (try dsimp only at hSw); go_simp; (try with_reducible rfl))
              (try simp only [Act.put, List.getElem_toArray, List.getElem_cons_succ, List.getElem_cons_zero, List.setIfInBounds_toArray, List.set_cons_zero, List.set_cons_succ])
              refine wpAnyH_take (i := 1) (v := ?_) rfl (by kernel_rfl) (by kernel_rfl) (by kernel_rfl) (fun _ _ _ h => h) (Or.inl ⟨by rfl, ?_⟩) (by assumption) ?_
              rotate_left 1
              focus (intro w hSw; (try dsimp only at hSw); go_simp; (try with_reducible rfl))
              (try simp only [Act.put, List.getElem_toArray, List.getElem_cons_succ, List.getElem_cons_zero, List.setIfInBounds_toArray, List.set_cons_zero, List.set_cons_succ])
              refine wpAnyH_take (i := 2) (v := ?_) rfl (by kernel_rfl) (by kernel_rfl) (by kernel_rfl) (fun _ _ _ h => h) (Or.inl ⟨by rfl, ?_⟩) (by assumption) ?_
              rotate_left 1
              focus (intro w hSw; (try dsimp only at hSw); go_simp; (try with_reducible rfl))
              (try simp only [Act.put, List.getElem_toArray, List.getElem_cons_succ, List.getElem_cons_zero, List.setIfInBounds_toArray, List.set_cons_zero, List.set_cons_succ])
              refine wpAnyH_take (i := 3) (v := ?_) rfl (by kernel_rfl) (by kernel_rfl) (by kernel_rfl) (fun _ _ _ h => h) (Or.inl ⟨by rfl, ?_⟩) (by assumption) ?_
              rotate_left 1
              focus (intro w hSw; (try dsimp only at hSw); go_simp; (try with_reducible rfl))
              (try simp only [Act.put, List.getElem_toArray, List.getElem_cons_succ, List.getElem_cons_zero, List.setIfInBounds_toArray, List.set_cons_zero, List.set_cons_succ])
              refine wpAnyH_take (i := 4) (v := ?_) rfl (by kernel_rfl) (by kernel_rfl) (by kernel_rfl) (fun _ _ _ h => h) (Or.inl ⟨by rfl, ?_⟩) (by assumption) ?_
              rotate_left 1
              focus (intro w hSw; (try dsimp only at hSw); go_simp; (try with_reducible rfl))
              (try simp only [Act.put, List.getElem_toArray, List.getElem_cons_succ, List.getElem_cons_zero, List.setIfInBounds_toArray, List.set_cons_zero, List.set_cons_succ])
              refine wpAnyH_take (i := 5) (v := ?_) rfl (by kernel_rfl) (by kernel_rfl) (by kernel_rfl) (fun _ _ _ h => h) (Or.inl ⟨by rfl, ?_⟩) (by assumption) ?_
              rotate_left 1
              focus (intro w hSw; (try dsimp only at hSw); go_simp; (try with_reducible rfl))
              (try simp only [Act.put, List.getElem_toArray, List.getElem_cons_succ, List.getElem_cons_zero, List.setIfInBounds_toArray, List.set_cons_zero, List.set_cons_succ])
              refine wpAnyH_take (i := 6) (v := .agg #[.int .i64 a.kind, .int .i64 a.rq.client, .int .i64 a.rq.serial, .int .i64 a.rq.tenant, .string a.rq.key, .string a.rq.method, .string a.rq.path, .string a.rq.body, .int .i64 a.an.client, .int .i64 a.an.serial, .int .i64 a.an.status, .string a.an.text, .int .i64 a.an.after, .int .i64 a.an.epoch, .int .i64 a.cl.tenant, .string a.cl.key, .int .i64 a.cl.epoch, .int .i64 a.cl.phase, .int .i64 a.cl.token, .string a.cl.name, .string a.cl.body, .int .i64 a.rp.tenant, .string a.rp.key, .int .i64 a.rp.epoch, .int .i64 a.rp.phase, .int .i64 a.rp.token, .int .i64 a.rp.code]) rfl (by kernel_rfl) (by kernel_rfl) (by kernel_rfl) (fun _ _ _ h => h) (yieldsIf_load_mid (by rfl) 31 (.tmp 2) rfl ba 0 rfl a.cells _ (fun w9 hSw => Bk.range (hSw.blk (Ha.out) (fun h => h)) a.cells rfl) Try.underlying31 rfl (by rw [iL]; rfl)) (by assumption) ?_
              (try simp only [Act.put, List.getElem_toArray, List.getElem_cons_succ, List.getElem_cons_zero, List.setIfInBounds_toArray, List.set_cons_zero, List.set_cons_succ])
              refine wpAnyH_take (i := 7) (v := .agg #[.int .i64 b.kind, .int .i64 b.rq.client, .int .i64 b.rq.serial, .int .i64 b.rq.tenant, .string b.rq.key, .string b.rq.method, .string b.rq.path, .string b.rq.body, .int .i64 b.an.client, .int .i64 b.an.serial, .int .i64 b.an.status, .string b.an.text, .int .i64 b.an.after, .int .i64 b.an.epoch, .int .i64 b.cl.tenant, .string b.cl.key, .int .i64 b.cl.epoch, .int .i64 b.cl.phase, .int .i64 b.cl.token, .string b.cl.name, .string b.cl.body, .int .i64 b.rp.tenant, .string b.rp.key, .int .i64 b.rp.epoch, .int .i64 b.rp.phase, .int .i64 b.rp.token, .int .i64 b.rp.code]) rfl (by kernel_rfl) (by kernel_rfl) (by kernel_rfl) (fun _ _ _ h => h) (yieldsIf_load_mid (by rfl) 31 (.tmp 3) rfl bb 0 rfl b.cells _ (fun w9 hSw => Bk.range (hSw.blk (Hb.out) (fun h => h)) b.cells rfl) Try.underlying31 rfl (by rw [iL]; rfl)) (by assumption) ?_
              (try simp only [Act.put, List.getElem_toArray, List.getElem_cons_succ, List.getElem_cons_zero, List.setIfInBounds_toArray, List.set_cons_zero, List.set_cons_succ])
              refine wpAnyH_take (i := 8) (v := .bool false) rfl (by kernel_rfl) (by kernel_rfl) (by kernel_rfl) (fun _ _ _ h => h) (Or.inl ⟨by rfl, ?_⟩) (by assumption) ?_
              focus (intro w9 hSw; go_simp; first | done | exact HE w9)
              (try simp only [Act.put, List.getElem_toArray, List.getElem_cons_succ, List.getElem_cons_zero, List.setIfInBounds_toArray, List.set_cons_zero, List.set_cons_succ])
              refine wpAnyH_take (i := 9) (v := ?_) rfl (by kernel_rfl) (by kernel_rfl) (by kernel_rfl) (fun _ _ _ h => h) (Or.inl ⟨by rfl, ?_⟩) (by assumption) ?_
              rotate_left 1
              focus (intro w hSw; (try dsimp only at hSw); go_simp; (try with_reducible rfl))
              (try simp only [Act.put, List.getElem_toArray, List.getElem_cons_succ, List.getElem_cons_zero, List.setIfInBounds_toArray, List.set_cons_zero, List.set_cons_succ])
              refine wpAnyH_take (i := 10) (v := ?_) rfl (by kernel_rfl) (by kernel_rfl) (by kernel_rfl) (fun _ _ _ h => h) (Or.inl ⟨by rfl, ?_⟩) (by assumption) ?_
              rotate_left 1
              focus (intro w hSw; (try dsimp only at hSw); go_simp; (try with_reducible rfl))
              (try simp only [Act.put, List.getElem_toArray, List.getElem_cons_succ, List.getElem_cons_zero, List.setIfInBounds_toArray, List.set_cons_zero, List.set_cons_succ])
              refine wpAnyH_done (by kernel_rfl) ?_ _
              go_wp2
              go_returns
              exact ⟨rfl, hbe ▸ hFz.drew.below (fun _ _ h => h)⟩
          · have d1 : decide ((Q.size : Int) < (P.size : Int)) = false := decide_eq_false (by omega)
            have hPQ : P.size ≤ Q.size := by omega
            have hPQi : (P.size : Int) ≤ (Q.size : Int) := by omega
            have hP0 : (0 : Int) ≤ (P.size : Int) := by omega
            go_upto_region 11 with (fail)
            by_cases hab : a = b
            · have HE := heq hab
              have hbb : ((Q.extract 0 P.size).toList == P.toList) = true := by
                have e : P = Q := by rw [← hPh.out, ← hQh.out, hab]
                rw [e]
                have e2 : Q.extract 0 Q.size = Q := ext_all Q
                rw [e2]
                exact beq_iff_eq.2 rfl
              refine wp_region_held_drew (S := fun w9 => Frm0 wz w9) (by kernel_rfl) ((Frm.refl (fun _ => False) _).drew) (fun hHeld => ?_)
              refine wpAnyH_take (i := 0) (v := ?_) rfl (by kernel_rfl) (by kernel_rfl) (by kernel_rfl) (fun _ _ _ h => h) (Or.inl ⟨by rfl, ?_⟩) (by assumption) ?_
              rotate_left 1
              focus (intro w hSw; (try dsimp only at hSw); go_simp; (try with_reducible rfl))
              (try simp only [Act.put, List.getElem_toArray, List.getElem_cons_succ, List.getElem_cons_zero, List.setIfInBounds_toArray, List.set_cons_zero, List.set_cons_succ])
              refine wpAnyH_take (i := 1) (v := ?_) rfl (by kernel_rfl) (by kernel_rfl) (by kernel_rfl) (fun _ _ _ h => h) (Or.inl ⟨by rfl, ?_⟩) (by assumption) ?_
              rotate_left 1
              focus (intro w hSw; (try dsimp only at hSw); go_simp; (try with_reducible rfl))
              (try simp only [Act.put, List.getElem_toArray, List.getElem_cons_succ, List.getElem_cons_zero, List.setIfInBounds_toArray, List.set_cons_zero, List.set_cons_succ])
              refine wpAnyH_take (i := 2) (v := ?_) rfl (by kernel_rfl) (by kernel_rfl) (by kernel_rfl) (fun _ _ _ h => h) (Or.inl ⟨by rfl, ?_⟩) (by assumption) ?_
              rotate_left 1
              focus (intro w hSw; (try dsimp only at hSw); go_simp; (try with_reducible rfl))
              (try simp only [Act.put, List.getElem_toArray, List.getElem_cons_succ, List.getElem_cons_zero, List.setIfInBounds_toArray, List.set_cons_zero, List.set_cons_succ])
              refine wpAnyH_take (i := 3) (v := ?_) rfl (by kernel_rfl) (by kernel_rfl) (by kernel_rfl) (fun _ _ _ h => h) (Or.inl ⟨by rfl, ?_⟩) (by assumption) ?_
              rotate_left 1
              focus (intro w hSw; (try dsimp only at hSw); go_simp; (try with_reducible rfl))
              (try simp only [Act.put, List.getElem_toArray, List.getElem_cons_succ, List.getElem_cons_zero, List.setIfInBounds_toArray, List.set_cons_zero, List.set_cons_succ])
              refine wpAnyH_take (i := 4) (v := ?_) rfl (by kernel_rfl) (by kernel_rfl) (by kernel_rfl) (fun _ _ _ h => h) (Or.inl ⟨by rfl, ?_⟩) (by assumption) ?_
              rotate_left 1
              focus (intro w hSw; (try dsimp only at hSw); go_simp; (try with_reducible rfl))
              (try simp only [Act.put, List.getElem_toArray, List.getElem_cons_succ, List.getElem_cons_zero, List.setIfInBounds_toArray, List.set_cons_zero, List.set_cons_succ])
              refine wpAnyH_take (i := 5) (v := ?_) rfl (by kernel_rfl) (by kernel_rfl) (by kernel_rfl) (fun _ _ _ h => h) (Or.inl ⟨by rfl, ?_⟩) (by assumption) ?_
              rotate_left 1
              focus (intro w hSw; (try dsimp only at hSw); go_simp; (try with_reducible rfl))
              (try simp only [Act.put, List.getElem_toArray, List.getElem_cons_succ, List.getElem_cons_zero, List.setIfInBounds_toArray, List.set_cons_zero, List.set_cons_succ])
              refine wpAnyH_take (i := 6) (v := .agg #[.int .i64 a.kind, .int .i64 a.rq.client, .int .i64 a.rq.serial, .int .i64 a.rq.tenant, .string a.rq.key, .string a.rq.method, .string a.rq.path, .string a.rq.body, .int .i64 a.an.client, .int .i64 a.an.serial, .int .i64 a.an.status, .string a.an.text, .int .i64 a.an.after, .int .i64 a.an.epoch, .int .i64 a.cl.tenant, .string a.cl.key, .int .i64 a.cl.epoch, .int .i64 a.cl.phase, .int .i64 a.cl.token, .string a.cl.name, .string a.cl.body, .int .i64 a.rp.tenant, .string a.rp.key, .int .i64 a.rp.epoch, .int .i64 a.rp.phase, .int .i64 a.rp.token, .int .i64 a.rp.code]) rfl (by kernel_rfl) (by kernel_rfl) (by kernel_rfl) (fun _ _ _ h => h) (yieldsIf_load_mid (by rfl) 31 (.tmp 2) rfl ba 0 rfl a.cells _ (fun w9 hSw => Bk.range (hSw.blk (Ha.out) (fun h => h)) a.cells rfl) Try.underlying31 rfl (by rw [iL]; rfl)) (by assumption) ?_
              (try simp only [Act.put, List.getElem_toArray, List.getElem_cons_succ, List.getElem_cons_zero, List.setIfInBounds_toArray, List.set_cons_zero, List.set_cons_succ])
              refine wpAnyH_take (i := 7) (v := .agg #[.int .i64 b.kind, .int .i64 b.rq.client, .int .i64 b.rq.serial, .int .i64 b.rq.tenant, .string b.rq.key, .string b.rq.method, .string b.rq.path, .string b.rq.body, .int .i64 b.an.client, .int .i64 b.an.serial, .int .i64 b.an.status, .string b.an.text, .int .i64 b.an.after, .int .i64 b.an.epoch, .int .i64 b.cl.tenant, .string b.cl.key, .int .i64 b.cl.epoch, .int .i64 b.cl.phase, .int .i64 b.cl.token, .string b.cl.name, .string b.cl.body, .int .i64 b.rp.tenant, .string b.rp.key, .int .i64 b.rp.epoch, .int .i64 b.rp.phase, .int .i64 b.rp.token, .int .i64 b.rp.code]) rfl (by kernel_rfl) (by kernel_rfl) (by kernel_rfl) (fun _ _ _ h => h) (yieldsIf_load_mid (by rfl) 31 (.tmp 3) rfl bb 0 rfl b.cells _ (fun w9 hSw => Bk.range (hSw.blk (Hb.out) (fun h => h)) b.cells rfl) Try.underlying31 rfl (by rw [iL]; rfl)) (by assumption) ?_
              (try simp only [Act.put, List.getElem_toArray, List.getElem_cons_succ, List.getElem_cons_zero, List.setIfInBounds_toArray, List.set_cons_zero, List.set_cons_succ])
              refine wpAnyH_take (i := 8) (v := .bool true) rfl (by kernel_rfl) (by kernel_rfl) (by kernel_rfl) (fun _ _ _ h => h) (Or.inl ⟨by rfl, ?_⟩) (by assumption) ?_
              focus (intro w9 hSw; go_simp; first | done | exact HE w9)
              (try simp only [Act.put, List.getElem_toArray, List.getElem_cons_succ, List.getElem_cons_zero, List.setIfInBounds_toArray, List.set_cons_zero, List.set_cons_succ])
              refine wpAnyH_take (i := 9) (v := ?_) rfl (by kernel_rfl) (by kernel_rfl) (by kernel_rfl) (fun _ _ _ h => h) (Or.inl ⟨by rfl, ?_⟩) (by assumption) ?_
              rotate_left 1
              focus (intro w hSw; (try dsimp only at hSw); go_simp; (try with_reducible rfl))
              (try simp only [Act.put, List.getElem_toArray, List.getElem_cons_succ, List.getElem_cons_zero, List.setIfInBounds_toArray, List.set_cons_zero, List.set_cons_succ])
              refine wpAnyH_take (i := 10) (v := ?_) rfl (by kernel_rfl) (by kernel_rfl) (by kernel_rfl) (fun _ _ _ h => h) (Or.inl ⟨by rfl, ?_⟩) (by assumption) ?_
              rotate_left 1
              focus (intro w hSw; (try dsimp only at hSw); go_simp; (try with_reducible rfl))
              (try simp only [Act.put, List.getElem_toArray, List.getElem_cons_succ, List.getElem_cons_zero, List.setIfInBounds_toArray, List.set_cons_zero, List.set_cons_succ])
              refine wpAnyH_done (by kernel_rfl) ?_ _
              go_wp2
              go_returns
              exact ⟨rfl, hbe ▸ hFz.drew.below (fun _ _ h => h)⟩
            · have HE := hne hab
              have hbb : ((Q.extract 0 P.size).toList == P.toList) = false := beq_eq_false_iff_ne.2 (fun e => hab (by
                have e2 := str_inj e
                rw [← hPh.out, ← hQh.out] at e2
                exact pck_pre hfa.out hfb.out e2))
              refine wp_region_held_drew (S := fun w9 => Frm0 wz w9) (by kernel_rfl) ((Frm.refl (fun _ => False) _).drew) (fun hHeld => ?_)
              refine wpAnyH_take (i := 0) (v := ?_) rfl (by kernel_rfl) (by kernel_rfl) (by kernel_rfl) (fun _ _ _ h => h) (Or.inl ⟨by rfl, ?_⟩) (by assumption) ?_
              rotate_left 1
              focus (intro w hSw; (try dsimp only at hSw); go_simp; (try with_reducible rfl))
              (try simp only [Act.put, List.getElem_toArray, List.getElem_cons_succ, List.getElem_cons_zero, List.setIfInBounds_toArray, List.set_cons_zero, List.set_cons_succ])
              refine wpAnyH_take (i := 1) (v := ?_) rfl (by kernel_rfl) (by kernel_rfl) (by kernel_rfl) (fun _ _ _ h => h) (Or.inl ⟨by rfl, ?_⟩) (by assumption) ?_
              rotate_left 1
              focus (intro w hSw; (try dsimp only at hSw); go_simp; (try with_reducible rfl))
              (try simp only [Act.put, List.getElem_toArray, List.getElem_cons_succ, List.getElem_cons_zero, List.setIfInBounds_toArray, List.set_cons_zero, List.set_cons_succ])
              refine wpAnyH_take (i := 2) (v := ?_) rfl (by kernel_rfl) (by kernel_rfl) (by kernel_rfl) (fun _ _ _ h => h) (Or.inl ⟨by rfl, ?_⟩) (by assumption) ?_
              rotate_left 1
              focus (intro w hSw; (try dsimp only at hSw); go_simp; (try with_reducible rfl))
              (try simp only [Act.put, List.getElem_toArray, List.getElem_cons_succ, List.getElem_cons_zero, List.setIfInBounds_toArray, List.set_cons_zero, List.set_cons_succ])
              refine wpAnyH_take (i := 3) (v := ?_) rfl (by kernel_rfl) (by kernel_rfl) (by kernel_rfl) (fun _ _ _ h => h) (Or.inl ⟨by rfl, ?_⟩) (by assumption) ?_
              rotate_left 1
              focus (intro w hSw; (try dsimp only at hSw); go_simp; (try with_reducible rfl))
              (try simp only [Act.put, List.getElem_toArray, List.getElem_cons_succ, List.getElem_cons_zero, List.setIfInBounds_toArray, List.set_cons_zero, List.set_cons_succ])
              refine wpAnyH_take (i := 4) (v := ?_) rfl (by kernel_rfl) (by kernel_rfl) (by kernel_rfl) (fun _ _ _ h => h) (Or.inl ⟨by rfl, ?_⟩) (by assumption) ?_
              rotate_left 1
              focus (intro w hSw; (try dsimp only at hSw); go_simp; (try with_reducible rfl))
              (try simp only [Act.put, List.getElem_toArray, List.getElem_cons_succ, List.getElem_cons_zero, List.setIfInBounds_toArray, List.set_cons_zero, List.set_cons_succ])
              refine wpAnyH_take (i := 5) (v := ?_) rfl (by kernel_rfl) (by kernel_rfl) (by kernel_rfl) (fun _ _ _ h => h) (Or.inl ⟨by rfl, ?_⟩) (by assumption) ?_
              rotate_left 1
              focus (intro w hSw; (try dsimp only at hSw); go_simp; (try with_reducible rfl))
              (try simp only [Act.put, List.getElem_toArray, List.getElem_cons_succ, List.getElem_cons_zero, List.setIfInBounds_toArray, List.set_cons_zero, List.set_cons_succ])
              refine wpAnyH_take (i := 6) (v := .agg #[.int .i64 a.kind, .int .i64 a.rq.client, .int .i64 a.rq.serial, .int .i64 a.rq.tenant, .string a.rq.key, .string a.rq.method, .string a.rq.path, .string a.rq.body, .int .i64 a.an.client, .int .i64 a.an.serial, .int .i64 a.an.status, .string a.an.text, .int .i64 a.an.after, .int .i64 a.an.epoch, .int .i64 a.cl.tenant, .string a.cl.key, .int .i64 a.cl.epoch, .int .i64 a.cl.phase, .int .i64 a.cl.token, .string a.cl.name, .string a.cl.body, .int .i64 a.rp.tenant, .string a.rp.key, .int .i64 a.rp.epoch, .int .i64 a.rp.phase, .int .i64 a.rp.token, .int .i64 a.rp.code]) rfl (by kernel_rfl) (by kernel_rfl) (by kernel_rfl) (fun _ _ _ h => h) (yieldsIf_load_mid (by rfl) 31 (.tmp 2) rfl ba 0 rfl a.cells _ (fun w9 hSw => Bk.range (hSw.blk (Ha.out) (fun h => h)) a.cells rfl) Try.underlying31 rfl (by rw [iL]; rfl)) (by assumption) ?_
              (try simp only [Act.put, List.getElem_toArray, List.getElem_cons_succ, List.getElem_cons_zero, List.setIfInBounds_toArray, List.set_cons_zero, List.set_cons_succ])
              refine wpAnyH_take (i := 7) (v := .agg #[.int .i64 b.kind, .int .i64 b.rq.client, .int .i64 b.rq.serial, .int .i64 b.rq.tenant, .string b.rq.key, .string b.rq.method, .string b.rq.path, .string b.rq.body, .int .i64 b.an.client, .int .i64 b.an.serial, .int .i64 b.an.status, .string b.an.text, .int .i64 b.an.after, .int .i64 b.an.epoch, .int .i64 b.cl.tenant, .string b.cl.key, .int .i64 b.cl.epoch, .int .i64 b.cl.phase, .int .i64 b.cl.token, .string b.cl.name, .string b.cl.body, .int .i64 b.rp.tenant, .string b.rp.key, .int .i64 b.rp.epoch, .int .i64 b.rp.phase, .int .i64 b.rp.token, .int .i64 b.rp.code]) rfl (by kernel_rfl) (by kernel_rfl) (by kernel_rfl) (fun _ _ _ h => h) (yieldsIf_load_mid (by rfl) 31 (.tmp 3) rfl bb 0 rfl b.cells _ (fun w9 hSw => Bk.range (hSw.blk (Hb.out) (fun h => h)) b.cells rfl) Try.underlying31 rfl (by rw [iL]; rfl)) (by assumption) ?_
              (try simp only [Act.put, List.getElem_toArray, List.getElem_cons_succ, List.getElem_cons_zero, List.setIfInBounds_toArray, List.set_cons_zero, List.set_cons_succ])
              refine wpAnyH_take (i := 8) (v := .bool false) rfl (by kernel_rfl) (by kernel_rfl) (by kernel_rfl) (fun _ _ _ h => h) (Or.inl ⟨by rfl, ?_⟩) (by assumption) ?_
              focus (intro w9 hSw; go_simp; first | done | exact HE w9)
              (try simp only [Act.put, List.getElem_toArray, List.getElem_cons_succ, List.getElem_cons_zero, List.setIfInBounds_toArray, List.set_cons_zero, List.set_cons_succ])
              refine wpAnyH_take (i := 9) (v := ?_) rfl (by kernel_rfl) (by kernel_rfl) (by kernel_rfl) (fun _ _ _ h => h) (Or.inl ⟨by rfl, ?_⟩) (by assumption) ?_
              rotate_left 1
              focus (intro w hSw; (try dsimp only at hSw); go_simp; (try with_reducible rfl))
              (try simp only [Act.put, List.getElem_toArray, List.getElem_cons_succ, List.getElem_cons_zero, List.setIfInBounds_toArray, List.set_cons_zero, List.set_cons_succ])
              refine wpAnyH_take (i := 10) (v := ?_) rfl (by kernel_rfl) (by kernel_rfl) (by kernel_rfl) (fun _ _ _ h => h) (Or.inl ⟨by rfl, ?_⟩) (by assumption) ?_
              rotate_left 1
              focus (intro w hSw; (try dsimp only at hSw); go_simp; (try with_reducible rfl))
              (try simp only [Act.put, List.getElem_toArray, List.getElem_cons_succ, List.getElem_cons_zero, List.setIfInBounds_toArray, List.set_cons_zero, List.set_cons_succ])
              refine wpAnyH_done (by kernel_rfl) ?_ _
              go_wp2
              go_returns
              exact ⟨rfl, hbe ▸ hFz.drew.below (fun _ _ h => h)⟩
    · go_wp2
      go_returns
      exact ⟨rfl, hbe ▸ hF.below (fun _ _ h => h)⟩
  · go_wp2
    go_returns
    exact ⟨rfl, hbe ▸ hF.below (fun _ _ h => h)⟩
end Lt
end Go.Proofs.Ythggbohoedfkpaa
