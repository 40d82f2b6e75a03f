/- Letters: the reference's May. -/
import Derived.Test.YthggbohoedfkpaaLtl
namespace Go.Proofs.Ythggbohoedfkpaa
open Go.RowKit Pk
set_option linter.unusedVariables false
set_option linter.unusedSimpArgs false
set_option maxRecDepth 100000
namespace Lt
theorem one1' (l : Ltr) : (([.int .i64 l.rq.client, .int .i64 l.rq.serial, .int .i64 l.rq.tenant, .string l.rq.key, .string l.rq.method, .string l.rq.path, .string l.rq.body] : List Value).toArray).toList.all (·.oneCell') = true := by
  simp [Value.oneCell']
theorem one2' (l : Ltr) : (([.int .i64 l.an.client, .int .i64 l.an.serial, .int .i64 l.an.status, .string l.an.text, .int .i64 l.an.after, .int .i64 l.an.epoch] : List Value).toArray).toList.all (·.oneCell') = true := by
  simp [Value.oneCell']
theorem one3' (l : Ltr) : (([.int .i64 l.cl.tenant, .string l.cl.key, .int .i64 l.cl.epoch, .int .i64 l.cl.phase, .int .i64 l.cl.token, .string l.cl.name, .string l.cl.body] : List Value).toArray).toList.all (·.oneCell') = true := by
  simp [Value.oneCell']
theorem one4' (l : Ltr) : (([.int .i64 l.rp.tenant, .string l.rp.key, .int .i64 l.rp.epoch, .int .i64 l.rp.phase, .int .i64 l.rp.token, .int .i64 l.rp.code] : List Value).toArray).toList.all (·.oneCell') = true := by
  simp [Value.oneCell']
section
variable {w w1 : World}
theorem rn_any (x m : Int) (w : World) : Calls Try.prog 44 #[.int .i64 x, .int .i64 m] w fun e w' => e = .returned (.bool (nf x m)) ∧ w = w' := by
  by_cases h1 : 0 ≤ x
  · have d1 : decide ((0 : Int) ≤ x) = true := decide_eq_true h1
    go_enter Try.func44, Try.ntmps44
    go_wp2
    go_ret
    exact ⟨by simp [nf, d1], rfl⟩
  · have d1 : decide ((0 : Int) ≤ x) = false := decide_eq_false h1
    go_enter Try.func44, Try.ntmps44
    go_wp2
    go_ret
    exact ⟨by simp [nf, d1], rfl⟩
set_option maxHeartbeats 4000000 in
theorem rmay_any (l : Ltr) (ok : Bool) (he : ok = true ↔ l = alone l) (w : World) : Calls Try.prog 14 #[.agg #[.int .i64 l.kind, .int .i64 l.rq.client, .int .i64 l.rq.serial, .int .i64 l.rq.tenant, .string l.rq.key, .string l.rq.method, .string l.rq.path, .string l.rq.body, .int .i64 l.an.client, .int .i64 l.an.serial, .int .i64 l.an.status, .string l.an.text, .int .i64 l.an.after, .int .i64 l.an.epoch, .int .i64 l.cl.tenant, .string l.cl.key, .int .i64 l.cl.epoch, .int .i64 l.cl.phase, .int .i64 l.cl.token, .string l.cl.name, .string l.cl.body, .int .i64 l.rp.tenant, .string l.rp.key, .int .i64 l.rp.epoch, .int .i64 l.rp.phase, .int .i64 l.rp.token, .int .i64 l.rp.code]] w fun e w' => e = .returned (.bool (chk ok l)) ∧ Frm0 w w' := by
  have hb1 := Bk.new w (.cells #[.int .i64 l.kind, .int .i64 l.rq.client, .int .i64 l.rq.serial, .int .i64 l.rq.tenant, .string l.rq.key, .string l.rq.method, .string l.rq.path, .string l.rq.body, .int .i64 l.an.client, .int .i64 l.an.serial, .int .i64 l.an.status, .string l.an.text, .int .i64 l.an.after, .int .i64 l.an.epoch, .int .i64 l.cl.tenant, .string l.cl.key, .int .i64 l.cl.epoch, .int .i64 l.cl.phase, .int .i64 l.cl.token, .string l.cl.name, .string l.cl.body, .int .i64 l.rp.tenant, .string l.rp.key, .int .i64 l.rp.epoch, .int .i64 l.rp.phase, .int .i64 l.rp.token, .int .i64 l.rp.code] 31)
  have hF := (Frm.refl (fun _ => False) w).alloc (.cells #[.int .i64 l.kind, .int .i64 l.rq.client, .int .i64 l.rq.serial, .int .i64 l.rq.tenant, .string l.rq.key, .string l.rq.method, .string l.rq.path, .string l.rq.body, .int .i64 l.an.client, .int .i64 l.an.serial, .int .i64 l.an.status, .string l.an.text, .int .i64 l.an.after, .int .i64 l.an.epoch, .int .i64 l.cl.tenant, .string l.cl.key, .int .i64 l.cl.epoch, .int .i64 l.cl.phase, .int .i64 l.cl.token, .string l.cl.name, .string l.cl.body, .int .i64 l.rp.tenant, .string l.rp.key, .int .i64 l.rp.epoch, .int .i64 l.rp.phase, .int .i64 l.rp.token, .int .i64 l.rp.code] 31)
  by_cases hk : l.kind = 1
  · have q1 : (l.kind == 1) = true := by rw [hk]; rfl
    have hck : chk ok l = (ok && nf l.rq.client 1073741824 && nf l.rq.serial 1073741824 && nf l.rq.tenant 1073741824 && tf l.rq.key 60 && tf l.rq.method 60 && tf l.rq.path 100 && tf l.rq.body 200) := by unfold chk;  rw [if_pos hk]
    have ea : alone l = (⟨1, l.rq, an0, cl0, rp0⟩ : Ltr) := by unfold alone;  rw [if_pos hk]; rw [hk]
    rw [ea] at he
    have HE : ∀ w9, (binOp .eql 31 (.agg #[.int .i64 l.kind, .int .i64 l.rq.client, .int .i64 l.rq.serial, .int .i64 l.rq.tenant, .string l.rq.key, .string l.rq.method, .string l.rq.path, .string l.rq.body, .int .i64 l.an.client, .int .i64 l.an.serial, .int .i64 l.an.status, .string l.an.text, .int .i64 l.an.after, .int .i64 l.an.epoch, .int .i64 l.cl.tenant, .string l.cl.key, .int .i64 l.cl.epoch, .int .i64 l.cl.phase, .int .i64 l.cl.token, .string l.cl.name, .string l.cl.body, .int .i64 l.rp.tenant, .string l.rp.key, .int .i64 l.rp.epoch, .int .i64 l.rp.phase, .int .i64 l.rp.token, .int .i64 l.rp.code]) (.agg (⟨1, l.rq, an0, cl0, rp0⟩ : Ltr).cells.toArray)).run Try.prog w9 = .ok (.bool ok) w9 := fun w9 => by
      cases ok
      · exact eql_other l (⟨1, l.rq, an0, cl0, rp0⟩ : Ltr) (fun e => by have := he.2 e; cases this) w9
      · have e2 := he.1 rfl
        have := eql_same l w9
        rw [← e2]
        exact this
    have HE2 : ∀ w9, (binOp .eql 31 (.agg #[.int .i64 l.kind, .int .i64 l.rq.client, .int .i64 l.rq.serial, .int .i64 l.rq.tenant, .string l.rq.key, .string l.rq.method, .string l.rq.path, .string l.rq.body, .int .i64 l.an.client, .int .i64 l.an.serial, .int .i64 l.an.status, .string l.an.text, .int .i64 l.an.after, .int .i64 l.an.epoch, .int .i64 l.cl.tenant, .string l.cl.key, .int .i64 l.cl.epoch, .int .i64 l.cl.phase, .int .i64 l.cl.token, .string l.cl.name, .string l.cl.body, .int .i64 l.rp.tenant, .string l.rp.key, .int .i64 l.rp.epoch, .int .i64 l.rp.phase, .int .i64 l.rp.token, .int .i64 l.rp.code]) (.agg #[.int .i64 1, .int .i64 l.rq.client, .int .i64 l.rq.serial, .int .i64 l.rq.tenant, .string l.rq.key, .string l.rq.method, .string l.rq.path, .string l.rq.body, .int .i64 0, .int .i64 0, .int .i64 0, .string ⟨#[]⟩, .int .i64 0, .int .i64 0, .int .i64 0, .string ⟨#[]⟩, .int .i64 0, .int .i64 0, .int .i64 0, .string ⟨#[]⟩, .string ⟨#[]⟩, .int .i64 0, .string ⟨#[]⟩, .int .i64 0, .int .i64 0, .int .i64 0, .int .i64 0])).run Try.prog w9 = .ok (.bool ok) w9 := HE
    clear HE ea he hk
    have HCK := Lib.hid hck
    have hFF := hF.alloc (.cells #[.int .i64 l.rq.client, .int .i64 l.rq.serial, .int .i64 l.rq.tenant, .string l.rq.key, .string l.rq.method, .string l.rq.path, .string l.rq.body] 23)
    have hb2 := ((Frm.refl (fun _ => False) (w.alloc (.cells #[.int .i64 l.kind, .int .i64 l.rq.client, .int .i64 l.rq.serial, .int .i64 l.rq.tenant, .string l.rq.key, .string l.rq.method, .string l.rq.path, .string l.rq.body, .int .i64 l.an.client, .int .i64 l.an.serial, .int .i64 l.an.status, .string l.an.text, .int .i64 l.an.after, .int .i64 l.an.epoch, .int .i64 l.cl.tenant, .string l.cl.key, .int .i64 l.cl.epoch, .int .i64 l.cl.phase, .int .i64 l.cl.token, .string l.cl.name, .string l.cl.body, .int .i64 l.rp.tenant, .string l.rp.key, .int .i64 l.rp.epoch, .int .i64 l.rp.phase, .int .i64 l.rp.token, .int .i64 l.rp.code] 31))).alloc (.cells #[.int .i64 l.rq.client, .int .i64 l.rq.serial, .int .i64 l.rq.tenant, .string l.rq.key, .string l.rq.method, .string l.rq.path, .string l.rq.body] 23)).blk hb1 (fun h => h)
    have hb3 := Bk.new (w.alloc (.cells #[.int .i64 l.kind, .int .i64 l.rq.client, .int .i64 l.rq.serial, .int .i64 l.rq.tenant, .string l.rq.key, .string l.rq.method, .string l.rq.path, .string l.rq.body, .int .i64 l.an.client, .int .i64 l.an.serial, .int .i64 l.an.status, .string l.an.text, .int .i64 l.an.after, .int .i64 l.an.epoch, .int .i64 l.cl.tenant, .string l.cl.key, .int .i64 l.cl.epoch, .int .i64 l.cl.phase, .int .i64 l.cl.token, .string l.cl.name, .string l.cl.body, .int .i64 l.rp.tenant, .string l.rp.key, .int .i64 l.rp.epoch, .int .i64 l.rp.phase, .int .i64 l.rp.token, .int .i64 l.rp.code] 31)) (.cells #[.int .i64 l.rq.client, .int .i64 l.rq.serial, .int .i64 l.rq.tenant, .string l.rq.key, .string l.rq.method, .string l.rq.path, .string l.rq.body] 23)
    rw [show (w.alloc (.cells #[.int .i64 l.kind, .int .i64 l.rq.client, .int .i64 l.rq.serial, .int .i64 l.rq.tenant, .string l.rq.key, .string l.rq.method, .string l.rq.path, .string l.rq.body, .int .i64 l.an.client, .int .i64 l.an.serial, .int .i64 l.an.status, .string l.an.text, .int .i64 l.an.after, .int .i64 l.an.epoch, .int .i64 l.cl.tenant, .string l.cl.key, .int .i64 l.cl.epoch, .int .i64 l.cl.phase, .int .i64 l.cl.token, .string l.cl.name, .string l.cl.body, .int .i64 l.rp.tenant, .string l.rp.key, .int .i64 l.rp.epoch, .int .i64 l.rp.phase, .int .i64 l.rp.token, .int .i64 l.rp.code] 31)).heap.size = w.heap.size + 1 by simp] at hb3
    clear hck
    go_enter Try.func14, Try.ntmps14
    go_upto_region 3 with (first | (refine wpList_load_mid rfl 23 (.tmp 10) rfl w.heap.size 1 rfl ([.int .i64 l.rq.client, .int .i64 l.rq.serial, .int .i64 l.rq.tenant, .string l.rq.key, .string l.rq.method, .string l.rq.path, .string l.rq.body] : List Value) _ (rg1 l l.kind hb1) Try.underlying23 rfl (by rw [i1]; rfl) ?_))
    clear hb1 hF q1
    generalize (w.alloc (.cells #[.int .i64 l.kind, .int .i64 l.rq.client, .int .i64 l.rq.serial, .int .i64 l.rq.tenant, .string l.rq.key, .string l.rq.method, .string l.rq.path, .string l.rq.body, .int .i64 l.an.client, .int .i64 l.an.serial, .int .i64 l.an.status, .string l.an.text, .int .i64 l.an.after, .int .i64 l.an.epoch, .int .i64 l.cl.tenant, .string l.cl.key, .int .i64 l.cl.epoch, .int .i64 l.cl.phase, .int .i64 l.cl.token, .string l.cl.name, .string l.cl.body, .int .i64 l.rp.tenant, .string l.rp.key, .int .i64 l.rp.epoch, .int .i64 l.rp.phase, .int .i64 l.rp.token, .int .i64 l.rp.code] 31)).alloc (.cells #[.int .i64 l.rq.client, .int .i64 l.rq.serial, .int .i64 l.rq.tenant, .string l.rq.key, .string l.rq.method, .string l.rq.path, .string l.rq.body] 23) = w2 at *
    generalize w.heap.size = b at *
    obtain ⟨c0, c1, c2, c3, c4, c5, c6⟩ := Bk.c7 hb3
    cases hok : ok
    · rw [hok] at HE2
      go_wp2_with (first | (refine wpList_load_blk rfl 31 (.tmp 1) rfl (l := [.int .i64 l.kind, .int .i64 l.rq.client, .int .i64 l.rq.serial, .int .i64 l.rq.tenant, .string l.rq.key, .string l.rq.method, .string l.rq.path, .string l.rq.body, .int .i64 l.an.client, .int .i64 l.an.serial, .int .i64 l.an.status, .string l.an.text, .int .i64 l.an.after, .int .i64 l.an.epoch, .int .i64 l.cl.tenant, .string l.cl.key, .int .i64 l.cl.epoch, .int .i64 l.cl.phase, .int .i64 l.cl.token, .string l.cl.name, .string l.cl.body, .int .i64 l.rp.tenant, .string l.rp.key, .int .i64 l.rp.epoch, .int .i64 l.rp.phase, .int .i64 l.rp.token, .int .i64 l.rp.code]) hb2 rfl Try.underlying31 rfl iL rfl ?_) | (refine wpList_load_blk rfl 23 (.tmp 3) rfl (l := [.int .i64 l.rq.client, .int .i64 l.rq.serial, .int .i64 l.rq.tenant, .string l.rq.key, .string l.rq.method, .string l.rq.path, .string l.rq.body]) hb3 rfl Try.underlying23 rfl i1 rfl ?_))
      go_returns
      exact ⟨by have := HCK.out; rw [← hok, this]; simp [hok], hFF⟩
    · rw [hok] at HE2
      go_wp2_with (first | (refine wpList_load_blk rfl 31 (.tmp 1) rfl (l := [.int .i64 l.kind, .int .i64 l.rq.client, .int .i64 l.rq.serial, .int .i64 l.rq.tenant, .string l.rq.key, .string l.rq.method, .string l.rq.path, .string l.rq.body, .int .i64 l.an.client, .int .i64 l.an.serial, .int .i64 l.an.status, .string l.an.text, .int .i64 l.an.after, .int .i64 l.an.epoch, .int .i64 l.cl.tenant, .string l.cl.key, .int .i64 l.cl.epoch, .int .i64 l.cl.phase, .int .i64 l.cl.token, .string l.cl.name, .string l.cl.body, .int .i64 l.rp.tenant, .string l.rp.key, .int .i64 l.rp.epoch, .int .i64 l.rp.phase, .int .i64 l.rp.token, .int .i64 l.rp.code]) hb2 rfl Try.underlying31 rfl iL rfl ?_) | (refine wpList_load_blk rfl 23 (.tmp 3) rfl (l := [.int .i64 l.rq.client, .int .i64 l.rq.serial, .int .i64 l.rq.tenant, .string l.rq.key, .string l.rq.method, .string l.rq.path, .string l.rq.body]) hb3 rfl Try.underlying23 rfl i1 rfl ?_))
      refine (rn_any l.rq.client 1073741824 _).mono ?_
      rintro e w' ⟨rfl, rfl⟩
      cases h0 : nf l.rq.client 1073741824
      · go_wp2
        go_returns
        exact ⟨by have := HCK.out; rw [← hok, this]; simp [hok, hok, h0], hFF⟩
      go_wp2_with fail
      refine (rn_any l.rq.serial 1073741824 _).mono ?_
      rintro e w' ⟨rfl, rfl⟩
      cases h1 : nf l.rq.serial 1073741824
      · go_wp2
        go_returns
        exact ⟨by have := HCK.out; rw [← hok, this]; simp [hok, h0, hok, h1], hFF⟩
      go_wp2_with fail
      refine (rn_any l.rq.tenant 1073741824 _).mono ?_
      rintro e w' ⟨rfl, rfl⟩
      cases h2 : nf l.rq.tenant 1073741824
      · go_wp2
        go_returns
        exact ⟨by have := HCK.out; rw [← hok, this]; simp [hok, h0, h1, hok, h2], hFF⟩
      cases h3 : tf l.rq.key 60
      · have t3 : decide (((l.rq.key).size : Int) ≤ 60) = false := h3
        go_wp2
        go_returns
        exact ⟨by have := HCK.out; rw [← hok, this]; simp [hok, h0, h1, h2, hok, h3], hFF⟩
      have t3 : decide (((l.rq.key).size : Int) ≤ 60) = true := h3
      cases h4 : tf l.rq.method 60
      · have t4 : decide (((l.rq.method).size : Int) ≤ 60) = false := h4
        go_wp2
        go_returns
        exact ⟨by have := HCK.out; rw [← hok, this]; simp [hok, h0, h1, h2, h3, hok, h4], hFF⟩
      have t4 : decide (((l.rq.method).size : Int) ≤ 60) = true := h4
      cases h5 : tf l.rq.path 100
      · have t5 : decide (((l.rq.path).size : Int) ≤ 100) = false := h5
        go_wp2
        go_returns
        exact ⟨by have := HCK.out; rw [← hok, this]; simp [hok, h0, h1, h2, h3, h4, hok, h5], hFF⟩
      have t5 : decide (((l.rq.path).size : Int) ≤ 100) = true := h5
      cases h6 : tf l.rq.body 200
      · have t6 : decide (((l.rq.body).size : Int) ≤ 200) = false := h6
        go_wp2
        go_returns
        exact ⟨by have := HCK.out; rw [← hok, this]; simp [hok, h0, h1, h2, h3, h4, h5, hok, h6], hFF⟩
      have t6 : decide (((l.rq.body).size : Int) ≤ 200) = true := h6
      go_wp2
      go_returns
      exact ⟨by have := HCK.out; rw [← hok, this]; simp [hok, h0, h1, h2, h3, h4, h5, h6, hok], hFF⟩
  by_cases hk2 : l.kind = 2
  · have q1 : (l.kind == 1) = false := by rw [hk2]; rfl
    have q2 : (l.kind == 2) = true := by rw [hk2]; rfl
    have hck : chk ok l = (ok && nf l.an.client 1073741824 && nf l.an.serial 1073741824 && nf l.an.status 999 && tf l.an.text 40 && nf l.an.after 1099511627776 && nf l.an.epoch 1073741824) := by unfold chk; rw [if_neg (by omega)]; rw [if_pos hk2]
    have ea : alone l = (⟨2, rq0, l.an, cl0, rp0⟩ : Ltr) := by unfold alone; rw [if_neg (by omega)]; rw [if_pos hk2]; rw [hk2]
    rw [ea] at he
    have HE : ∀ w9, (binOp .eql 31 (.agg #[.int .i64 l.kind, .int .i64 l.rq.client, .int .i64 l.rq.serial, .int .i64 l.rq.tenant, .string l.rq.key, .string l.rq.method, .string l.rq.path, .string l.rq.body, .int .i64 l.an.client, .int .i64 l.an.serial, .int .i64 l.an.status, .string l.an.text, .int .i64 l.an.after, .int .i64 l.an.epoch, .int .i64 l.cl.tenant, .string l.cl.key, .int .i64 l.cl.epoch, .int .i64 l.cl.phase, .int .i64 l.cl.token, .string l.cl.name, .string l.cl.body, .int .i64 l.rp.tenant, .string l.rp.key, .int .i64 l.rp.epoch, .int .i64 l.rp.phase, .int .i64 l.rp.token, .int .i64 l.rp.code]) (.agg (⟨2, rq0, l.an, cl0, rp0⟩ : Ltr).cells.toArray)).run Try.prog w9 = .ok (.bool ok) w9 := fun w9 => by
      cases ok
      · exact eql_other l (⟨2, rq0, l.an, cl0, rp0⟩ : Ltr) (fun e => by have := he.2 e; cases this) w9
      · have e2 := he.1 rfl
        have := eql_same l w9
        rw [← e2]
        exact this
    have HE2 : ∀ w9, (binOp .eql 31 (.agg #[.int .i64 l.kind, .int .i64 l.rq.client, .int .i64 l.rq.serial, .int .i64 l.rq.tenant, .string l.rq.key, .string l.rq.method, .string l.rq.path, .string l.rq.body, .int .i64 l.an.client, .int .i64 l.an.serial, .int .i64 l.an.status, .string l.an.text, .int .i64 l.an.after, .int .i64 l.an.epoch, .int .i64 l.cl.tenant, .string l.cl.key, .int .i64 l.cl.epoch, .int .i64 l.cl.phase, .int .i64 l.cl.token, .string l.cl.name, .string l.cl.body, .int .i64 l.rp.tenant, .string l.rp.key, .int .i64 l.rp.epoch, .int .i64 l.rp.phase, .int .i64 l.rp.token, .int .i64 l.rp.code]) (.agg #[.int .i64 2, .int .i64 0, .int .i64 0, .int .i64 0, .string ⟨#[]⟩, .string ⟨#[]⟩, .string ⟨#[]⟩, .string ⟨#[]⟩, .int .i64 l.an.client, .int .i64 l.an.serial, .int .i64 l.an.status, .string l.an.text, .int .i64 l.an.after, .int .i64 l.an.epoch, .int .i64 0, .string ⟨#[]⟩, .int .i64 0, .int .i64 0, .int .i64 0, .string ⟨#[]⟩, .string ⟨#[]⟩, .int .i64 0, .string ⟨#[]⟩, .int .i64 0, .int .i64 0, .int .i64 0, .int .i64 0])).run Try.prog w9 = .ok (.bool ok) w9 := HE
    clear HE ea he hk2
    have HCK := Lib.hid hck
    have hFF := hF.alloc (.cells #[.int .i64 l.an.client, .int .i64 l.an.serial, .int .i64 l.an.status, .string l.an.text, .int .i64 l.an.after, .int .i64 l.an.epoch] 25)
    have hb2 := ((Frm.refl (fun _ => False) (w.alloc (.cells #[.int .i64 l.kind, .int .i64 l.rq.client, .int .i64 l.rq.serial, .int .i64 l.rq.tenant, .string l.rq.key, .string l.rq.method, .string l.rq.path, .string l.rq.body, .int .i64 l.an.client, .int .i64 l.an.serial, .int .i64 l.an.status, .string l.an.text, .int .i64 l.an.after, .int .i64 l.an.epoch, .int .i64 l.cl.tenant, .string l.cl.key, .int .i64 l.cl.epoch, .int .i64 l.cl.phase, .int .i64 l.cl.token, .string l.cl.name, .string l.cl.body, .int .i64 l.rp.tenant, .string l.rp.key, .int .i64 l.rp.epoch, .int .i64 l.rp.phase, .int .i64 l.rp.token, .int .i64 l.rp.code] 31))).alloc (.cells #[.int .i64 l.an.client, .int .i64 l.an.serial, .int .i64 l.an.status, .string l.an.text, .int .i64 l.an.after, .int .i64 l.an.epoch] 25)).blk hb1 (fun h => h)
    have hb3 := Bk.new (w.alloc (.cells #[.int .i64 l.kind, .int .i64 l.rq.client, .int .i64 l.rq.serial, .int .i64 l.rq.tenant, .string l.rq.key, .string l.rq.method, .string l.rq.path, .string l.rq.body, .int .i64 l.an.client, .int .i64 l.an.serial, .int .i64 l.an.status, .string l.an.text, .int .i64 l.an.after, .int .i64 l.an.epoch, .int .i64 l.cl.tenant, .string l.cl.key, .int .i64 l.cl.epoch, .int .i64 l.cl.phase, .int .i64 l.cl.token, .string l.cl.name, .string l.cl.body, .int .i64 l.rp.tenant, .string l.rp.key, .int .i64 l.rp.epoch, .int .i64 l.rp.phase, .int .i64 l.rp.token, .int .i64 l.rp.code] 31)) (.cells #[.int .i64 l.an.client, .int .i64 l.an.serial, .int .i64 l.an.status, .string l.an.text, .int .i64 l.an.after, .int .i64 l.an.epoch] 25)
    rw [show (w.alloc (.cells #[.int .i64 l.kind, .int .i64 l.rq.client, .int .i64 l.rq.serial, .int .i64 l.rq.tenant, .string l.rq.key, .string l.rq.method, .string l.rq.path, .string l.rq.body, .int .i64 l.an.client, .int .i64 l.an.serial, .int .i64 l.an.status, .string l.an.text, .int .i64 l.an.after, .int .i64 l.an.epoch, .int .i64 l.cl.tenant, .string l.cl.key, .int .i64 l.cl.epoch, .int .i64 l.cl.phase, .int .i64 l.cl.token, .string l.cl.name, .string l.cl.body, .int .i64 l.rp.tenant, .string l.rp.key, .int .i64 l.rp.epoch, .int .i64 l.rp.phase, .int .i64 l.rp.token, .int .i64 l.rp.code] 31)).heap.size = w.heap.size + 1 by simp] at hb3
    clear hck
    go_enter Try.func14, Try.ntmps14
    go_upto_region 6 with (first | (refine wpList_load_mid rfl 25 (.tmp 58) rfl w.heap.size 8 rfl ([.int .i64 l.an.client, .int .i64 l.an.serial, .int .i64 l.an.status, .string l.an.text, .int .i64 l.an.after, .int .i64 l.an.epoch] : List Value) _ (rg2 l l.kind hb1) Try.underlying25 rfl (by rw [i2]; rfl) ?_))
    clear hb1 hF 
    generalize (w.alloc (.cells #[.int .i64 l.kind, .int .i64 l.rq.client, .int .i64 l.rq.serial, .int .i64 l.rq.tenant, .string l.rq.key, .string l.rq.method, .string l.rq.path, .string l.rq.body, .int .i64 l.an.client, .int .i64 l.an.serial, .int .i64 l.an.status, .string l.an.text, .int .i64 l.an.after, .int .i64 l.an.epoch, .int .i64 l.cl.tenant, .string l.cl.key, .int .i64 l.cl.epoch, .int .i64 l.cl.phase, .int .i64 l.cl.token, .string l.cl.name, .string l.cl.body, .int .i64 l.rp.tenant, .string l.rp.key, .int .i64 l.rp.epoch, .int .i64 l.rp.phase, .int .i64 l.rp.token, .int .i64 l.rp.code] 31)).alloc (.cells #[.int .i64 l.an.client, .int .i64 l.an.serial, .int .i64 l.an.status, .string l.an.text, .int .i64 l.an.after, .int .i64 l.an.epoch] 25) = w2 at *
    generalize w.heap.size = b at *
    obtain ⟨c0, c1, c2, c3, c4, c5⟩ := Bk.c6 hb3
    cases hok : ok
    · rw [hok] at HE2
      go_wp2_with (first | (refine wpList_load_blk rfl 31 (.tmp 1) rfl (l := [.int .i64 l.kind, .int .i64 l.rq.client, .int .i64 l.rq.serial, .int .i64 l.rq.tenant, .string l.rq.key, .string l.rq.method, .string l.rq.path, .string l.rq.body, .int .i64 l.an.client, .int .i64 l.an.serial, .int .i64 l.an.status, .string l.an.text, .int .i64 l.an.after, .int .i64 l.an.epoch, .int .i64 l.cl.tenant, .string l.cl.key, .int .i64 l.cl.epoch, .int .i64 l.cl.phase, .int .i64 l.cl.token, .string l.cl.name, .string l.cl.body, .int .i64 l.rp.tenant, .string l.rp.key, .int .i64 l.rp.epoch, .int .i64 l.rp.phase, .int .i64 l.rp.token, .int .i64 l.rp.code]) hb2 rfl Try.underlying31 rfl iL rfl ?_) | (refine wpList_load_blk rfl 25 (.tmp 4) rfl (l := [.int .i64 l.an.client, .int .i64 l.an.serial, .int .i64 l.an.status, .string l.an.text, .int .i64 l.an.after, .int .i64 l.an.epoch]) hb3 rfl Try.underlying25 rfl i2 rfl ?_))
      go_returns
      exact ⟨by have := HCK.out; rw [← hok, this]; simp [hok], hFF⟩
    · rw [hok] at HE2
      go_wp2_with (first | (refine wpList_load_blk rfl 31 (.tmp 1) rfl (l := [.int .i64 l.kind, .int .i64 l.rq.client, .int .i64 l.rq.serial, .int .i64 l.rq.tenant, .string l.rq.key, .string l.rq.method, .string l.rq.path, .string l.rq.body, .int .i64 l.an.client, .int .i64 l.an.serial, .int .i64 l.an.status, .string l.an.text, .int .i64 l.an.after, .int .i64 l.an.epoch, .int .i64 l.cl.tenant, .string l.cl.key, .int .i64 l.cl.epoch, .int .i64 l.cl.phase, .int .i64 l.cl.token, .string l.cl.name, .string l.cl.body, .int .i64 l.rp.tenant, .string l.rp.key, .int .i64 l.rp.epoch, .int .i64 l.rp.phase, .int .i64 l.rp.token, .int .i64 l.rp.code]) hb2 rfl Try.underlying31 rfl iL rfl ?_) | (refine wpList_load_blk rfl 25 (.tmp 4) rfl (l := [.int .i64 l.an.client, .int .i64 l.an.serial, .int .i64 l.an.status, .string l.an.text, .int .i64 l.an.after, .int .i64 l.an.epoch]) hb3 rfl Try.underlying25 rfl i2 rfl ?_))
      refine (rn_any l.an.client 1073741824 _).mono ?_
      rintro e w' ⟨rfl, rfl⟩
      cases h0 : nf l.an.client 1073741824
      · go_wp2
        go_returns
        exact ⟨by have := HCK.out; rw [← hok, this]; simp [hok, hok, h0], hFF⟩
      go_wp2_with fail
      refine (rn_any l.an.serial 1073741824 _).mono ?_
      rintro e w' ⟨rfl, rfl⟩
      cases h1 : nf l.an.serial 1073741824
      · go_wp2
        go_returns
        exact ⟨by have := HCK.out; rw [← hok, this]; simp [hok, h0, hok, h1], hFF⟩
      go_wp2_with fail
      refine (rn_any l.an.status 999 _).mono ?_
      rintro e w' ⟨rfl, rfl⟩
      cases h2 : nf l.an.status 999
      · go_wp2
        go_returns
        exact ⟨by have := HCK.out; rw [← hok, this]; simp [hok, h0, h1, hok, h2], hFF⟩
      cases h3 : tf l.an.text 40
      · have t3 : decide (((l.an.text).size : Int) ≤ 40) = false := h3
        go_wp2
        go_returns
        exact ⟨by have := HCK.out; rw [← hok, this]; simp [hok, h0, h1, h2, hok, h3], hFF⟩
      have t3 : decide (((l.an.text).size : Int) ≤ 40) = true := h3
      go_wp2_with fail
      refine (rn_any l.an.after 1099511627776 _).mono ?_
      rintro e w' ⟨rfl, rfl⟩
      cases h4 : nf l.an.after 1099511627776
      · go_wp2
        go_returns
        exact ⟨by have := HCK.out; rw [← hok, this]; simp [hok, h0, h1, h2, h3, hok, h4], hFF⟩
      go_wp2_with fail
      refine (rn_any l.an.epoch 1073741824 _).mono ?_
      rintro e w' ⟨rfl, rfl⟩
      cases h5 : nf l.an.epoch 1073741824
      · go_wp2
        go_returns
        exact ⟨by have := HCK.out; rw [← hok, this]; simp [hok, h0, h1, h2, h3, h4, hok, h5], hFF⟩
      go_wp2
      go_returns
      exact ⟨by have := HCK.out; rw [← hok, this]; simp [hok, h0, h1, h2, h3, h4, h5, hok], hFF⟩
  by_cases hk3 : l.kind = 3
  · have q1 : (l.kind == 1) = false := by rw [hk3]; rfl
    have q2 : (l.kind == 2) = false := by rw [hk3]; rfl
    have q3 : (l.kind == 3) = true := by rw [hk3]; rfl
    have hck : chk ok l = (ok && nf l.cl.tenant 1073741824 && tf l.cl.key 24 && nf l.cl.epoch 1073741824 && nf l.cl.phase 5 && nf l.cl.token 1073741824 && tf l.cl.name 12 && tf l.cl.body 40) := by unfold chk; rw [if_neg (by omega)]; rw [if_neg (by omega)]; rw [if_pos hk3]
    have ea : alone l = (⟨3, rq0, an0, l.cl, rp0⟩ : Ltr) := by unfold alone; rw [if_neg (by omega)]; rw [if_neg (by omega)]; rw [if_pos hk3]; rw [hk3]
    rw [ea] at he
    have HE : ∀ w9, (binOp .eql 31 (.agg #[.int .i64 l.kind, .int .i64 l.rq.client, .int .i64 l.rq.serial, .int .i64 l.rq.tenant, .string l.rq.key, .string l.rq.method, .string l.rq.path, .string l.rq.body, .int .i64 l.an.client, .int .i64 l.an.serial, .int .i64 l.an.status, .string l.an.text, .int .i64 l.an.after, .int .i64 l.an.epoch, .int .i64 l.cl.tenant, .string l.cl.key, .int .i64 l.cl.epoch, .int .i64 l.cl.phase, .int .i64 l.cl.token, .string l.cl.name, .string l.cl.body, .int .i64 l.rp.tenant, .string l.rp.key, .int .i64 l.rp.epoch, .int .i64 l.rp.phase, .int .i64 l.rp.token, .int .i64 l.rp.code]) (.agg (⟨3, rq0, an0, l.cl, rp0⟩ : Ltr).cells.toArray)).run Try.prog w9 = .ok (.bool ok) w9 := fun w9 => by
      cases ok
      · exact eql_other l (⟨3, rq0, an0, l.cl, rp0⟩ : Ltr) (fun e => by have := he.2 e; cases this) w9
      · have e2 := he.1 rfl
        have := eql_same l w9
        rw [← e2]
        exact this
    have HE2 : ∀ w9, (binOp .eql 31 (.agg #[.int .i64 l.kind, .int .i64 l.rq.client, .int .i64 l.rq.serial, .int .i64 l.rq.tenant, .string l.rq.key, .string l.rq.method, .string l.rq.path, .string l.rq.body, .int .i64 l.an.client, .int .i64 l.an.serial, .int .i64 l.an.status, .string l.an.text, .int .i64 l.an.after, .int .i64 l.an.epoch, .int .i64 l.cl.tenant, .string l.cl.key, .int .i64 l.cl.epoch, .int .i64 l.cl.phase, .int .i64 l.cl.token, .string l.cl.name, .string l.cl.body, .int .i64 l.rp.tenant, .string l.rp.key, .int .i64 l.rp.epoch, .int .i64 l.rp.phase, .int .i64 l.rp.token, .int .i64 l.rp.code]) (.agg #[.int .i64 3, .int .i64 0, .int .i64 0, .int .i64 0, .string ⟨#[]⟩, .string ⟨#[]⟩, .string ⟨#[]⟩, .string ⟨#[]⟩, .int .i64 0, .int .i64 0, .int .i64 0, .string ⟨#[]⟩, .int .i64 0, .int .i64 0, .int .i64 l.cl.tenant, .string l.cl.key, .int .i64 l.cl.epoch, .int .i64 l.cl.phase, .int .i64 l.cl.token, .string l.cl.name, .string l.cl.body, .int .i64 0, .string ⟨#[]⟩, .int .i64 0, .int .i64 0, .int .i64 0, .int .i64 0])).run Try.prog w9 = .ok (.bool ok) w9 := HE
    clear HE ea he hk3
    have HCK := Lib.hid hck
    have hFF := hF.alloc (.cells #[.int .i64 l.cl.tenant, .string l.cl.key, .int .i64 l.cl.epoch, .int .i64 l.cl.phase, .int .i64 l.cl.token, .string l.cl.name, .string l.cl.body] 27)
    have hb2 := ((Frm.refl (fun _ => False) (w.alloc (.cells #[.int .i64 l.kind, .int .i64 l.rq.client, .int .i64 l.rq.serial, .int .i64 l.rq.tenant, .string l.rq.key, .string l.rq.method, .string l.rq.path, .string l.rq.body, .int .i64 l.an.client, .int .i64 l.an.serial, .int .i64 l.an.status, .string l.an.text, .int .i64 l.an.after, .int .i64 l.an.epoch, .int .i64 l.cl.tenant, .string l.cl.key, .int .i64 l.cl.epoch, .int .i64 l.cl.phase, .int .i64 l.cl.token, .string l.cl.name, .string l.cl.body, .int .i64 l.rp.tenant, .string l.rp.key, .int .i64 l.rp.epoch, .int .i64 l.rp.phase, .int .i64 l.rp.token, .int .i64 l.rp.code] 31))).alloc (.cells #[.int .i64 l.cl.tenant, .string l.cl.key, .int .i64 l.cl.epoch, .int .i64 l.cl.phase, .int .i64 l.cl.token, .string l.cl.name, .string l.cl.body] 27)).blk hb1 (fun h => h)
    have hb3 := Bk.new (w.alloc (.cells #[.int .i64 l.kind, .int .i64 l.rq.client, .int .i64 l.rq.serial, .int .i64 l.rq.tenant, .string l.rq.key, .string l.rq.method, .string l.rq.path, .string l.rq.body, .int .i64 l.an.client, .int .i64 l.an.serial, .int .i64 l.an.status, .string l.an.text, .int .i64 l.an.after, .int .i64 l.an.epoch, .int .i64 l.cl.tenant, .string l.cl.key, .int .i64 l.cl.epoch, .int .i64 l.cl.phase, .int .i64 l.cl.token, .string l.cl.name, .string l.cl.body, .int .i64 l.rp.tenant, .string l.rp.key, .int .i64 l.rp.epoch, .int .i64 l.rp.phase, .int .i64 l.rp.token, .int .i64 l.rp.code] 31)) (.cells #[.int .i64 l.cl.tenant, .string l.cl.key, .int .i64 l.cl.epoch, .int .i64 l.cl.phase, .int .i64 l.cl.token, .string l.cl.name, .string l.cl.body] 27)
    rw [show (w.alloc (.cells #[.int .i64 l.kind, .int .i64 l.rq.client, .int .i64 l.rq.serial, .int .i64 l.rq.tenant, .string l.rq.key, .string l.rq.method, .string l.rq.path, .string l.rq.body, .int .i64 l.an.client, .int .i64 l.an.serial, .int .i64 l.an.status, .string l.an.text, .int .i64 l.an.after, .int .i64 l.an.epoch, .int .i64 l.cl.tenant, .string l.cl.key, .int .i64 l.cl.epoch, .int .i64 l.cl.phase, .int .i64 l.cl.token, .string l.cl.name, .string l.cl.body, .int .i64 l.rp.tenant, .string l.rp.key, .int .i64 l.rp.epoch, .int .i64 l.rp.phase, .int .i64 l.rp.token, .int .i64 l.rp.code] 31)).heap.size = w.heap.size + 1 by simp] at hb3
    clear hck
    go_enter Try.func14, Try.ntmps14
    go_upto_region 9 with (first | (refine wpList_load_mid rfl 27 (.tmp 98) rfl w.heap.size 14 rfl ([.int .i64 l.cl.tenant, .string l.cl.key, .int .i64 l.cl.epoch, .int .i64 l.cl.phase, .int .i64 l.cl.token, .string l.cl.name, .string l.cl.body] : List Value) _ (rg3 l l.kind hb1) Try.underlying27 rfl (by rw [i3]; rfl) ?_))
    clear hb1 hF 
    generalize (w.alloc (.cells #[.int .i64 l.kind, .int .i64 l.rq.client, .int .i64 l.rq.serial, .int .i64 l.rq.tenant, .string l.rq.key, .string l.rq.method, .string l.rq.path, .string l.rq.body, .int .i64 l.an.client, .int .i64 l.an.serial, .int .i64 l.an.status, .string l.an.text, .int .i64 l.an.after, .int .i64 l.an.epoch, .int .i64 l.cl.tenant, .string l.cl.key, .int .i64 l.cl.epoch, .int .i64 l.cl.phase, .int .i64 l.cl.token, .string l.cl.name, .string l.cl.body, .int .i64 l.rp.tenant, .string l.rp.key, .int .i64 l.rp.epoch, .int .i64 l.rp.phase, .int .i64 l.rp.token, .int .i64 l.rp.code] 31)).alloc (.cells #[.int .i64 l.cl.tenant, .string l.cl.key, .int .i64 l.cl.epoch, .int .i64 l.cl.phase, .int .i64 l.cl.token, .string l.cl.name, .string l.cl.body] 27) = w2 at *
    generalize w.heap.size = b at *
    obtain ⟨c0, c1, c2, c3, c4, c5, c6⟩ := Bk.c7 hb3
    cases hok : ok
    · rw [hok] at HE2
      go_wp2_with (first | (refine wpList_load_blk rfl 31 (.tmp 1) rfl (l := [.int .i64 l.kind, .int .i64 l.rq.client, .int .i64 l.rq.serial, .int .i64 l.rq.tenant, .string l.rq.key, .string l.rq.method, .string l.rq.path, .string l.rq.body, .int .i64 l.an.client, .int .i64 l.an.serial, .int .i64 l.an.status, .string l.an.text, .int .i64 l.an.after, .int .i64 l.an.epoch, .int .i64 l.cl.tenant, .string l.cl.key, .int .i64 l.cl.epoch, .int .i64 l.cl.phase, .int .i64 l.cl.token, .string l.cl.name, .string l.cl.body, .int .i64 l.rp.tenant, .string l.rp.key, .int .i64 l.rp.epoch, .int .i64 l.rp.phase, .int .i64 l.rp.token, .int .i64 l.rp.code]) hb2 rfl Try.underlying31 rfl iL rfl ?_) | (refine wpList_load_blk rfl 27 (.tmp 5) rfl (l := [.int .i64 l.cl.tenant, .string l.cl.key, .int .i64 l.cl.epoch, .int .i64 l.cl.phase, .int .i64 l.cl.token, .string l.cl.name, .string l.cl.body]) hb3 rfl Try.underlying27 rfl i3 rfl ?_))
      go_returns
      exact ⟨by have := HCK.out; rw [← hok, this]; simp [hok], hFF⟩
    · rw [hok] at HE2
      go_wp2_with (first | (refine wpList_load_blk rfl 31 (.tmp 1) rfl (l := [.int .i64 l.kind, .int .i64 l.rq.client, .int .i64 l.rq.serial, .int .i64 l.rq.tenant, .string l.rq.key, .string l.rq.method, .string l.rq.path, .string l.rq.body, .int .i64 l.an.client, .int .i64 l.an.serial, .int .i64 l.an.status, .string l.an.text, .int .i64 l.an.after, .int .i64 l.an.epoch, .int .i64 l.cl.tenant, .string l.cl.key, .int .i64 l.cl.epoch, .int .i64 l.cl.phase, .int .i64 l.cl.token, .string l.cl.name, .string l.cl.body, .int .i64 l.rp.tenant, .string l.rp.key, .int .i64 l.rp.epoch, .int .i64 l.rp.phase, .int .i64 l.rp.token, .int .i64 l.rp.code]) hb2 rfl Try.underlying31 rfl iL rfl ?_) | (refine wpList_load_blk rfl 27 (.tmp 5) rfl (l := [.int .i64 l.cl.tenant, .string l.cl.key, .int .i64 l.cl.epoch, .int .i64 l.cl.phase, .int .i64 l.cl.token, .string l.cl.name, .string l.cl.body]) hb3 rfl Try.underlying27 rfl i3 rfl ?_))
      refine (rn_any l.cl.tenant 1073741824 _).mono ?_
      rintro e w' ⟨rfl, rfl⟩
      cases h0 : nf l.cl.tenant 1073741824
      · go_wp2
        go_returns
        exact ⟨by have := HCK.out; rw [← hok, this]; simp [hok, hok, h0], hFF⟩
      cases h1 : tf l.cl.key 24
      · have t1 : decide (((l.cl.key).size : Int) ≤ 24) = false := h1
        go_wp2
        go_returns
        exact ⟨by have := HCK.out; rw [← hok, this]; simp [hok, h0, hok, h1], hFF⟩
      have t1 : decide (((l.cl.key).size : Int) ≤ 24) = true := h1
      go_wp2_with fail
      refine (rn_any l.cl.epoch 1073741824 _).mono ?_
      rintro e w' ⟨rfl, rfl⟩
      cases h2 : nf l.cl.epoch 1073741824
      · go_wp2
        go_returns
        exact ⟨by have := HCK.out; rw [← hok, this]; simp [hok, h0, h1, hok, h2], hFF⟩
      go_wp2_with fail
      refine (rn_any l.cl.phase 5 _).mono ?_
      rintro e w' ⟨rfl, rfl⟩
      cases h3 : nf l.cl.phase 5
      · go_wp2
        go_returns
        exact ⟨by have := HCK.out; rw [← hok, this]; simp [hok, h0, h1, h2, hok, h3], hFF⟩
      go_wp2_with fail
      refine (rn_any l.cl.token 1073741824 _).mono ?_
      rintro e w' ⟨rfl, rfl⟩
      cases h4 : nf l.cl.token 1073741824
      · go_wp2
        go_returns
        exact ⟨by have := HCK.out; rw [← hok, this]; simp [hok, h0, h1, h2, h3, hok, h4], hFF⟩
      cases h5 : tf l.cl.name 12
      · have t5 : decide (((l.cl.name).size : Int) ≤ 12) = false := h5
        go_wp2
        go_returns
        exact ⟨by have := HCK.out; rw [← hok, this]; simp [hok, h0, h1, h2, h3, h4, hok, h5], hFF⟩
      have t5 : decide (((l.cl.name).size : Int) ≤ 12) = true := h5
      cases h6 : tf l.cl.body 40
      · have t6 : decide (((l.cl.body).size : Int) ≤ 40) = false := h6
        go_wp2
        go_returns
        exact ⟨by have := HCK.out; rw [← hok, this]; simp [hok, h0, h1, h2, h3, h4, h5, hok, h6], hFF⟩
      have t6 : decide (((l.cl.body).size : Int) ≤ 40) = true := h6
      go_wp2
      go_returns
      exact ⟨by have := HCK.out; rw [← hok, this]; simp [hok, h0, h1, h2, h3, h4, h5, h6, hok], hFF⟩
  by_cases hk4 : l.kind = 4
  · have q1 : (l.kind == 1) = false := by rw [hk4]; rfl
    have q2 : (l.kind == 2) = false := by rw [hk4]; rfl
    have q3 : (l.kind == 3) = false := by rw [hk4]; rfl
    have hck : chk ok l = (ok && nf l.rp.tenant 1073741824 && tf l.rp.key 24 && nf l.rp.epoch 1073741824 && nf l.rp.phase 5 && nf l.rp.token 1073741824 && nf l.rp.code 3) := by unfold chk; rw [if_neg (by omega)]; rw [if_neg (by omega)]; rw [if_neg (by omega)]; rw [if_pos hk4]
    have ea : alone l = (⟨4, rq0, an0, cl0, l.rp⟩ : Ltr) := by unfold alone; rw [if_neg (by omega)]; rw [if_neg (by omega)]; rw [if_neg (by omega)]; rw [if_pos hk4]; rw [hk4]
    rw [ea] at he
    have HE : ∀ w9, (binOp .eql 31 (.agg #[.int .i64 l.kind, .int .i64 l.rq.client, .int .i64 l.rq.serial, .int .i64 l.rq.tenant, .string l.rq.key, .string l.rq.method, .string l.rq.path, .string l.rq.body, .int .i64 l.an.client, .int .i64 l.an.serial, .int .i64 l.an.status, .string l.an.text, .int .i64 l.an.after, .int .i64 l.an.epoch, .int .i64 l.cl.tenant, .string l.cl.key, .int .i64 l.cl.epoch, .int .i64 l.cl.phase, .int .i64 l.cl.token, .string l.cl.name, .string l.cl.body, .int .i64 l.rp.tenant, .string l.rp.key, .int .i64 l.rp.epoch, .int .i64 l.rp.phase, .int .i64 l.rp.token, .int .i64 l.rp.code]) (.agg (⟨4, rq0, an0, cl0, l.rp⟩ : Ltr).cells.toArray)).run Try.prog w9 = .ok (.bool ok) w9 := fun w9 => by
      cases ok
      · exact eql_other l (⟨4, rq0, an0, cl0, l.rp⟩ : Ltr) (fun e => by have := he.2 e; cases this) w9
      · have e2 := he.1 rfl
        have := eql_same l w9
        rw [← e2]
        exact this
    have HE2 : ∀ w9, (binOp .eql 31 (.agg #[.int .i64 l.kind, .int .i64 l.rq.client, .int .i64 l.rq.serial, .int .i64 l.rq.tenant, .string l.rq.key, .string l.rq.method, .string l.rq.path, .string l.rq.body, .int .i64 l.an.client, .int .i64 l.an.serial, .int .i64 l.an.status, .string l.an.text, .int .i64 l.an.after, .int .i64 l.an.epoch, .int .i64 l.cl.tenant, .string l.cl.key, .int .i64 l.cl.epoch, .int .i64 l.cl.phase, .int .i64 l.cl.token, .string l.cl.name, .string l.cl.body, .int .i64 l.rp.tenant, .string l.rp.key, .int .i64 l.rp.epoch, .int .i64 l.rp.phase, .int .i64 l.rp.token, .int .i64 l.rp.code]) (.agg #[.int .i64 4, .int .i64 0, .int .i64 0, .int .i64 0, .string ⟨#[]⟩, .string ⟨#[]⟩, .string ⟨#[]⟩, .string ⟨#[]⟩, .int .i64 0, .int .i64 0, .int .i64 0, .string ⟨#[]⟩, .int .i64 0, .int .i64 0, .int .i64 0, .string ⟨#[]⟩, .int .i64 0, .int .i64 0, .int .i64 0, .string ⟨#[]⟩, .string ⟨#[]⟩, .int .i64 l.rp.tenant, .string l.rp.key, .int .i64 l.rp.epoch, .int .i64 l.rp.phase, .int .i64 l.rp.token, .int .i64 l.rp.code])).run Try.prog w9 = .ok (.bool ok) w9 := HE
    clear HE ea he hk4
    have HCK := Lib.hid hck
    have hFF := hF.alloc (.cells #[.int .i64 l.rp.tenant, .string l.rp.key, .int .i64 l.rp.epoch, .int .i64 l.rp.phase, .int .i64 l.rp.token, .int .i64 l.rp.code] 29)
    have hb2 := ((Frm.refl (fun _ => False) (w.alloc (.cells #[.int .i64 l.kind, .int .i64 l.rq.client, .int .i64 l.rq.serial, .int .i64 l.rq.tenant, .string l.rq.key, .string l.rq.method, .string l.rq.path, .string l.rq.body, .int .i64 l.an.client, .int .i64 l.an.serial, .int .i64 l.an.status, .string l.an.text, .int .i64 l.an.after, .int .i64 l.an.epoch, .int .i64 l.cl.tenant, .string l.cl.key, .int .i64 l.cl.epoch, .int .i64 l.cl.phase, .int .i64 l.cl.token, .string l.cl.name, .string l.cl.body, .int .i64 l.rp.tenant, .string l.rp.key, .int .i64 l.rp.epoch, .int .i64 l.rp.phase, .int .i64 l.rp.token, .int .i64 l.rp.code] 31))).alloc (.cells #[.int .i64 l.rp.tenant, .string l.rp.key, .int .i64 l.rp.epoch, .int .i64 l.rp.phase, .int .i64 l.rp.token, .int .i64 l.rp.code] 29)).blk hb1 (fun h => h)
    have hb3 := Bk.new (w.alloc (.cells #[.int .i64 l.kind, .int .i64 l.rq.client, .int .i64 l.rq.serial, .int .i64 l.rq.tenant, .string l.rq.key, .string l.rq.method, .string l.rq.path, .string l.rq.body, .int .i64 l.an.client, .int .i64 l.an.serial, .int .i64 l.an.status, .string l.an.text, .int .i64 l.an.after, .int .i64 l.an.epoch, .int .i64 l.cl.tenant, .string l.cl.key, .int .i64 l.cl.epoch, .int .i64 l.cl.phase, .int .i64 l.cl.token, .string l.cl.name, .string l.cl.body, .int .i64 l.rp.tenant, .string l.rp.key, .int .i64 l.rp.epoch, .int .i64 l.rp.phase, .int .i64 l.rp.token, .int .i64 l.rp.code] 31)) (.cells #[.int .i64 l.rp.tenant, .string l.rp.key, .int .i64 l.rp.epoch, .int .i64 l.rp.phase, .int .i64 l.rp.token, .int .i64 l.rp.code] 29)
    rw [show (w.alloc (.cells #[.int .i64 l.kind, .int .i64 l.rq.client, .int .i64 l.rq.serial, .int .i64 l.rq.tenant, .string l.rq.key, .string l.rq.method, .string l.rq.path, .string l.rq.body, .int .i64 l.an.client, .int .i64 l.an.serial, .int .i64 l.an.status, .string l.an.text, .int .i64 l.an.after, .int .i64 l.an.epoch, .int .i64 l.cl.tenant, .string l.cl.key, .int .i64 l.cl.epoch, .int .i64 l.cl.phase, .int .i64 l.cl.token, .string l.cl.name, .string l.cl.body, .int .i64 l.rp.tenant, .string l.rp.key, .int .i64 l.rp.epoch, .int .i64 l.rp.phase, .int .i64 l.rp.token, .int .i64 l.rp.code] 31)).heap.size = w.heap.size + 1 by simp] at hb3
    clear hck
    go_enter Try.func14, Try.ntmps14
    go_upto_region 11 with (first | (refine wpList_load_mid rfl 29 (.tmp 142) rfl w.heap.size 21 rfl ([.int .i64 l.rp.tenant, .string l.rp.key, .int .i64 l.rp.epoch, .int .i64 l.rp.phase, .int .i64 l.rp.token, .int .i64 l.rp.code] : List Value) _ (rg4 l l.kind hb1) Try.underlying29 rfl (by rw [i4]; rfl) ?_))
    clear hb1 hF 
    generalize (w.alloc (.cells #[.int .i64 l.kind, .int .i64 l.rq.client, .int .i64 l.rq.serial, .int .i64 l.rq.tenant, .string l.rq.key, .string l.rq.method, .string l.rq.path, .string l.rq.body, .int .i64 l.an.client, .int .i64 l.an.serial, .int .i64 l.an.status, .string l.an.text, .int .i64 l.an.after, .int .i64 l.an.epoch, .int .i64 l.cl.tenant, .string l.cl.key, .int .i64 l.cl.epoch, .int .i64 l.cl.phase, .int .i64 l.cl.token, .string l.cl.name, .string l.cl.body, .int .i64 l.rp.tenant, .string l.rp.key, .int .i64 l.rp.epoch, .int .i64 l.rp.phase, .int .i64 l.rp.token, .int .i64 l.rp.code] 31)).alloc (.cells #[.int .i64 l.rp.tenant, .string l.rp.key, .int .i64 l.rp.epoch, .int .i64 l.rp.phase, .int .i64 l.rp.token, .int .i64 l.rp.code] 29) = w2 at *
    generalize w.heap.size = b at *
    obtain ⟨c0, c1, c2, c3, c4, c5⟩ := Bk.c6 hb3
    cases hok : ok
    · rw [hok] at HE2
      go_wp2_with (first | (refine wpList_load_blk rfl 31 (.tmp 1) rfl (l := [.int .i64 l.kind, .int .i64 l.rq.client, .int .i64 l.rq.serial, .int .i64 l.rq.tenant, .string l.rq.key, .string l.rq.method, .string l.rq.path, .string l.rq.body, .int .i64 l.an.client, .int .i64 l.an.serial, .int .i64 l.an.status, .string l.an.text, .int .i64 l.an.after, .int .i64 l.an.epoch, .int .i64 l.cl.tenant, .string l.cl.key, .int .i64 l.cl.epoch, .int .i64 l.cl.phase, .int .i64 l.cl.token, .string l.cl.name, .string l.cl.body, .int .i64 l.rp.tenant, .string l.rp.key, .int .i64 l.rp.epoch, .int .i64 l.rp.phase, .int .i64 l.rp.token, .int .i64 l.rp.code]) hb2 rfl Try.underlying31 rfl iL rfl ?_) | (refine wpList_load_blk rfl 29 (.tmp 6) rfl (l := [.int .i64 l.rp.tenant, .string l.rp.key, .int .i64 l.rp.epoch, .int .i64 l.rp.phase, .int .i64 l.rp.token, .int .i64 l.rp.code]) hb3 rfl Try.underlying29 rfl i4 rfl ?_))
      go_returns
      exact ⟨by have := HCK.out; rw [← hok, this]; simp [hok], hFF⟩
    · rw [hok] at HE2
      go_wp2_with (first | (refine wpList_load_blk rfl 31 (.tmp 1) rfl (l := [.int .i64 l.kind, .int .i64 l.rq.client, .int .i64 l.rq.serial, .int .i64 l.rq.tenant, .string l.rq.key, .string l.rq.method, .string l.rq.path, .string l.rq.body, .int .i64 l.an.client, .int .i64 l.an.serial, .int .i64 l.an.status, .string l.an.text, .int .i64 l.an.after, .int .i64 l.an.epoch, .int .i64 l.cl.tenant, .string l.cl.key, .int .i64 l.cl.epoch, .int .i64 l.cl.phase, .int .i64 l.cl.token, .string l.cl.name, .string l.cl.body, .int .i64 l.rp.tenant, .string l.rp.key, .int .i64 l.rp.epoch, .int .i64 l.rp.phase, .int .i64 l.rp.token, .int .i64 l.rp.code]) hb2 rfl Try.underlying31 rfl iL rfl ?_) | (refine wpList_load_blk rfl 29 (.tmp 6) rfl (l := [.int .i64 l.rp.tenant, .string l.rp.key, .int .i64 l.rp.epoch, .int .i64 l.rp.phase, .int .i64 l.rp.token, .int .i64 l.rp.code]) hb3 rfl Try.underlying29 rfl i4 rfl ?_))
      refine (rn_any l.rp.tenant 1073741824 _).mono ?_
      rintro e w' ⟨rfl, rfl⟩
      cases h0 : nf l.rp.tenant 1073741824
      · go_wp2
        go_returns
        exact ⟨by have := HCK.out; rw [← hok, this]; simp [hok, hok, h0], hFF⟩
      cases h1 : tf l.rp.key 24
      · have t1 : decide (((l.rp.key).size : Int) ≤ 24) = false := h1
        go_wp2
        go_returns
        exact ⟨by have := HCK.out; rw [← hok, this]; simp [hok, h0, hok, h1], hFF⟩
      have t1 : decide (((l.rp.key).size : Int) ≤ 24) = true := h1
      go_wp2_with fail
      refine (rn_any l.rp.epoch 1073741824 _).mono ?_
      rintro e w' ⟨rfl, rfl⟩
      cases h2 : nf l.rp.epoch 1073741824
      · go_wp2
        go_returns
        exact ⟨by have := HCK.out; rw [← hok, this]; simp [hok, h0, h1, hok, h2], hFF⟩
      go_wp2_with fail
      refine (rn_any l.rp.phase 5 _).mono ?_
      rintro e w' ⟨rfl, rfl⟩
      cases h3 : nf l.rp.phase 5
      · go_wp2
        go_returns
        exact ⟨by have := HCK.out; rw [← hok, this]; simp [hok, h0, h1, h2, hok, h3], hFF⟩
      go_wp2_with fail
      refine (rn_any l.rp.token 1073741824 _).mono ?_
      rintro e w' ⟨rfl, rfl⟩
      cases h4 : nf l.rp.token 1073741824
      · go_wp2
        go_returns
        exact ⟨by have := HCK.out; rw [← hok, this]; simp [hok, h0, h1, h2, h3, hok, h4], hFF⟩
      go_wp2_with fail
      refine (rn_any l.rp.code 3 _).mono ?_
      rintro e w' ⟨rfl, rfl⟩
      cases h5 : nf l.rp.code 3
      · go_wp2
        go_returns
        exact ⟨by have := HCK.out; rw [← hok, this]; simp [hok, h0, h1, h2, h3, h4, hok, h5], hFF⟩
      go_wp2
      go_returns
      exact ⟨by have := HCK.out; rw [← hok, this]; simp [hok, h0, h1, h2, h3, h4, h5, hok], hFF⟩
  have hck : chk ok l = false := by unfold chk; rw [if_neg hk, if_neg hk2, if_neg hk3, if_neg hk4]
  have q1 : (l.kind == 1) = false := beq_eq_false_iff_ne.2 hk
  have q2 : (l.kind == 2) = false := beq_eq_false_iff_ne.2 hk2
  have q3 : (l.kind == 3) = false := beq_eq_false_iff_ne.2 hk3
  have HE2 : ∀ w9, (binOp .eql 31 (.agg #[.int .i64 l.kind, .int .i64 l.rq.client, .int .i64 l.rq.serial, .int .i64 l.rq.tenant, .string l.rq.key, .string l.rq.method, .string l.rq.path, .string l.rq.body, .int .i64 l.an.client, .int .i64 l.an.serial, .int .i64 l.an.status, .string l.an.text, .int .i64 l.an.after, .int .i64 l.an.epoch, .int .i64 l.cl.tenant, .string l.cl.key, .int .i64 l.cl.epoch, .int .i64 l.cl.phase, .int .i64 l.cl.token, .string l.cl.name, .string l.cl.body, .int .i64 l.rp.tenant, .string l.rp.key, .int .i64 l.rp.epoch, .int .i64 l.rp.phase, .int .i64 l.rp.token, .int .i64 l.rp.code]) (.agg #[.int .i64 4, .int .i64 0, .int .i64 0, .int .i64 0, .string ⟨#[]⟩, .string ⟨#[]⟩, .string ⟨#[]⟩, .string ⟨#[]⟩, .int .i64 0, .int .i64 0, .int .i64 0, .string ⟨#[]⟩, .int .i64 0, .int .i64 0, .int .i64 0, .string ⟨#[]⟩, .int .i64 0, .int .i64 0, .int .i64 0, .string ⟨#[]⟩, .string ⟨#[]⟩, .int .i64 l.rp.tenant, .string l.rp.key, .int .i64 l.rp.epoch, .int .i64 l.rp.phase, .int .i64 l.rp.token, .int .i64 l.rp.code])).run Try.prog w9 = .ok (.bool false) w9 := fun w9 => eql_other l ⟨4, rq0, an0, cl0, l.rp⟩ (fun e => hk4 (by rw [e])) w9
  have HCK := Lib.hid hck
  have hFF := hF.alloc (.cells #[.int .i64 l.rp.tenant, .string l.rp.key, .int .i64 l.rp.epoch, .int .i64 l.rp.phase, .int .i64 l.rp.token, .int .i64 l.rp.code] 29)
  have hb2 := ((Frm.refl (fun _ => False) (w.alloc (.cells #[.int .i64 l.kind, .int .i64 l.rq.client, .int .i64 l.rq.serial, .int .i64 l.rq.tenant, .string l.rq.key, .string l.rq.method, .string l.rq.path, .string l.rq.body, .int .i64 l.an.client, .int .i64 l.an.serial, .int .i64 l.an.status, .string l.an.text, .int .i64 l.an.after, .int .i64 l.an.epoch, .int .i64 l.cl.tenant, .string l.cl.key, .int .i64 l.cl.epoch, .int .i64 l.cl.phase, .int .i64 l.cl.token, .string l.cl.name, .string l.cl.body, .int .i64 l.rp.tenant, .string l.rp.key, .int .i64 l.rp.epoch, .int .i64 l.rp.phase, .int .i64 l.rp.token, .int .i64 l.rp.code] 31))).alloc (.cells #[.int .i64 l.rp.tenant, .string l.rp.key, .int .i64 l.rp.epoch, .int .i64 l.rp.phase, .int .i64 l.rp.token, .int .i64 l.rp.code] 29)).blk hb1 (fun h => h)
  have hb3 := Bk.new (w.alloc (.cells #[.int .i64 l.kind, .int .i64 l.rq.client, .int .i64 l.rq.serial, .int .i64 l.rq.tenant, .string l.rq.key, .string l.rq.method, .string l.rq.path, .string l.rq.body, .int .i64 l.an.client, .int .i64 l.an.serial, .int .i64 l.an.status, .string l.an.text, .int .i64 l.an.after, .int .i64 l.an.epoch, .int .i64 l.cl.tenant, .string l.cl.key, .int .i64 l.cl.epoch, .int .i64 l.cl.phase, .int .i64 l.cl.token, .string l.cl.name, .string l.cl.body, .int .i64 l.rp.tenant, .string l.rp.key, .int .i64 l.rp.epoch, .int .i64 l.rp.phase, .int .i64 l.rp.token, .int .i64 l.rp.code] 31)) (.cells #[.int .i64 l.rp.tenant, .string l.rp.key, .int .i64 l.rp.epoch, .int .i64 l.rp.phase, .int .i64 l.rp.token, .int .i64 l.rp.code] 29)
  rw [show (w.alloc (.cells #[.int .i64 l.kind, .int .i64 l.rq.client, .int .i64 l.rq.serial, .int .i64 l.rq.tenant, .string l.rq.key, .string l.rq.method, .string l.rq.path, .string l.rq.body, .int .i64 l.an.client, .int .i64 l.an.serial, .int .i64 l.an.status, .string l.an.text, .int .i64 l.an.after, .int .i64 l.an.epoch, .int .i64 l.cl.tenant, .string l.cl.key, .int .i64 l.cl.epoch, .int .i64 l.cl.phase, .int .i64 l.cl.token, .string l.cl.name, .string l.cl.body, .int .i64 l.rp.tenant, .string l.rp.key, .int .i64 l.rp.epoch, .int .i64 l.rp.phase, .int .i64 l.rp.token, .int .i64 l.rp.code] 31)).heap.size = w.heap.size + 1 by simp] at hb3
  clear hck he hk hk2 hk3 hk4
  go_enter Try.func14, Try.ntmps14
  go_upto_region 11 with (first | (refine wpList_load_mid rfl 29 (.tmp 142) rfl w.heap.size 21 rfl ([.int .i64 l.rp.tenant, .string l.rp.key, .int .i64 l.rp.epoch, .int .i64 l.rp.phase, .int .i64 l.rp.token, .int .i64 l.rp.code] : List Value) _ (rg4 l l.kind hb1) Try.underlying29 rfl (by rw [i4]; rfl) ?_))
  clear hb1 hF
  generalize (w.alloc (.cells #[.int .i64 l.kind, .int .i64 l.rq.client, .int .i64 l.rq.serial, .int .i64 l.rq.tenant, .string l.rq.key, .string l.rq.method, .string l.rq.path, .string l.rq.body, .int .i64 l.an.client, .int .i64 l.an.serial, .int .i64 l.an.status, .string l.an.text, .int .i64 l.an.after, .int .i64 l.an.epoch, .int .i64 l.cl.tenant, .string l.cl.key, .int .i64 l.cl.epoch, .int .i64 l.cl.phase, .int .i64 l.cl.token, .string l.cl.name, .string l.cl.body, .int .i64 l.rp.tenant, .string l.rp.key, .int .i64 l.rp.epoch, .int .i64 l.rp.phase, .int .i64 l.rp.token, .int .i64 l.rp.code] 31)).alloc (.cells #[.int .i64 l.rp.tenant, .string l.rp.key, .int .i64 l.rp.epoch, .int .i64 l.rp.phase, .int .i64 l.rp.token, .int .i64 l.rp.code] 29) = w2 at *
  generalize w.heap.size = b at *
  go_wp2_with (first | (refine wpList_load_blk rfl 31 (.tmp 1) rfl (l := [.int .i64 l.kind, .int .i64 l.rq.client, .int .i64 l.rq.serial, .int .i64 l.rq.tenant, .string l.rq.key, .string l.rq.method, .string l.rq.path, .string l.rq.body, .int .i64 l.an.client, .int .i64 l.an.serial, .int .i64 l.an.status, .string l.an.text, .int .i64 l.an.after, .int .i64 l.an.epoch, .int .i64 l.cl.tenant, .string l.cl.key, .int .i64 l.cl.epoch, .int .i64 l.cl.phase, .int .i64 l.cl.token, .string l.cl.name, .string l.cl.body, .int .i64 l.rp.tenant, .string l.rp.key, .int .i64 l.rp.epoch, .int .i64 l.rp.phase, .int .i64 l.rp.token, .int .i64 l.rp.code]) hb2 rfl Try.underlying31 rfl iL rfl ?_) | (refine wpList_load_blk rfl 29 (.tmp 6) rfl (l := [.int .i64 l.rp.tenant, .string l.rp.key, .int .i64 l.rp.epoch, .int .i64 l.rp.phase, .int .i64 l.rp.token, .int .i64 l.rp.code]) hb3 rfl Try.underlying29 rfl i4 rfl ?_))
  go_returns
  exact ⟨by rw [HCK.out]; rfl, hFF⟩
end
end Lt
end Go.Proofs.Ythggbohoedfkpaa
