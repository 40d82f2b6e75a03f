/- Letters: two letters held against each other. -/
import Derived.Test.YthggbohoedfkpaaLte
namespace Go.Proofs.Ythggbohoedfkpaa
open Go.RowKit Pk
set_option linter.unusedVariables false
set_option linter.unusedSimpArgs false
set_option maxRecDepth 100000
namespace Lt
theorem ltr_ext {a b : Ltr} (h0 : a.kind = b.kind) (h1 : a.rq.client = b.rq.client) (h2 : a.rq.serial = b.rq.serial) (h3 : a.rq.tenant = b.rq.tenant) (h4 : a.rq.key.toList = b.rq.key.toList) (h5 : a.rq.method.toList = b.rq.method.toList) (h6 : a.rq.path.toList = b.rq.path.toList) (h7 : a.rq.body.toList = b.rq.body.toList) (h8 : a.an.client = b.an.client) (h9 : a.an.serial = b.an.serial) (h10 : a.an.status = b.an.status) (h11 : a.an.text.toList = b.an.text.toList) (h12 : a.an.after = b.an.after) (h13 : a.an.epoch = b.an.epoch) (h14 : a.cl.tenant = b.cl.tenant) (h15 : a.cl.key.toList = b.cl.key.toList) (h16 : a.cl.epoch = b.cl.epoch) (h17 : a.cl.phase = b.cl.phase) (h18 : a.cl.token = b.cl.token) (h19 : a.cl.name.toList = b.cl.name.toList) (h20 : a.cl.body.toList = b.cl.body.toList) (h21 : a.rp.tenant = b.rp.tenant) (h22 : a.rp.key.toList = b.rp.key.toList) (h23 : a.rp.epoch = b.rp.epoch) (h24 : a.rp.phase = b.rp.phase) (h25 : a.rp.token = b.rp.token) (h26 : a.rp.code = b.rp.code) : a = b := by
  obtain ⟨a0, ⟨a1, a2, a3, a4, a5, a6, a7⟩, ⟨a8, a9, a10, a11, a12, a13⟩, ⟨a14, a15, a16, a17, a18, a19, a20⟩, ⟨a21, a22, a23, a24, a25, a26⟩⟩ := a
  obtain ⟨b0, ⟨b1, b2, b3, b4, b5, b6, b7⟩, ⟨b8, b9, b10, b11, b12, b13⟩, ⟨b14, b15, b16, b17, b18, b19, b20⟩, ⟨b21, b22, b23, b24, b25, b26⟩⟩ := b
  simp only at h0 h1 h2 h3 h4 h5 h6 h7 h8 h9 h10 h11 h12 h13 h14 h15 h16 h17 h18 h19 h20 h21 h22 h23 h24 h25 h26
  have h4 := str_inj h4
  have h5 := str_inj h5
  have h6 := str_inj h6
  have h7 := str_inj h7
  have h11 := str_inj h11
  have h15 := str_inj h15
  have h19 := str_inj h19
  have h20 := str_inj h20
  have h22 := str_inj h22
  subst h0 h1 h2 h3 h4 h5 h6 h7 h8 h9 h10 h11 h12 h13 h14 h15 h16 h17 h18 h19 h20 h21 h22 h23 h24 h25 h26
  rfl
set_option maxHeartbeats 1000000 in
theorem eql_same (a : Ltr) (w : World) : (binOp .eql 31 (.agg #[.int .i64 a.kind, .int .i64 a.rq.client, .int .i64 a.rq.serial, .int .i64 a.rq.tenant, .string a.rq.key, .string a.rq.method, .string a.rq.path, .string a.rq.body, .int .i64 a.an.client, .int .i64 a.an.serial, .int .i64 a.an.status, .string a.an.text, .int .i64 a.an.after, .int .i64 a.an.epoch, .int .i64 a.cl.tenant, .string a.cl.key, .int .i64 a.cl.epoch, .int .i64 a.cl.phase, .int .i64 a.cl.token, .string a.cl.name, .string a.cl.body, .int .i64 a.rp.tenant, .string a.rp.key, .int .i64 a.rp.epoch, .int .i64 a.rp.phase, .int .i64 a.rp.token, .int .i64 a.rp.code]) (.agg #[.int .i64 a.kind, .int .i64 a.rq.client, .int .i64 a.rq.serial, .int .i64 a.rq.tenant, .string a.rq.key, .string a.rq.method, .string a.rq.path, .string a.rq.body, .int .i64 a.an.client, .int .i64 a.an.serial, .int .i64 a.an.status, .string a.an.text, .int .i64 a.an.after, .int .i64 a.an.epoch, .int .i64 a.cl.tenant, .string a.cl.key, .int .i64 a.cl.epoch, .int .i64 a.cl.phase, .int .i64 a.cl.token, .string a.cl.name, .string a.cl.body, .int .i64 a.rp.tenant, .string a.rp.key, .int .i64 a.rp.epoch, .int .i64 a.rp.phase, .int .i64 a.rp.token, .int .i64 a.rp.code])).run Try.prog w = .ok (.bool true) w := by
  rw [run_eql_struct]
  simp [go_sem]
set_option maxHeartbeats 2000000 in
theorem eql_other (a b : Ltr) (h : a ≠ b) (w : World) : (binOp .eql 31 (.agg #[.int .i64 a.kind, .int .i64 a.rq.client, .int .i64 a.rq.serial, .int .i64 a.rq.tenant, .string a.rq.key, .string a.rq.method, .string a.rq.path, .string a.rq.body, .int .i64 a.an.client, .int .i64 a.an.serial, .int .i64 a.an.status, .string a.an.text, .int .i64 a.an.after, .int .i64 a.an.epoch, .int .i64 a.cl.tenant, .string a.cl.key, .int .i64 a.cl.epoch, .int .i64 a.cl.phase, .int .i64 a.cl.token, .string a.cl.name, .string a.cl.body, .int .i64 a.rp.tenant, .string a.rp.key, .int .i64 a.rp.epoch, .int .i64 a.rp.phase, .int .i64 a.rp.token, .int .i64 a.rp.code]) (.agg #[.int .i64 b.kind, .int .i64 b.rq.client, .int .i64 b.rq.serial, .int .i64 b.rq.tenant, .string b.rq.key, .string b.rq.method, .string b.rq.path, .string b.rq.body, .int .i64 b.an.client, .int .i64 b.an.serial, .int .i64 b.an.status, .string b.an.text, .int .i64 b.an.after, .int .i64 b.an.epoch, .int .i64 b.cl.tenant, .string b.cl.key, .int .i64 b.cl.epoch, .int .i64 b.cl.phase, .int .i64 b.cl.token, .string b.cl.name, .string b.cl.body, .int .i64 b.rp.tenant, .string b.rp.key, .int .i64 b.rp.epoch, .int .i64 b.rp.phase, .int .i64 b.rp.token, .int .i64 b.rp.code])).run Try.prog w = .ok (.bool false) w := by
  rw [run_eql_struct]
  simp [go_sem]
  intros
  intro hlast
  exact absurd (ltr_ext (by assumption) (by assumption) (by assumption) (by assumption) (by assumption) (by assumption) (by assumption) (by assumption) (by assumption) (by assumption) (by assumption) (by assumption) (by assumption) (by assumption) (by assumption) (by assumption) (by assumption) (by assumption) (by assumption) (by assumption) (by assumption) (by assumption) (by assumption) (by assumption) (by assumption) (by assumption) (by assumption)) h
end Lt
end Go.Proofs.Ythggbohoedfkpaa
