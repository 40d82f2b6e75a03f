/- Letters: what the laws say of texts, and the walk of LetterKinds. -/
import Derived.Test.YthggbohoedfkpaaLtr
import Derived.Test.YthggbohoedfkpaaLtm
namespace Go.Proofs.Ythggbohoedfkpaa
open Go.RowKit Pk
set_option linter.unusedVariables false
set_option linter.unusedSimpArgs false
set_option maxRecDepth 100000
namespace Lt
theorem e0 : (⟨#[]⟩ : ByteArray).size ≤ 1000 := by decide
theorem enc_len {f : Fl} {v : V} (h : f.fit v = true) (hm : f.most ≤ 4611686018427387904) (ht : ∀ m, f = .t m → m ≤ 1000) : v.enc.length ≤ 1009 := by
  cases f with
  | n m =>
    cases v with
    | s x => cases h
    | i x =>
      simp only [Fl.fit, nf, Bool.and_eq_true, decide_eq_true_eq] at h
      simp only [Fl.most] at hm
      have := num9 x.toNat (by omega)
      simp only [V.enc, nl]
      omega
  | t m =>
    cases v with
    | i x => cases h
    | s x =>
      simp only [Fl.fit, tf, decide_eq_true_eq] at h
      have h1 := ht m rfl
      have := num9 x.size (by omega)
      simp only [V.enc, tx, List.length_append, bytes_len]
      omega
theorem encs_len : ∀ (fs : List Fl) (vs : List V), fits fs vs = true → (∀ f ∈ fs, f.most ≤ 4611686018427387904 ∧ ∀ m, f = .t m → m ≤ 1000) → (encs vs).length ≤ 1009 * fs.length
  | [], [], _, _ => by simp [encs]
  | [], _ :: _, h, _ => by cases h
  | _ :: _, [], h, _ => by cases h
  | f :: fs, v :: vs, h, hm => by
    simp only [fits, Bool.and_eq_true] at h
    have h1 := enc_len h.1 (hm f (List.mem_cons_self ..)).1 (hm f (List.mem_cons_self ..)).2
    have h2 := encs_len fs vs h.2 (fun g hg => hm g (List.mem_cons_of_mem _ hg))
    show (v.enc ++ encs vs).length ≤ _
    rw [List.length_append, List.length_cons]
    omega
theorem sch_text {k : Int} : ∀ f ∈ sch k, ∀ m, f = .t m → m ≤ 1000 := by
  unfold sch
  intro f hf m hm
  subst hm
  split at hf
  · simp only [List.mem_cons, List.not_mem_nil, or_false, Fl.t.injEq, reduceCtorEq, false_or] at hf
    omega
  · split at hf
    · simp only [List.mem_cons, List.not_mem_nil, or_false, Fl.t.injEq, reduceCtorEq, false_or] at hf
      omega
    · split at hf
      · simp only [List.mem_cons, List.not_mem_nil, or_false, Fl.t.injEq, reduceCtorEq, false_or] at hf
        omega
      · split at hf
        · simp only [List.mem_cons, List.not_mem_nil, or_false, Fl.t.injEq, reduceCtorEq, false_or] at hf
          omega
        · cases hf
theorem sch_len (k : Int) : (sch k).length ≤ 7 := by
  unfold sch
  split
  · decide
  · split
    · decide
    · split
      · decide
      · split <;> decide
theorem pck_size {l : Ltr} (h : chk true l = true) : (pck l).size ≤ 10000 := by
  obtain ⟨h1, h2⟩ := (chk_fits l).1 h
  have h3 := encs_len _ _ h2 (fun f hf => ⟨sch_most f hf, sch_text f hf⟩)
  have h4 := sch_len l.kind
  have h5 := num9 1 (by decide)
  have h6 := num9 l.kind.toNat (by omega)
  rw [← bytes_len, bytes_pck, lay_encs, List.length_append, List.length_append]
  omega
theorem pck_pre {a b : Ltr} (ha : Fit a) (hb : Fit b) (h : (pck b).extract 0 (pck a).size = pck a) : a = b := by
  have hbb : bytes (pck b) = bytes (pck a) ++ bytes ((pck b).extract (pck a).size (pck b).size) := by
    have h1 := congrArg bytes h
    rw [bytes_extract, List.drop_zero, Nat.sub_zero] at h1
    rw [bytes_extract, List.take_of_length_le (l := List.drop _ _) (by rw [List.length_drop, bytes_len]; omega)]
    conv => lhs; rw [← List.take_append_drop (pck a).size (bytes (pck b)), h1]
  rw [bytes_pck a] at hbb
  have h1 := read_fit ha hbb
  have h2 := read_pck hb
  have hkk : a.kind = b.kind := by
    simp only [decs, Prod.mk.injEq, List.cons.injEq] at h1 h2
    have := h1.1.2.1.symm.trans h2.1.2.1
    simpa using this
  rw [← hkk, h1] at h2
  simp only [Prod.mk.injEq, List.cons.injEq] at h2
  exact alone_same ha.1 hb.1 hkk ((chk_fits a).1 ha.2).1 h2.1.2.2
theorem fit_of {ok : Bool} {l : Ltr} (hok : ok = true ↔ l = alone l) (h : chk ok l = true) : Fit l := by
  have h9 := chk_and ok l
  rw [h] at h9
  have h10 : ok = true ∧ chk true l = true := by
    cases ok
    · cases h9
    · exact ⟨rfl, h9.symm⟩
  exact ⟨hok.1 h10.1, h10.2⟩
theorem packed_yes {ok : Bool} {l : Ltr} (h : chk ok l = true) : packed ok l = .returned (.tuple #[.string (pck l), .int .i64 0]) := by
  unfold packed pck; rw [if_pos h]
theorem packed_no {ok : Bool} {l : Ltr} (h : chk ok l = false) : packed ok l = .returned (.tuple #[.string ⟨#[]⟩, .int .i64 1]) := by
  unfold packed; rw [h, if_neg (by decide)]
set_option maxHeartbeats 4000000 in
theorem kinds_walk (l : Ltr) (w : World) : Calls Try.prog 6 #[.agg #[.int .i64 l.kind, .int .i64 l.rq.client, .int .i64 l.rq.serial, .int .i64 l.rq.tenant, .string l.rq.key, .string l.rq.method, .string l.rq.path, .string l.rq.body, .int .i64 l.an.client, .int .i64 l.an.serial, .int .i64 l.an.status, .string l.an.text, .int .i64 l.an.after, .int .i64 l.an.epoch, .int .i64 l.cl.tenant, .string l.cl.key, .int .i64 l.cl.epoch, .int .i64 l.cl.phase, .int .i64 l.cl.token, .string l.cl.name, .string l.cl.body, .int .i64 l.rp.tenant, .string l.rp.key, .int .i64 l.rp.epoch, .int .i64 l.rp.phase, .int .i64 l.rp.token, .int .i64 l.rp.code]] w fun e w' => e = .returned (.bool true) ∧ Below w.heap.size w w' := by
  have hb := Bk.new w (.cells #[.int .i64 l.kind, .int .i64 l.rq.client, .int .i64 l.rq.serial, .int .i64 l.rq.tenant, .string l.rq.key, .string l.rq.method, .string l.rq.path, .string l.rq.body, .int .i64 l.an.client, .int .i64 l.an.serial, .int .i64 l.an.status, .string l.an.text, .int .i64 l.an.after, .int .i64 l.an.epoch, .int .i64 l.cl.tenant, .string l.cl.key, .int .i64 l.cl.epoch, .int .i64 l.cl.phase, .int .i64 l.cl.token, .string l.cl.name, .string l.cl.body, .int .i64 l.rp.tenant, .string l.rp.key, .int .i64 l.rp.epoch, .int .i64 l.rp.phase, .int .i64 l.rp.token, .int .i64 l.rp.code] 31)
  have hF := (Frm.refl (fun _ => False) w).alloc (.cells #[.int .i64 l.kind, .int .i64 l.rq.client, .int .i64 l.rq.serial, .int .i64 l.rq.tenant, .string l.rq.key, .string l.rq.method, .string l.rq.path, .string l.rq.body, .int .i64 l.an.client, .int .i64 l.an.serial, .int .i64 l.an.status, .string l.an.text, .int .i64 l.an.after, .int .i64 l.an.epoch, .int .i64 l.cl.tenant, .string l.cl.key, .int .i64 l.cl.epoch, .int .i64 l.cl.phase, .int .i64 l.cl.token, .string l.cl.name, .string l.cl.body, .int .i64 l.rp.tenant, .string l.rp.key, .int .i64 l.rp.epoch, .int .i64 l.rp.phase, .int .i64 l.rp.token, .int .i64 l.rp.code] 31)
  go_enter Try.func6, Try.ntmps6
  go_wp2_with fail
  generalize w.alloc (.cells #[.int .i64 l.kind, .int .i64 l.rq.client, .int .i64 l.rq.serial, .int .i64 l.rq.tenant, .string l.rq.key, .string l.rq.method, .string l.rq.path, .string l.rq.body, .int .i64 l.an.client, .int .i64 l.an.serial, .int .i64 l.an.status, .string l.an.text, .int .i64 l.an.after, .int .i64 l.an.epoch, .int .i64 l.cl.tenant, .string l.cl.key, .int .i64 l.cl.epoch, .int .i64 l.cl.phase, .int .i64 l.cl.token, .string l.cl.name, .string l.cl.body, .int .i64 l.rp.tenant, .string l.rp.key, .int .i64 l.rp.epoch, .int .i64 l.rp.phase, .int .i64 l.rp.token, .int .i64 l.rp.code] 31) = w0 at *
  generalize hbe : w.heap.size = b at *
  refine (awake_any _).mono ?_
  rintro e w1 ⟨rfl, hf1⟩
  have hb := hf1.blk hb (fun h => h)
  have hF := hF.trans hf1
  go_wp2_with (first | (refine wpList_load_blk rfl 31 (.tmp 1) rfl (l := [.int .i64 l.kind, .int .i64 l.rq.client, .int .i64 l.rq.serial, .int .i64 l.rq.tenant, .string l.rq.key, .string l.rq.method, .string l.rq.path, .string l.rq.body, .int .i64 l.an.client, .int .i64 l.an.serial, .int .i64 l.an.status, .string l.an.text, .int .i64 l.an.after, .int .i64 l.an.epoch, .int .i64 l.cl.tenant, .string l.cl.key, .int .i64 l.cl.epoch, .int .i64 l.cl.phase, .int .i64 l.cl.token, .string l.cl.name, .string l.cl.body, .int .i64 l.rp.tenant, .string l.rp.key, .int .i64 l.rp.epoch, .int .i64 l.rp.phase, .int .i64 l.rp.token, .int .i64 l.rp.code]) hb rfl Try.underlying31 rfl iL rfl ?_))
  refine (long_any l _).mono ?_
  rintro e w2 ⟨lg, rfl, hf2, hz⟩
  have hb := hf2.blk hb (fun h => h)
  have hF := hF.trans hf2
  cases lg
  · have HZ : Sm l := hz rfl
    clear hz
    go_wp2_with (first | (refine wpList_load_mid rfl 23 (.tmp 12) rfl b 1 rfl ([.int .i64 l.rq.client, .int .i64 l.rq.serial, .int .i64 l.rq.tenant, .string l.rq.key, .string l.rq.method, .string l.rq.path, .string l.rq.body] : List Value) _ (rg1 l l.kind hb) Try.underlying23 rfl (by rw [i1]; rfl) ?_))
    refine (ask_1 l ⟨HZ.rqkey, HZ.rqmethod, HZ.rqpath, HZ.rqbody, e0, e0, e0, e0, e0⟩ _).mono ?_
    rintro e w2 ⟨rfl, hf2⟩
    have hb := hf2.blk hb (fun h => h)
    have hF := hF.trans hf2
    obtain ⟨s1, n1, hp1⟩ := packed_form true (⟨1, l.rq, an0, cl0, rp0⟩ : Ltr)
    rw [hp1]
    go_wp2_with (first | (refine wpList_load_mid rfl 23 (.tmp 18) rfl b 1 rfl ([.int .i64 l.rq.client, .int .i64 l.rq.serial, .int .i64 l.rq.tenant, .string l.rq.key, .string l.rq.method, .string l.rq.path, .string l.rq.body] : List Value) _ (rg1 l l.kind hb) Try.underlying23 rfl (by rw [i1]; rfl) ?_))
    refine (pack_any (⟨1, l.rq, an0, cl0, rp0⟩ : Ltr) true ⟨fun _ => rfl, fun _ => rfl⟩ ⟨HZ.rqkey, HZ.rqmethod, HZ.rqpath, HZ.rqbody, e0, e0, e0, e0, e0⟩ _).mono ?_
    rintro e w3 ⟨rfl, hf3⟩
    have hb := hf3.blk hb (fun h => h)
    have hF := hF.trans hf3
    rw [hp1]
    have b1 : (s1.toList == s1.toList) = true := beq_iff_eq.2 rfl
    have b2 : (s1.toList != s1.toList) = false := by simp
    have b3 : (n1 == n1) = true := beq_iff_eq.2 rfl
    have b4 : (n1 != n1) = false := by simp
    go_wp2_with (first | (refine wpList_load_mid rfl 25 (.tmp 33) rfl b 8 rfl ([.int .i64 l.an.client, .int .i64 l.an.serial, .int .i64 l.an.status, .string l.an.text, .int .i64 l.an.after, .int .i64 l.an.epoch] : List Value) _ (rg2 l l.kind hb) Try.underlying25 rfl (by rw [i2]; rfl) ?_))
    refine (ask_2 l ⟨e0, e0, e0, e0, HZ.antext, e0, e0, e0, e0⟩ _).mono ?_
    rintro e w2 ⟨rfl, hf2⟩
    have hb := hf2.blk hb (fun h => h)
    have hF := hF.trans hf2
    obtain ⟨s2, n2, hp2⟩ := packed_form true (⟨2, rq0, l.an, cl0, rp0⟩ : Ltr)
    rw [hp2]
    go_wp2_with (first | (refine wpList_load_mid rfl 25 (.tmp 39) rfl b 8 rfl ([.int .i64 l.an.client, .int .i64 l.an.serial, .int .i64 l.an.status, .string l.an.text, .int .i64 l.an.after, .int .i64 l.an.epoch] : List Value) _ (rg2 l l.kind hb) Try.underlying25 rfl (by rw [i2]; rfl) ?_))
    refine (pack_any (⟨2, rq0, l.an, cl0, rp0⟩ : Ltr) true ⟨fun _ => rfl, fun _ => rfl⟩ ⟨e0, e0, e0, e0, HZ.antext, e0, e0, e0, e0⟩ _).mono ?_
    rintro e w3 ⟨rfl, hf3⟩
    have hb := hf3.blk hb (fun h => h)
    have hF := hF.trans hf3
    rw [hp2]
    have b1 : (s2.toList == s2.toList) = true := beq_iff_eq.2 rfl
    have b2 : (s2.toList != s2.toList) = false := by simp
    have b3 : (n2 == n2) = true := beq_iff_eq.2 rfl
    have b4 : (n2 != n2) = false := by simp
    go_wp2_with (first | (refine wpList_load_mid rfl 27 (.tmp 54) rfl b 14 rfl ([.int .i64 l.cl.tenant, .string l.cl.key, .int .i64 l.cl.epoch, .int .i64 l.cl.phase, .int .i64 l.cl.token, .string l.cl.name, .string l.cl.body] : List Value) _ (rg3 l l.kind hb) Try.underlying27 rfl (by rw [i3]; rfl) ?_))
    refine (ask_3 l ⟨e0, e0, e0, e0, e0, HZ.clkey, HZ.clname, HZ.clbody, e0⟩ _).mono ?_
    rintro e w2 ⟨rfl, hf2⟩
    have hb := hf2.blk hb (fun h => h)
    have hF := hF.trans hf2
    obtain ⟨s3, n3, hp3⟩ := packed_form true (⟨3, rq0, an0, l.cl, rp0⟩ : Ltr)
    rw [hp3]
    go_wp2_with (first | (refine wpList_load_mid rfl 27 (.tmp 60) rfl b 14 rfl ([.int .i64 l.cl.tenant, .string l.cl.key, .int .i64 l.cl.epoch, .int .i64 l.cl.phase, .int .i64 l.cl.token, .string l.cl.name, .string l.cl.body] : List Value) _ (rg3 l l.kind hb) Try.underlying27 rfl (by rw [i3]; rfl) ?_))
    refine (pack_any (⟨3, rq0, an0, l.cl, rp0⟩ : Ltr) true ⟨fun _ => rfl, fun _ => rfl⟩ ⟨e0, e0, e0, e0, e0, HZ.clkey, HZ.clname, HZ.clbody, e0⟩ _).mono ?_
    rintro e w3 ⟨rfl, hf3⟩
    have hb := hf3.blk hb (fun h => h)
    have hF := hF.trans hf3
    rw [hp3]
    have b1 : (s3.toList == s3.toList) = true := beq_iff_eq.2 rfl
    have b2 : (s3.toList != s3.toList) = false := by simp
    have b3 : (n3 == n3) = true := beq_iff_eq.2 rfl
    have b4 : (n3 != n3) = false := by simp
    go_wp2_with (first | (refine wpList_load_mid rfl 29 (.tmp 75) rfl b 21 rfl ([.int .i64 l.rp.tenant, .string l.rp.key, .int .i64 l.rp.epoch, .int .i64 l.rp.phase, .int .i64 l.rp.token, .int .i64 l.rp.code] : List Value) _ (rg4 l l.kind hb) Try.underlying29 rfl (by rw [i4]; rfl) ?_))
    refine (ask_4 l ⟨e0, e0, e0, e0, e0, e0, e0, e0, HZ.rpkey⟩ _).mono ?_
    rintro e w2 ⟨rfl, hf2⟩
    have hb := hf2.blk hb (fun h => h)
    have hF := hF.trans hf2
    obtain ⟨s4, n4, hp4⟩ := packed_form true (⟨4, rq0, an0, cl0, l.rp⟩ : Ltr)
    rw [hp4]
    go_wp2_with (first | (refine wpList_load_mid rfl 29 (.tmp 81) rfl b 21 rfl ([.int .i64 l.rp.tenant, .string l.rp.key, .int .i64 l.rp.epoch, .int .i64 l.rp.phase, .int .i64 l.rp.token, .int .i64 l.rp.code] : List Value) _ (rg4 l l.kind hb) Try.underlying29 rfl (by rw [i4]; rfl) ?_))
    refine (pack_any (⟨4, rq0, an0, cl0, l.rp⟩ : Ltr) true ⟨fun _ => rfl, fun _ => rfl⟩ ⟨e0, e0, e0, e0, e0, e0, e0, e0, HZ.rpkey⟩ _).mono ?_
    rintro e w3 ⟨rfl, hf3⟩
    have hb := hf3.blk hb (fun h => h)
    have hF := hF.trans hf3
    rw [hp4]
    have b1 : (s4.toList == s4.toList) = true := beq_iff_eq.2 rfl
    have b2 : (s4.toList != s4.toList) = false := by simp
    have b3 : (n4 == n4) = true := beq_iff_eq.2 rfl
    have b4 : (n4 != n4) = false := by simp
    
    go_wp2
    go_returns
    exact ⟨rfl, hbe ▸ hF.below (fun _ _ h => h)⟩
  · go_wp2
    go_returns
    exact ⟨rfl, hbe ▸ hF.below (fun _ _ h => h)⟩
end Lt
end Go.Proofs.Ythggbohoedfkpaa
