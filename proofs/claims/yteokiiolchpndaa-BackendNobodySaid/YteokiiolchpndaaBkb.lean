/- Backend: the program's state; New, Later, Left, Seen. -/
import Derived.Test.YteokiiolchpndaaBka
import Derived.Test.YteokiiolchpndaaNum
import Derived.Carry
namespace Go.Proofs.Yteokiiolchpndaa
open Go.RowKit Go.ChangeShapes Go.WideShapes Go.Maps
set_option linter.unusedVariables false
set_option linter.unusedSimpArgs false
set_option maxRecDepth 100000
namespace Bk25
def lastV (x : Int × Bool) : Value := .agg #[.int .i64 x.1, .bool x.2]
/-- The map of lives. -/
def LM (w : World) (m N : Nat) (ls : List Lf) : Prop :=
  ∃ f n, Mp Try.prog 111 w m n N f ∧ ∀ t k e, Kok t k e → f (kl t k e) = (find ls t k e).map lastV
/-- The map of deeds. -/
def DM (w : World) (m N : Nat) (ef : List Ca) : Prop :=
  ∃ f n, Mp Try.prog 129 w m n N f ∧ ∀ t k e p, Kok t k e → (Lit.int .i64 p).wf = true → (f (kd t k e p)).isSome = met ef t k e p
theorem uL : Try.prog.underlying 101 = some (.map 111 108) := Try.underlying101
theorem uD : Try.prog.underlying 102 = some (.map 129 3) := Try.underlying102
theorem zL (w : World) : (zeroValue 108).run Try.prog w = .ok (.agg #[.int .i64 0, .bool false]) w := by rfl
theorem zD (w : World) : (zeroValue 3).run Try.prog w = .ok (.int .i64 0) w := by rfl
section
variable {w w1 : World} {m N : Nat} {ls : List Lf} {ef : List Ca} {S : Nat → Prop}
theorem LM.lt (h : LM w m N ls) : m < w.heap.size := by obtain ⟨f, n, h1, _⟩ := h; exact h1.lt
theorem DM.lt (h : DM w m N ef) : m < w.heap.size := by obtain ⟨f, n, h1, _⟩ := h; exact h1.lt
theorem LM.frm (h : LM w m N ls) (hf : Frm S w w1) (hs : ¬ S m) : LM w1 m N ls := by obtain ⟨f, n, h1, h2⟩ := h; exact ⟨f, n, h1.frm hf hs, h2⟩
theorem DM.frm (h : DM w m N ef) (hf : Frm S w w1) (hs : ¬ S m) : DM w1 m N ef := by obtain ⟨f, n, h1, h2⟩ := h; exact ⟨f, n, h1.frm hf hs, h2⟩
theorem LM.more (h : LM w m N ls) {M : Nat} (hm : N ≤ M) : LM w m M ls := by
  obtain ⟨f, n, ⟨D, ⟨es, clock, hb, F, hsz, hD⟩, h3⟩, h2⟩ := h
  exact ⟨f, n, ⟨D, ⟨es, clock, hb, F, Nat.le_trans hsz hm, hD⟩, h3⟩, h2⟩
theorem DM.more (h : DM w m N ef) {M : Nat} (hm : N ≤ M) : DM w m M ef := by
  obtain ⟨f, n, ⟨D, ⟨es, clock, hb, F, hsz, hD⟩, h3⟩, h2⟩ := h
  exact ⟨f, n, ⟨D, ⟨es, clock, hb, F, Nat.le_trans hsz hm, hD⟩, h3⟩, h2⟩
theorem LM.no (h : LM w m N ls) {t : Int} {k : ByteArray} {e : Int} (hk : Kok t k e) (hf : find ls t k e = none) :
    (Instr.lookup 101 (.map (some m)) (.agg #[.int .i64 t, .string k, .int .i64 e]) true).run Try.prog w = .ok (.tuple #[.agg #[.int .i64 0, .bool false], .bool false]) w := by
  obtain ⟨f, n, h1, h2⟩ := h
  exact h1.ok_no keyL uL zL (keyOf_life hk) (by rw [h2 _ _ _ hk, hf]; rfl)
theorem LM.yes (h : LM w m N ls) {t : Int} {k : ByteArray} {e tok : Int} {sp : Bool} (hk : Kok t k e) (hf : find ls t k e = some (tok, sp)) :
    (Instr.lookup 101 (.map (some m)) (.agg #[.int .i64 t, .string k, .int .i64 e]) true).run Try.prog w = .ok (.tuple #[.agg #[.int .i64 tok, .bool sp], .bool true]) w := by
  obtain ⟨f, n, h1, h2⟩ := h
  exact h1.ok_yes keyL uL zL (keyOf_life hk) (by rw [h2 _ _ _ hk, hf]; rfl)
theorem DM.look (h : DM w m N ef) {t : Int} {k : ByteArray} {e p : Int} (hk : Kok t k e) (hp : (Lit.int .i64 p).wf = true) {b : Bool} (hb : met ef t k e p = b) :
    ∃ v, ∀ w', Frm0 w w' → (Instr.lookup 102 (.map (some m)) (.agg #[.int .i64 t, .string k, .int .i64 e, .int .i64 p]) true).run Try.prog w' = .ok (.tuple #[v, .bool b]) w' := by
  obtain ⟨f, n, h1, h2⟩ := h
  have h3 := h2 _ _ _ _ hk hp
  rw [hb] at h3
  cases hf : f (kd t k e p) with
  | none =>
    rw [hf] at h3
    cases h3
    exact ⟨_, fun w' hF => (h1.frm0 hF).ok_no keyD uD zD (keyOf_deed hk hp) hf⟩
  | some v =>
    rw [hf] at h3
    cases h3
    exact ⟨v, fun w' hF => (h1.frm0 hF).ok_yes keyD uD zD (keyOf_deed hk hp) hf⟩
theorem LM.new (w : World) : LM (w.alloc (.map #[] 0)) w.heap.size 0 [] := ⟨_, _, Mp.new w _ _, fun _ _ _ _ => rfl⟩
theorem DM.new (w : World) : DM (w.alloc (.map #[] 0)) w.heap.size 0 [] := ⟨_, _, Mp.new w _ _, fun _ _ _ _ _ _ => rfl⟩
theorem LM.upd {f : Lit → Option Value} (h2 : ∀ t k e, Kok t k e → f (kl t k e) = (find ls t k e).map lastV) {t : Int} {k : ByteArray} {e : Int} (hk : Kok t k e) (tok : Int) (sp : Bool) :
    ∀ t' k' e', Kok t' k' e' → upd f (kl t k e) (some (.agg #[.int .i64 tok, .bool sp])) (kl t' k' e') = (find (putL ls t k e tok sp) t' k' e').map lastV := by
  intro t' k' e' hk'
  rw [find_put]
  unfold Go.Proofs.Yteokiiolchpndaa.upd
  by_cases he : t = t' ∧ k = k' ∧ e = e'
  · obtain ⟨rfl, rfl, rfl⟩ := he
    rw [if_pos rfl, if_pos ⟨rfl, rfl, rfl⟩]
    rfl
  · rw [if_neg he, if_neg (fun e => he (kl_inj hk hk' e.symm)), h2 _ _ _ hk']
theorem DM.upd {f : Lit → Option Value} (h2 : ∀ t k e p, Kok t k e → (Lit.int .i64 p).wf = true → (f (kd t k e p)).isSome = met ef t k e p) {c : Ca} (hk : Kok c.tenant c.key c.epoch) (hp : (Lit.int .i64 c.phase).wf = true) (v : Value) :
    ∀ t' k' e' p', Kok t' k' e' → (Lit.int .i64 p').wf = true → (Go.Proofs.Yteokiiolchpndaa.upd f (kd c.tenant c.key c.epoch c.phase) (some v) (kd t' k' e' p')).isSome = met (ef ++ [c]) t' k' e' p' := by
  intro t' k' e' p' hk' hp'
  unfold Go.Proofs.Yteokiiolchpndaa.upd met
  rw [List.any_append]
  by_cases he : c.tenant = t' ∧ c.key = k' ∧ c.epoch = e' ∧ c.phase = p'
  · obtain ⟨rfl, rfl, rfl, rfl⟩ := he
    rw [if_pos rfl]
    simp
  · rw [if_neg (fun e => he (kd_inj hk hp hk' hp' e.symm)), h2 _ _ _ _ hk' hp']
    unfold met
    simp [he]
end
section
variable {ops : Array Oper} {rest : List Oper} {o : Oper} {a : Act} {w : World} {Q : Exit → Act → World → Prop} {m N : Nat} {ls : List Lf} {ef : List Ca}
theorem wpList_life (hg : o.guard = none) (x y z : Operand) (hop : o.op = Op.mapUpdate 101 x y z) (h : LM w m N ls) (hN : N < 1000000) {t : Int} {k : ByteArray} {e tok : Int} {sp : Bool} (hk : Kok t k e)
    (hm : a.eval x = .map (some m)) (hx : a.eval y = .agg #[.int .i64 t, .string k, .int .i64 e]) (hv : a.eval z = .agg #[.int .i64 tok, .bool sp])
    (hK : ∀ w', LM w' m (N + 1) (putL ls t k e tok sp) → Frm (fun k => k = m) w w' → wpList Try.prog ops Q rest (a.put o.dst undef) w') : wpList Try.prog ops Q (o :: rest) a w := by
  obtain ⟨f, n, h1, h2⟩ := h
  exact wpList_put hg x y z hop h1 keyL uL (by unfold maxLen; omega) _ _ _ hm hx hv (keyOf_life hk) (fun w' h3 h4 => hK w' ⟨_, _, h3, LM.upd h2 hk tok sp⟩ h4)
theorem wpList_deed (hg : o.guard = none) (x y z : Operand) (hop : o.op = Op.mapUpdate 102 x y z) (h : DM w m N ef) (hN : N < 1000000) {c : Ca} (hk : Kok c.tenant c.key c.epoch) (hp : (Lit.int .i64 c.phase).wf = true) (val : Value)
    (hm : a.eval x = .map (some m)) (hx : a.eval y = .agg #[.int .i64 c.tenant, .string c.key, .int .i64 c.epoch, .int .i64 c.phase]) (hv : a.eval z = val)
    (hK : ∀ w', DM w' m (N + 1) (ef ++ [c]) → Frm (fun k => k = m) w w' → wpList Try.prog ops Q rest (a.put o.dst undef) w') : wpList Try.prog ops Q (o :: rest) a w := by
  obtain ⟨f, n, h1, h2⟩ := h
  exact wpList_put hg x y z hop h1 keyD uD (by unfold maxLen; omega) _ _ _ hm hx hv (keyOf_deed hk hp) (fun w' h3 h4 => hK w' ⟨_, _, h3, DM.upd h2 hk hp val⟩ h4)
end
/-- The program's backend: maps in blocks b and b + 1, itself in b + 2, the effects' row v. -/
structure At (w : World) (b : Nat) (v : Value) (s : St) (N : Nat) : Prop where
  blk : w.heap[b + 2]? = some (.cells #[.map (some b), .map (some (b + 1)), v, .int .i64 s.later] 104 (0, 0))
  lm : LM w b N s.ls
  dm : DM w (b + 1) N s.ef
  row : w.ownsRow (b + 3) 37 7 v s.ef.length (s.ef.flatMap Ca.cells)
  late : 0 ≤ s.later ∧ s.later ≤ 1073741824
def fp (b : Nat) (v : Value) (k : Nat) : Prop := k = b ∨ k = b + 1 ∨ k = b + 2 ∨ v.ownBlock = some k
section
variable {w w1 : World} {b N : Nat} {v : Value} {s : St} {S : Nat → Prop}
theorem At.lt (h : At w b v s N) : b + 2 < w.heap.size := Bk.lt h.blk
theorem At.own (h : At w b v s N) (k : Nat) (hk : v.ownBlock = some k) : b + 3 ≤ k ∧ k < w.heap.size := h.row.lt k hk
theorem At.frm (h : At w b v s N) (hf : Frm S w w1) (hs : ∀ k, fp b v k → ¬ S k) : At w1 b v s N :=
  ⟨hf.blk h.blk (hs _ (.inr (.inr (.inl rfl)))), h.lm.frm hf (hs _ (.inl rfl)), h.dm.frm hf (hs _ (.inr (.inl rfl))), owns_frm h.row hf (fun g hg => hs g (.inr (.inr (.inr hg)))), h.late⟩
theorem At.frm0 (h : At w b v s N) (hf : Frm0 w w1) : At w1 b v s N := h.frm hf (fun _ _ h => h)
end
theorem new_any (w : World) : Calls Try.prog 12 #[] w fun e w' => e = .returned (.pointer (some ⟨w.heap.size + 2, 0, none⟩)) ∧ At w' w.heap.size (.slice none 0 0) ⟨[], [], 0⟩ 0 ∧ Frm0 w w' := by
  have hm1 := fun w => run_makeMap (P := Try.prog) 101 w
  have hm2 := fun w => run_makeMap (P := Try.prog) 102 w
  go_enter Try.func12, Try.ntmps12
  go_wp2
  go_returns
  have h3 := Bk.new ((w.alloc (.map #[] 0)).alloc (.map #[] 0)) (.cells #[.map (some w.heap.size), .map (some (w.heap.size + 1)), .slice none 0 0, .int .i64 0] 104)
  have f2 := (Frm.refl (fun _ => False) (w.alloc (.map #[] 0))).alloc (.map #[] 0)
  have f3 := (Frm.refl (fun _ => False) ((w.alloc (.map #[] 0)).alloc (.map #[] 0))).alloc (.cells #[.map (some w.heap.size), .map (some (w.heap.size + 1)), .slice none 0 0, .int .i64 0] 104)
  have e1 : (w.alloc (.map #[] 0)).heap.size = w.heap.size + 1 := by simp
  have e2 : ((w.alloc (.map #[] 0)).alloc (.map #[] 0)).heap.size = w.heap.size + 2 := by simp
  rw [e2] at h3
  have hd := DM.new (w.alloc (.map #[] 0))
  rw [e1] at hd
  exact ⟨rfl, ⟨h3, ((LM.new w).frm f2 (fun h => h)).frm f3 (fun h => h), hd.frm f3 (fun h => h), World.ownsRow_nil _ _ _ _, by decide⟩, (((Frm.refl (fun _ => False) w).alloc (.map #[] 0)).alloc (.map #[] 0)).alloc _⟩
theorem left_nil (w : World) : Calls Try.prog 22 #[.pointer none] w fun e w' => e = .returned (.int .i64 0) ∧ w = w' := by
  go_enter Try.func22, Try.ntmps22
  go_wp2
  go_ret
  exact ⟨rfl, rfl⟩
theorem left_any {w : World} {b N : Nat} {v : Value} {s : St} (h : At w b v s N) : Calls Try.prog 22 #[.pointer (some ⟨b + 2, 0, none⟩)] w fun e w' => e = .returned (.int .i64 s.later) ∧ w = w' := by
  have c3 := (Bk.c4 h.blk).2.2.2
  go_enter Try.func22, Try.ntmps22
  go_wp2
  go_ret
  exact ⟨rfl, rfl⟩
theorem later_nil (n : Int) (w : World) : Calls Try.prog 13 #[.pointer none, .int .i64 n] w fun e w' => e = .returned (.tuple #[]) ∧ w = w' := by
  go_enter Try.func13, Try.ntmps13
  go_wp2
  go_returns
  exact ⟨rfl, rfl⟩
theorem nb_of (n : Int) : nb n = if tm n ≤ 1073741824 then tm n else 1073741824 := by
  unfold nb tm bring
  split <;> split <;> (try split) <;> (try split) <;> omega
theorem At.setLater {w : World} {b N : Nat} {v : Value} {s : St} (h : At w b v s N) (x : Int) (hx : 0 ≤ x ∧ x ≤ 1073741824) :
    At (w.setCell ⟨b + 2, 3, none⟩ (.int .i64 x)) b v ⟨s.ls, s.ef, x⟩ N ∧ Frm (fun k => k = b + 2) w (w.setCell ⟨b + 2, 3, none⟩ (.int .i64 x)) := by
  have hF := (Frm.refl (fun k => k = b + 2) w).set1 3 (.int .i64 x)
  refine ⟨⟨?_, h.lm.frm hF (by omega), h.dm.frm hF (by omega), owns_frm h.row hF (fun g hg e => by have := h.own g hg; omega), hx⟩, hF⟩
  have := Bk.set h.blk 3 (.int .i64 x)
  simpa using this
theorem later_any {w : World} {b N : Nat} {v : Value} {s : St} (n : Int) (h : At w b v s N) : Calls Try.prog 13 #[.pointer (some ⟨b + 2, 0, none⟩), .int .i64 n] w fun e w' => e = .returned (.tuple #[]) ∧ At w' b v ⟨s.ls, s.ef, nb n⟩ N ∧ Frm (fun k => k = b + 2) w w' := by
  have c3 := (Bk.c4 h.blk).2.2.2
  have f3 := Bk.frozen h.blk 3
  have hnb := nb_of n
  have htb := tm_bd n
  have HT := Lib.hid (fun w => time_any n w)
  have HA := Lib.hid h
  clear h
  generalize tm n = m at *
  generalize nb n = q at *
  go_enter Try.func13, Try.ntmps13
  have HNB := Lib.hid hnb
  clear hnb
  go_wp2_with fail
  refine (HT.out _).mono ?_
  rintro e w1 ⟨rfl, rfl⟩
  go_wp2_with fail
  · go_returns
    have hq := HNB.out
    rw [if_neg (by omega)] at hq
    subst hq
    exact ⟨rfl, HA.out.setLater _ (by omega)⟩
  · go_returns
    have hq := HNB.out
    rw [if_pos (by omega)] at hq
    subst hq
    exact ⟨rfl, HA.out.setLater _ (by omega)⟩
theorem seen_nil (t : Int) (k : ByteArray) (e : Int) (w : World) : Calls Try.prog 20 #[.pointer none, .int .i64 t, .string k, .int .i64 e] w fun e w' => e = .returned (.tuple #[.int .i64 0, .bool false]) ∧ w = w' := by
  go_enter Try.func20, Try.ntmps20
  go_wp2
  go_returns
  exact ⟨rfl, rfl⟩
def seenV : Option (Int × Bool) → Int × Bool
  | none => (0, false)
  | some (tok, _) => (tok, true)
theorem seen_any {w : World} {b N : Nat} {v : Value} {s : St} {t : Int} {k : ByteArray} {e : Int} (hk : Kok t k e) (h : At w b v s N) {x : Int × Bool} (hx : seenV (find s.ls t k e) = x) :
    Calls Try.prog 20 #[.pointer (some ⟨b + 2, 0, none⟩), .int .i64 t, .string k, .int .i64 e] w fun e w' => e = .returned (.tuple #[.int .i64 x.1, .bool x.2]) ∧ Frm0 w w' := by
  have c0 := (Bk.c4 h.blk).1
  obtain ⟨tok, sp, ok, hl, hv⟩ : ∃ tok sp ok, (Instr.lookup 101 (.map (some b)) (.agg #[.int .i64 t, .string k, .int .i64 e]) true).run Try.prog w = .ok (.tuple #[.agg #[.int .i64 tok, .bool sp], .bool ok]) w ∧ x = (tok, ok) := by
    cases hf : find s.ls t k e with
    | none => exact ⟨_, _, _, h.lm.no hk hf, by rw [← hx, hf]; rfl⟩
    | some y => exact ⟨_, _, _, h.lm.yes (tok := y.1) (sp := y.2) hk hf, by rw [← hx, hf]; rfl⟩
  subst hv
  clear hx h
  go_enter Try.func20, Try.ntmps20
  go_wp2
  go_returns
  exact ⟨rfl, ((Frm.refl _ w).alloc _)⟩
end Bk25
end Go.Proofs.Yteokiiolchpndaa
