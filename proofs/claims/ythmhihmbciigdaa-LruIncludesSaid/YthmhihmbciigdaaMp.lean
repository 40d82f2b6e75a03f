/- Maps of whatever values, read key by key. -/
import Derived.Test.YthmhihmbciigdaaL
import Derived.Maps.OwnSet
namespace Go.Proofs.Ythmhihmbciigdaa
open Go.RowKit Go.Maps
set_option linter.unusedVariables false
set_option linter.unusedSimpArgs false

/-- A map's element, as it is. -/
def anyV (v : Value) : Option (DataW Value × List MemPlace) := some (.held v, [])
def seen (x : Option Value) : DataW Value := match x with | some v => .held v | none => .nil
/-- Block b is a map of sz entries (n: a bound on them), f what it holds. -/
def Mp (P : Program) (k : TypeId) (w : World) (b sz n : Nat) (f : Lit → Option Value) : Prop :=
  ∃ D : DataW Value, w.ownsMap P k anyV b n D ∧ Maps.size D = sz ∧ ∀ kl, WideAt.IsKeyLit kl → D.atKey kl .nil = seen (f kl) ∧ Maps.has D kl = (f kl).isSome
section
variable {P : Program} {k e t : TypeId} {w w1 : World} {b sz n : Nat} {f : Lit → Option Value} {S : Nat → Prop}
theorem Mp.lt (h : Mp P k w b sz n f) : b < w.heap.size := by obtain ⟨D, h1, _⟩ := h; exact h1.lt
theorem Mp.frm (h : Mp P k w b sz n f) (hf : Frm S w w1) (hs : ¬ S b) : Mp P k w1 b sz n f := by
  obtain ⟨D, ⟨es, clock, hb, F, hsz, hD⟩, h2⟩ := h
  exact ⟨D, ⟨es, clock, hf.blk hb hs, F, hsz, hD⟩, h2⟩
theorem Mp.frm0 (h : Mp P k w b sz n f) (hf : Frm0 w w1) : Mp P k w1 b sz n f := h.frm hf (fun h => h)
theorem Mp.le (h : Mp P k w b sz n f) : sz ≤ n := by obtain ⟨D, h1, rfl, _⟩ := h; exact h1.size_le
theorem Mp.new (w : World) (P : Program) (k : TypeId) : Mp P k (w.alloc (.map #[] 0)) w.heap.size 0 0 (fun _ => none) :=
  ⟨.map [], World.ownsMap_made w P k anyV, rfl, fun kl _ => ⟨rfl, rfl⟩⟩
theorem Mp.look (h : Mp P k w b sz n f) (K : Keyed P k) (ht : P.underlying t = some (.map k e)) {z : Value} (hz : ∀ w, (zeroValue e).run P w = .ok z w) {key : Value} {kl : Lit} (hkey : keyOf P k key = some kl) (c : Bool) :
    (Instr.lookup t (.map (some b)) key c).run P w = .ok (match f kl with | some v => if c then .tuple #[v, .bool true] else v | none => if c then .tuple #[z, .bool false] else z) w := by
  obtain ⟨D, ⟨es, clock, hb, F, _, rfl⟩, _, hat⟩ := h
  have h2 := (hat kl (K.key hkey)).1
  rcases Maps.fit_look c K ht (hz w) hb F hkey with ⟨hrun, _, h3⟩ | ⟨e0, y, _, _, hrun, hRv, h3, _⟩
  · rw [h3] at h2
    cases hf : f kl with
    | none => exact hrun
    | some v => rw [hf] at h2; simp [seen] at h2
  · rw [h3] at h2
    simp only [anyV, Option.some.injEq] at hRv
    subst hRv
    cases hf : f kl with
    | none => rw [hf] at h2; simp [seen] at h2
    | some v =>
      rw [hf] at h2
      simp only [seen, DataW.held.injEq] at h2
      subst h2
      exact hrun
theorem Mp.look_yes (h : Mp P k w b sz n f) (K : Keyed P k) (ht : P.underlying t = some (.map k e)) {z : Value} (hz : ∀ w, (zeroValue e).run P w = .ok z w) {key v : Value} {kl : Lit} (hkey : keyOf P k key = some kl) (hf : f kl = some v) :
    (Instr.lookup t (.map (some b)) key false).run P w = .ok v w := by
  have := h.look K ht hz hkey false
  rw [hf] at this
  exact this
theorem Mp.look_no (h : Mp P k w b sz n f) (K : Keyed P k) (ht : P.underlying t = some (.map k e)) {z : Value} (hz : ∀ w, (zeroValue e).run P w = .ok z w) {key : Value} {kl : Lit} (hkey : keyOf P k key = some kl) (hf : f kl = none) :
    (Instr.lookup t (.map (some b)) key false).run P w = .ok z w := by
  have := h.look K ht hz hkey false
  rw [hf] at this
  exact this
theorem Mp.ok_yes (h : Mp P k w b sz n f) (K : Keyed P k) (ht : P.underlying t = some (.map k e)) {z : Value} (hz : ∀ w, (zeroValue e).run P w = .ok z w) {key v : Value} {kl : Lit} (hkey : keyOf P k key = some kl) (hf : f kl = some v) :
    (Instr.lookup t (.map (some b)) key true).run P w = .ok (.tuple #[v, .bool true]) w := by
  have := h.look K ht hz hkey true
  rw [hf] at this
  exact this
theorem Mp.ok_no (h : Mp P k w b sz n f) (K : Keyed P k) (ht : P.underlying t = some (.map k e)) {z : Value} (hz : ∀ w, (zeroValue e).run P w = .ok z w) {key : Value} {kl : Lit} (hkey : keyOf P k key = some kl) (hf : f kl = none) :
    (Instr.lookup t (.map (some b)) key true).run P w = .ok (.tuple #[z, .bool false]) w := by
  have := h.look K ht hz hkey true
  rw [hf] at this
  exact this
theorem Mp.len (h : Mp P k w b sz n f) (ht : P.underlying t = some (.map k e)) (ty : TypeId) : (Builtin.len_ #[t] ty #[.map (some b)]).run P w = .ok (.int .i64 sz) w := by
  obtain ⟨D, h1, rfl, _⟩ := h
  exact h1.len ht ty
open Classical in
/-- With one more, or another one. -/
noncomputable def upd (f : Lit → Option Value) (kl : Lit) (v : Option Value) : Lit → Option Value := fun l => if l = kl then v else f l
theorem Mp.put (h : Mp P k w b sz n f) (K : Keyed P k) (ht : P.underlying t = some (.map k e)) (hn : n < maxLen) {key val : Value} {kl : Lit} (hkey : keyOf P k key = some kl) :
    ∃ w', (Instr.mapUpdate t (.map (some b)) key val).run P w = .ok () w' ∧ Mp P k w' b (if (f kl).isSome then sz else sz + 1) (n + 1) (upd f kl (some val)) ∧ Frm (fun k => k = b) w w' := by
  obtain ⟨D, h1, rfl, h3⟩ := h
  obtain ⟨w', hrun, ho, hg⟩ := h1.update K ht hn hkey (show anyV val = some (.held val, []) from rfl)
  have hk := K.key hkey
  have ht2 := h1.tidy K
  refine ⟨w', hrun, ⟨D.put kl (.held val), ho, ?_, fun l hl => ?_⟩, (Frm.refl (fun k => k = b) w).grown hg (fun k hk _ => (Option.some.inj hk).symm)⟩
  · rw [Maps.size_put ht2, (h3 kl hk).2]
  · unfold upd
    by_cases e : l = kl
    · subst e
      rw [if_pos rfl, Maps.atKey_put_same ht2.isMap hk, Maps.has_put_same ht2.isMap hk]
      exact ⟨rfl, rfl⟩
    · rw [if_neg e, Maps.atKey_put_other e, Maps.has_put_other e]
      exact h3 l hl
theorem Mp.drop (h : Mp P k w b sz n f) (K : Keyed P k) (ht : P.underlying t = some (.map k e)) {key : Value} {kl : Lit} (hkey : keyOf P k key = some kl) (ty : TypeId) :
    ∃ w', (Builtin.delete_ #[t, k] ty #[.map (some b), key]).run P w = .ok (.tuple #[]) w' ∧ Mp P k w' b (if (f kl).isSome then sz - 1 else sz) n (upd f kl none) ∧ Frm (fun k => k = b) w w' := by
  obtain ⟨D, h1, rfl, h3⟩ := h
  obtain ⟨w', hrun, ho, hg⟩ := h1.drop K ht hkey ty
  have hk := K.key hkey
  have ht2 := h1.tidy K
  refine ⟨w', hrun, ⟨D.del kl, ho, ?_, fun l hl => ?_⟩, (Frm.refl (fun k => k = b) w).grown hg.grown (fun k hk _ => (Option.some.inj hk).symm)⟩
  · have := Maps.size_del ht2 (k := kl)
    rw [(h3 kl hk).2] at this
    split <;> simp_all
    omega
  · unfold upd
    by_cases e : l = kl
    · subst e
      rw [if_pos rfl, Maps.atKey_del_same, Maps.has_del_same]
      exact ⟨rfl, rfl⟩
    · rw [if_neg e, Maps.atKey_del_other e, Maps.has_del_other e]
      exact h3 l hl
theorem wpList_put {ops : Array Oper} {rest : List Oper} {o : Oper} {a : Act} {Q : Exit → Act → World → Prop} (hg : o.guard = none) (m x v : Operand) (hop : o.op = Op.mapUpdate t m x v)
    (h : Mp P k w b sz n f) (K : Keyed P k) (ht : P.underlying t = some (.map k e)) (hn : n < maxLen) (key val : Value) (kl : Lit) (hm : a.eval m = .map (some b)) (hx : a.eval x = key) (hv : a.eval v = val) (hkey : keyOf P k key = some kl)
    (hK : ∀ w', Mp P k w' b (if (f kl).isSome then sz else sz + 1) (n + 1) (upd f kl (some val)) → Frm (fun k => k = b) w w' → wpList P ops Q rest (a.put o.dst undef) w') : wpList P ops Q (o :: rest) a w := by
  refine wpList_plain hg fun K' hK' => ?_
  obtain ⟨w', hrun, r1, r2⟩ := h.put (val := val) K ht hn hkey
  unfold Oper.wp
  simp [execOp, hop, hm, hx, hv, hrun, Result.andThen]
  exact hK' _ _ (hK w' r1 r2)
theorem wpList_drop {ops : Array Oper} {rest : List Oper} {o : Oper} {a : Act} {Q : Exit → Act → World → Prop} (hg : o.guard = none) (m x : Operand) (hop : o.op = Op.call { callee := Callee.builtin Builtin.delete, args := #[m, x], argTypes := #[t, k] })
    (h : Mp P k w b sz n f) (K : Keyed P k) (ht : P.underlying t = some (.map k e)) (key : Value) (kl : Lit) (hm : a.eval m = .map (some b)) (hx : a.eval x = key) (hkey : keyOf P k key = some kl)
    (hK : ∀ w', Mp P k w' b (if (f kl).isSome then sz - 1 else sz) n (upd f kl none) → Frm (fun k => k = b) w w' → wpList P ops Q rest (a.put o.dst (.tuple #[])) w') : wpList P ops Q (o :: rest) a w := by
  refine wpList_plain hg fun K' hK' => ?_
  obtain ⟨w', hrun, r1, r2⟩ := h.drop K ht hkey o.type
  unfold Oper.wp
  simp [execOp, hop, resolve, invoke, builtin, hm, hx, hrun, Result.andThen]
  exact hK' _ _ (hK w' r1 r2)
end
end Go.Proofs.Ythmhihmbciigdaa
