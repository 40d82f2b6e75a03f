/- The words that the walks of this seat share: frames between worlds, blocks known whole, slices that are read. Plain lemmas, no program in sight. -/
import Derived.WalkKit
import Derived.WalkLawsBesides
import Derived.WalkSpells
import Derived.WalkSmall
import Derived.Below
import Derived.BigQuiet
import Derived.Deep.QuietTactic
import Derived.BigRegion
import Derived.ChangeAlike
import Derived.Outline
import Derived.OwnWalk
import Derived.Lib.Hide
import Derived.Deep.DeepFit
import Derived.Laws.ResultCell
import Derived.Laws.StructEq
import Derived.Laws.AppendOwn
import Derived.Laws.AppendOwnNone
import Derived.Maps.AppendAt
import Derived.Handy
import Derived.StillTailTactics
namespace Go.Proofs.Ythggbohoedfkpaa
open Go.RowKit
set_option linter.unusedVariables false
set_option linter.unusedSimpArgs false

/-- But for the blocks of S all that was there is as it was. -/
structure Frm (S : Nat → Prop) (w w' : World) : Prop where
  os : w'.os = w.os
  tape : w'.tape = w.tape
  output : w'.output = w.output
  size : w.heap.size ≤ w'.heap.size
  block : ∀ k, k < w.heap.size → ¬ S k → w'.heap[k]? = w.heap[k]?

/-- Nothing that was there has turned. -/
abbrev Frm0 (w w' : World) : Prop := Frm (fun _ => False) w w'

section
variable {S T : Nat → Prop} {w w1 w2 : World}
theorem Frm.refl (S : Nat → Prop) (w : World) : Frm S w w := ⟨rfl, rfl, rfl, Nat.le_refl _, fun _ _ _ => rfl⟩
theorem Frm.then_ (h : Frm S w w1) (k : Frm T w1 w2) (hs : ∀ i, i < w.heap.size → T i → S i) : Frm S w w2 :=
  ⟨k.os.trans h.os, k.tape.trans h.tape, k.output.trans h.output, Nat.le_trans h.size k.size,
    fun i hi hn => (k.block i (Nat.lt_of_lt_of_le hi h.size) (fun ht => hn (hs i hi ht))).trans (h.block i hi hn)⟩
theorem Frm.trans (h : Frm S w w1) (k : Frm S w1 w2) : Frm S w w2 := h.then_ k (fun _ _ h => h)
theorem Frm.then0 (h : Frm S w w1) (k : Frm0 w1 w2) : Frm S w w2 := h.then_ k (fun _ _ h => h.elim)
theorem Frm.mono (h : Frm S w w1) (hs : ∀ i, i < w.heap.size → S i → T i) : Frm T w w1 :=
  ⟨h.os, h.tape, h.output, h.size, fun i hi hn => h.block i hi (fun hk => hn (hs i hi hk))⟩
theorem Frm.of0 (h : Frm0 w w1) : Frm S w w1 := h.mono (fun _ _ h => h.elim)
theorem Frm.below (h : Frm S w w1) (hs : ∀ i, i < w.heap.size → ¬ S i) : Below w.heap.size w w1 := ⟨h.os, h.tape, h.output, h.size, fun k hk => h.block k hk (hs k hk)⟩
theorem Frm.to0 (h : Frm S w w1) (hs : ∀ i, i < w.heap.size → ¬ S i) : Frm0 w w1 := h.mono (fun i hi h => (hs i hi h).elim)
theorem Frm.of_below (h : Below w.heap.size w w1) : Frm S w w1 := ⟨h.os, h.tape, h.output, h.size, fun k hk _ => h.block k hk⟩
theorem Frm.drewN (h : Frm S w w1) (n : Nat) : Frm S w (w1.drewN n) := ⟨h.os, h.tape, h.output, h.size, h.block⟩
theorem Frm.drew (h : Frm S w w1) : Frm S w w1.drew := ⟨h.os, h.tape, h.output, h.size, h.block⟩
theorem Frm.alloc (h : Frm S w w1) (o : Obj) : Frm S w (w1.alloc o) :=
  h.then0 ⟨rfl, rfl, rfl, by simp, fun k hk _ => Below.heap_alloc _ _ _ hk⟩
theorem Frm.setCell (h : Frm S w w1) (p : Addr) (hp : p.block < w.heap.size → S p.block) (u : Value) : Frm S w (w1.setCell p u) :=
  h.then_ (T := fun k => k = p.block) ⟨rfl, rfl, rfl, by simp [World.setCell], fun k _ hk => Below.heap_setCell _ _ _ _ hk⟩ (fun i hi e => by subst e; exact hp hi)
theorem Frm.set1 {b : Nat} (h : Frm (fun k => k = b) w w1) (i : Nat) (u : Value) : Frm (fun k => k = b) w (w1.setCell ⟨b, i, none⟩ u) := h.setCell ⟨b, i, none⟩ (fun _ => rfl) u
theorem Frm.grown {row : Option Nat} (h : Frm S w w1) (hg : w1.grownBy w2 row) (hr : ∀ k, row = some k → k < w.heap.size → S k) : Frm S w w2 :=
  h.then_ (T := fun k => row = some k) ⟨hg.os, hg.tape, hg.output, hg.size, fun k hk hn => hg.block k hk (fun e => hn e.symm)⟩ (fun i hi e => hr i e hi)
theorem Frm.blk (h : Frm S w w1) {g : Nat} {o : Obj} (hb : w.heap[g]? = some o) (hs : ¬ S g) : w1.heap[g]? = some o :=
  (h.block g (Array.getElem?_eq_some_iff.1 hb).1 hs).trans hb
theorem Frm.cell (h : Frm S w w1) {a : Addr} {v : Value} (hc : w.cell? a = some v) (hs : ¬ S a.block) : w1.cell? a = some v :=
  (World.cell?_of_block (h.block a.block (World.block_lt_of_cell? w a hc) hs)).trans hc
end

/-! Blocks known whole. -/
section
variable {w w1 : World} {g : Nat} {cs : Array Value} {t : TypeId} {o : Obj}
theorem Bk.lt (h : w.heap[g]? = some o) : g < w.heap.size := (Array.getElem?_eq_some_iff.1 h).1
theorem Bk.cell (h : w.heap[g]? = some (.cells cs t (0, 0))) (i : Nat) : w.cell? ⟨g, i, none⟩ = cs[i]? := by simp [World.cell?, h]
theorem Bk.frozen (h : w.heap[g]? = some (.cells cs t (0, 0))) (i : Nat) : w.frozen? ⟨g, i, none⟩ = false := by simp [World.frozen?, h]
theorem Bk.set (h : w.heap[g]? = some (.cells cs t (0, 0))) (i : Nat) (u : Value) : (w.setCell ⟨g, i, none⟩ u).heap[g]? = some (.cells (cs.setIfInBounds i u) t (0, 0)) := by
  simp [World.setCell, Array.getElem?_modify, h]
theorem Bk.far (h : w.heap[g]? = some o) {p : Addr} (hp : g ≠ p.block) (u : Value) : (w.setCell p u).heap[g]? = some o := by
  rw [Below.heap_setCell _ _ _ _ hp]; exact h
theorem Bk.new (w : World) (o : Obj) : (w.alloc o).heap[w.heap.size]? = some o := heap_alloc_new w o
theorem Bk.alloc (h : w.heap[g]? = some o) (o' : Obj) : (w.alloc o').heap[g]? = some o := (Below.heap_alloc w o' g (Bk.lt h)).trans h
theorem Bk.drew (h : w.heap[g]? = some o) : w.drew.heap[g]? = some o := h
theorem Bk.drewN (h : w.heap[g]? = some o) (n : Nat) : (w.drewN n).heap[g]? = some o := h
end

theorem str_inj {a b : ByteArray} (h : a.toList = b.toList) : a = b := by
  rw [ByteArray.toList_eq, ByteArray.toList_eq] at h
  obtain ⟨⟨x⟩⟩ := a
  obtain ⟨⟨y⟩⟩ := b
  simp at h
  subst h
  rfl
theorem str_ne {a b : ByteArray} (h : a ≠ b) : (a.toList == b.toList) = false := beq_eq_false_iff_ne.2 (fun e => h (str_inj e))
theorem str_eq {a b : ByteArray} (h : a = b) : (a.toList == b.toList) = true := by subst h; exact beq_iff_eq.2 rfl
theorem ret_int {k : IntKind} {a b : Int} (h : a = b) : Ending.returned (.int k a) = .returned (.int k b) := by rw [h]
theorem ret_bool {a b : Bool} (h : a = b) : Ending.returned (.bool a) = .returned (.bool b) := by rw [h]

/-- A slice that is read: its value, how many elements, its cells. -/
def Sl (w : World) (v : Value) (n : Nat) (cs : List Value) : Prop :=
  (∃ A c, v = .slice A 0 c ∧ n = 0 ∧ cs = []) ∨ ∃ b o c, v = .slice (some ⟨b, o, none⟩) n c ∧ 0 < n ∧ n ≤ c ∧ c ≤ maxLen ∧ b < w.heap.size ∧ ∀ j u, cs[j]? = some u → w.cell? ⟨b, o + j, none⟩ = some u

theorem add_none (b o j : Nat) : (⟨b, o, none⟩ : Addr).add j = ⟨b, o + j, none⟩ := by unfold Addr.add; split <;> simp_all

section
variable {S : Nat → Prop} {w w1 : World} {v : Value} {n : Nat} {cs : List Value}
theorem Sl.nil (w : World) : Sl w (.slice none 0 0) 0 [] := .inl ⟨_, _, rfl, rfl, rfl⟩
theorem Sl.frm (h : Sl w v n cs) (hf : Frm S w w1) (hs : ∀ k, k < w.heap.size → v.ownBlock = some k → ¬ S k) : Sl w1 v n cs := by
  rcases h with h | ⟨b, o, c, rfl, h0, h1, h2, h3, h4⟩
  · exact .inl h
  · exact .inr ⟨b, o, c, rfl, h0, h1, h2, Nat.lt_of_lt_of_le h3 hf.size, fun j u hu => hf.cell (h4 j u hu) (hs b h3 rfl)⟩
theorem Sl.frm0 (h : Sl w v n cs) (hf : Frm0 w w1) : Sl w1 v n cs := h.frm hf (fun _ _ _ h => h)
theorem Sl.len (h : Sl w v n cs) : n ≤ 9223372036854775807 := by
  rcases h with ⟨A, c, _, rfl, _⟩ | ⟨b, o, c, rfl, h0, h1, h2, h3, h4⟩
  · omega
  · unfold maxLen at h2; omega
theorem Sl.form (h : Sl w v n cs) : ∃ A c, v = .slice A n c := by
  rcases h with ⟨A, c, rfl, rfl, _⟩ | ⟨b, o, c, rfl, h0, h1, h2, h3, h4⟩
  · exact ⟨_, _, rfl⟩
  · exact ⟨_, _, rfl⟩
theorem Sl.take1 {b o c : Nat} (h : Sl w (.slice (some ⟨b, o, none⟩) n c) n cs) (k : Nat) (hk : k ≤ n) : Sl w (.slice (some ⟨b, o, none⟩) k c) k (cs.take k) := by
  by_cases hk0 : k = 0
  · subst hk0; exact .inl ⟨_, _, rfl, rfl, by simp⟩
  rcases h with ⟨_, _, h, h', _⟩ | ⟨b', o', c', h, h0, h1, h2, h3, h4⟩
  · omega
  · cases h
    refine .inr ⟨b, o, c, rfl, by omega, Nat.le_trans hk h1, h2, h3, fun j u hu => ?_⟩
    rw [List.getElem?_take] at hu
    split at hu
    · exact h4 j u hu
    · cases hu
theorem Sl.drop1 {b o c : Nat} (h : Sl w (.slice (some ⟨b, o, none⟩) n c) n cs) (k : Nat) (hk : k ≤ n) (hl : cs.length = n) : Sl w (.slice (if c = k then some ⟨b, o, none⟩ else some ⟨b, o + k, none⟩) (n - k) (c - k)) (n - k) (cs.drop k) := by
  by_cases hkn : k = n
  · rw [show n - k = 0 by omega]
    exact .inl ⟨_, _, rfl, rfl, List.drop_eq_nil_of_le (by omega)⟩
  rcases h with ⟨_, _, h, h', _⟩ | ⟨b', o', c', h, h0, h1, h2, h3, h4⟩
  · omega
  · cases h
    rw [if_neg (by omega)]
    refine .inr ⟨b, o + k, c - k, rfl, by omega, by omega, by omega, h3, fun j u hu => ?_⟩
    rw [List.getElem?_drop] at hu
    rw [Nat.add_assoc]
    exact h4 _ u hu
theorem Sl.of_own {base : Nat} {e : TypeId} {size : Nat} (h : w.ownsRow base e size v n cs) : Sl w v n cs := by
  by_cases hn0 : n = 0
  · have hcs : cs = [] := List.eq_nil_of_length_eq_zero (by have := h.1; simp_all)
    subst hn0 hcs
    rcases h.2 with ⟨rfl, _⟩ | ⟨g, cap, cur, rfl, _⟩
    · exact .inl ⟨_, _, rfl, rfl, rfl⟩
    · exact .inl ⟨_, _, rfl, rfl, rfl⟩
  rcases h.2 with ⟨rfl, rfl⟩ | ⟨g, cap, cur, rfl, hb, hg, hn, hc, hsz, ht⟩
  · exact absurd rfl hn0
  · refine .inr ⟨g, 0, cap, rfl, by omega, hn, hc, Bk.lt hg, fun j u hu => ?_⟩
    rw [Nat.zero_add, Bk.cell hg]
    rw [← ht, List.getElem?_take] at hu
    split at hu
    · simpa using hu
    · cases hu
end

/-! Appends: onto a row of the call's own, from whatever slice can be read. -/
/-- What is to be known of a slice's type t with elements of type e: the element's zero, its cells, its bytes. -/
structure Elt (P : Program) (t e : TypeId) (z : Value) (size bytes : Nat) : Prop where
  und : P.underlying t = some (.slice e)
  info : ∃ i, P.info? e = some i ∧ i.zero = some z ∧ i.size = size ∧ i.bytes = bytes
  zs : z.cells.size = size
  pos : 0 < size

theorem Elt.mk' {P : Program} {t e : TypeId} {z : Value} {size bytes : Nat} (und : P.underlying t = some (.slice e)) (info : (P.info? e).map (fun i => (i.zero, i.size, i.bytes)) = some (some z, size, bytes)) (zs : z.cells.size = size) (pos : 0 < size) : Elt P t e z size bytes := by
  obtain ⟨i, h1, h2, h3, h4⟩ := info_parts info
  exact ⟨und, ⟨i, h1, h2, h3, h4⟩, zs, pos⟩

section
variable {P : Program} {w : World} {t e : TypeId} {z : Value} {size bytes : Nat}
theorem Sl.new (w : World) (cs : Array Value) (e : TypeId) (n : Nat) (hn : n ≤ maxLen) (h0 : 0 < n) : Sl (w.alloc (.cells cs e)) (.slice (some ⟨w.heap.size, 0, none⟩) n n) n cs.toList :=
  .inr ⟨w.heap.size, 0, n, rfl, h0, Nat.le_refl _, hn, by simp, fun j u hu => by rw [Bk.cell (Bk.new w _), Nat.zero_add]; simpa using hu⟩

theorem run_append_sl (E : Elt P t e z size bytes) (ty : TypeId) (base : Nat) {v u : Value} {n m : Nat} {xs cs : List Value} (hown : w.ownsRow base e size v n xs)
    (hsl : Sl w u m cs) (hl : cs.length = m * size) (h1 : ∀ c ∈ cs, c.oneCell' = true) (h63 : n + m ≤ maxLen) (hbytes : (n + m) * bytes ≤ 140737488355328) (hbase : base ≤ w.heap.size) :
    ∃ v' w', (Builtin.append_ #[t, t] ty #[v, u]).run P w = .ok v' w' ∧ w'.ownsRow base e size v' (n + m) (xs ++ cs) ∧ Frm (fun k => v.ownBlock = some k) w w' ∧
      (v'.ownBlock = v.ownBlock ∨ v'.ownBlock = some w.heap.size) := by
  obtain ⟨i, hi, hz, hsize, hby⟩ := E.info
  rcases hsl with ⟨A, c, rfl, rfl, rfl⟩ | ⟨b, o, c, rfl, h0, h2, h3, h4, h5⟩
  · have hz2 := hsize
    rcases hown.2 with ⟨rfl, rfl⟩ | ⟨g, cap, cur, rfl, hbg, hg, hnc, hcm, hcs, htake⟩
    · refine ⟨_, w, ?_, ?_, Frm.refl _ _, .inl rfl⟩
      · cases A <;> simp [Builtin.append_, run_underlying E.und, sizeOf, typeInfo, hi, Builtin.lenOf, Builtin.firstCells, loadCells, loadCellsFrom]
      · have : xs = [] := List.eq_nil_of_length_eq_zero (by simpa using hown.1)
        subst this
        exact World.ownsRow_nil w base e size
    · refine ⟨_, w, ?_, ?_, Frm.refl _ _, .inl rfl⟩
      · cases A <;> simp [Builtin.append_, run_underlying E.und, sizeOf, typeInfo, hi, Builtin.lenOf, Builtin.firstCells, loadCells, loadCellsFrom, hnc, storeCells]
      · rw [List.append_nil]; exact hown
  · obtain ⟨v', w', hr, ho, hg, _, ha⟩ := run_append_own_at (P := P) w base t ty e i z size bytes E.und hi hz hsize hby E.zs E.pos v n xs hown ⟨b, o, none⟩ m c cs hl (fun j u hu => by rw [add_none]; exact h5 j u hu) h1 h63 hbytes hbase
    exact ⟨v', w', hr, ho, ((Frm.refl (fun k => v.ownBlock = some k) w).grown hg (fun k hk _ => hk)), ha⟩

theorem wpList_append_sl {ops : Array Oper} {rest : List Oper} {o : Oper} {a : Act} {Q : Exit → Act → World → Prop} (hgd : o.guard = none) (s x : Operand)
    (ho : o.op = .call { callee := .builtin .append, args := #[s, x], argTypes := #[t, t] }) (E : Elt P t e z size bytes) (base : Nat) (v u : Value) (n m : Nat) (xs cs : List Value)
    (hs : a.eval s = v) (hx : a.eval x = u) (hown : w.ownsRow base e size v n xs)
    (hsl : Sl w u m cs) (hl : cs.length = m * size) (h1 : ∀ c ∈ cs, c.oneCell' = true) (h63 : n + m ≤ maxLen) (hbytes : (n + m) * bytes ≤ 140737488355328) (hbase : base ≤ w.heap.size)
    (h : ∀ v' w', w'.ownsRow base e size v' (n + m) (xs ++ cs) → Frm (fun k => v.ownBlock = some k) w w' → (v'.ownBlock = v.ownBlock ∨ v'.ownBlock = some w.heap.size) → wpList P ops Q rest (a.put o.dst v') w') : wpList P ops Q (o :: rest) a w := by
  refine wpList_plain hgd fun K hK => ?_
  obtain ⟨v', w', hr, h2, h3, h4⟩ := run_append_sl E o.type base hown hsl hl h1 h63 hbytes hbase
  unfold Oper.wp execOp
  simp only [ho, resolve, invoke, builtin, Sem.run_bind, Sem.run_pure, Result.andThen_ok, List.map_toArray, List.map_cons, List.map_nil, hs, hx, hr]
  exact hK _ _ (h v' w' h2 h3 h4)
end

/-- A region that draws its order, of whose operations all but the last few read: the world behind the draw by its short name. -/
theorem st_tail {P : Program} {id : Nat} {Q : Exit → Act → World → Prop} {a : Act} {w : World} {l : List Oper} (n : Nat) (hm : P.follows .mixedOrders = true) (hB : Region.lexTailB .any l.toArray n = true)
    (h : wpStill P l.toArray w.drew (fun a' => wpList P l.toArray Q (l.drop n) a' w.drew) (l.take n) a) : (Code.region id l.toArray true).wp P Q a w := wp_region_still_tail n hm hB h
end Go.Proofs.Ythggbohoedfkpaa
