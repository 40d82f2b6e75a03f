/- More shared words: rows of the call's own, appends in regions that draw their order, rows of strings and numbers. -/
import Derived.Test.YthggbohoedfkpaaProg
import Derived.Test.YthggbohoedfkpaaL
import Derived.Deep.RegionHeld3
import Derived.Deep.RegionLaw
import Derived.Deep.AppendLies
import Derived.Deep.CutRange
namespace Go.Proofs.Ythggbohoedfkpaa
open Go.RowKit
set_option linter.unusedVariables false
set_option linter.unusedSimpArgs false

theorem Bk.grown {w w' : World} {g : Nat} {o : Obj} {row : Option Nat} (h : w.heap[g]? = some o) (hg : w.grownBy w' row) (hne : row ≠ some g) : w'.heap[g]? = some o :=
  (hg.block g (Bk.lt h) (fun e => hne e.symm)).trans h
theorem owns_frm {w w' : World} {base : Nat} {e : TypeId} {size : Nat} {v : Value} {n : Nat} {xs : List Value} {S : Nat → Prop} (h : w.ownsRow base e size v n xs) (hf : Frm S w w') (hs : ∀ g, v.ownBlock = some g → ¬ S g) : w'.ownsRow base e size v n xs := by
  refine ⟨h.1, ?_⟩
  rcases h.2 with h | ⟨g, cap, cur, rfl, hb, hg, hr⟩
  · exact .inl h
  · exact .inr ⟨g, cap, cur, rfl, hb, hf.blk hg (hs g rfl), hr⟩
theorem owns_frm0 {w w' : World} {base : Nat} {e : TypeId} {size : Nat} {v : Value} {n : Nat} {xs : List Value} (h : w.ownsRow base e size v n xs) (hf : Frm0 w w') : w'.ownsRow base e size v n xs := owns_frm h hf (fun _ _ h => h)
theorem owns_base {w : World} {base b' : Nat} {e : TypeId} {size : Nat} {v : Value} {n : Nat} {xs : List Value} (h : w.ownsRow base e size v n xs) (hb : b' ≤ base) : w.ownsRow b' e size v n xs := by
  refine ⟨h.1, ?_⟩
  rcases h.2 with h | ⟨g, cap, cur, rfl, hg, hr⟩
  · exact .inl h
  · exact .inr ⟨g, cap, cur, rfl, Nat.le_trans hb hg, hr⟩
theorem owns_form {w : World} {base : Nat} {e : TypeId} {size : Nat} {v : Value} {n : Nat} {xs : List Value} (h : w.ownsRow base e size v (n + 1) xs) : ∃ g cap, v = .slice (some ⟨g, 0, none⟩) (n + 1) cap := by
  rcases h.2 with ⟨_, h⟩ | ⟨g, cap, cur, rfl, _⟩
  · omega
  · exact ⟨g, cap, rfl⟩
theorem cell_al {w : World} {a : Addr} {v : Value} {o : Obj} (h : w.cell? a = some v) : (w.alloc o).cell? a = some v := ((Frm.refl (fun _ => False) w).alloc o).cell h (fun h => h)
theorem cell_gr {w w' : World} {a : Addr} {v : Value} {row : Option Nat} (h : w.cell? a = some v) (hg : w.grownBy w' row) (hne : row ≠ some a.block) : w'.cell? a = some v :=
  (World.cell?_of_block (hg.block a.block (World.block_lt_of_cell? w a h) (fun e => hne e.symm))).trans h
theorem new_second (w : World) (o1 o2 : Obj) : ((w.alloc o1).alloc o2).heap[w.heap.size + 1]? = some o2 := by
  have h := Bk.new (w.alloc o1) o2
  rwa [show (w.alloc o1).heap.size = w.heap.size + 1 by simp] at h
theorem step_append_cells {P : Program} {t e : TypeId} {z : Value} {size bytes : Nat} {ops : Array Oper} {o : Oper} {a : Act} {w : World} {K : Act → World → Prop} {Q : Exit → Act → World → Prop} {E : Prop} (hgd : o.guard = none) (s x : Operand)
    (ho : o.op = .call { callee := .builtin .append, args := #[s, x], argTypes := #[t, t] }) (EE : Elt P t e z size bytes)
    (base : Nat) (v : Value) (n : Nat) (xs : List Value) (X : Nat) (us : List Value) (hs : a.eval s = v) (hx : a.eval x = .slice (some ⟨X, 0, none⟩) 1 1) (hown : w.ownsRow base e size v n xs)
    (hX : w.heap[X]? = some (.cells us.toArray e (0, 0))) (hl : us.length = size) (h1 : ∀ u ∈ us, u.oneCell' = true) (hn : n ≤ 1000) (hby1 : bytes ≤ 1000000) (hbase : base ≤ w.heap.size)
    (h : ∀ v' w', w'.ownsRow base e size v' (n + 1) (xs ++ us) → w.grownBy w' v.ownBlock → (v'.ownBlock = v.ownBlock ∨ v'.ownBlock = some w.heap.size) → K (a.put o.dst v') w') :
    if Region.wanted o (yielded ops a.tmps) = true then Oper.wp P o a w K Q else E := by
  obtain ⟨i, hi, hz, hsize, hby⟩ := EE.info
  have hM : n + 1 ≤ maxLen := by unfold maxLen; omega
  have hbb : (n + 1) * bytes ≤ 140737488355328 := Nat.le_trans (Nat.mul_le_mul (show n + 1 ≤ 1001 by omega) hby1) (by decide)
  exact step_append_lies w hgd s x t ho base e i _ size bytes EE.und hi hz hsize hby EE.zs EE.pos v n xs hs hown ⟨X, 0, none⟩ 1 1 us hx (by omega) (World.news_of_block hX) h1 (by omega) hM hbb hbase w.heap.size rfl
    (fun g cap w' h1 h2 h3 h4 => h _ _ h1 h2 (h3.imp (fun e => e.symm) (fun e => by rw [e]; rfl)))

theorem held_thenF {w wa wb : World} (h : True ∧ Frm0 w wa) (hf : Frm0 wa wb) : True ∧ Frm0 w wb := ⟨trivial, h.2.trans hf⟩
theorem held_frmF {w wa : World} (h : True ∧ Frm0 w wa) : Frm0 w wa := h.2

def strs (xs : List ByteArray) : List Value := xs.map Value.string
theorem strs_one (xs : List ByteArray) : ∀ c ∈ strs xs, c.oneCell' = true := by
  intro c hc
  obtain ⟨x, _, rfl⟩ := List.mem_map.1 hc
  rfl
theorem strs_len (xs : List ByteArray) : (strs xs).length = xs.length := by simp [strs]
theorem strs_app (xs : List ByteArray) (x : ByteArray) : strs (xs ++ [x]) = strs xs ++ [.string x] := by simp [strs]
theorem strs_at (xs : List ByteArray) (k : Nat) (h : k < xs.length) : (strs xs)[k]? = some (.string xs[k]) := by
  simp [strs, List.getElem?_eq_getElem h]
theorem Estr : Elt Try.prog 78 9 (.string ⟨#[]⟩) 1 16 := Elt.mk' Try.underlying78 (by kernel_rfl) rfl (by omega)
def wints (xs : List Int) : List Value := xs.map (Value.int .i64)
theorem Ewin : Elt Try.prog 134 3 (.int .i64 0) 1 8 := Elt.mk' Try.underlying134 (by kernel_rfl) rfl (by omega)
theorem wints_len (xs : List Int) : (wints xs).length = xs.length := by simp [wints]
theorem wints_one (xs : List Int) : ∀ c ∈ wints xs, c.oneCell' = true := by
  intro c hc
  obtain ⟨x, _, rfl⟩ := List.mem_map.1 hc
  rfl
theorem wints_app (xs : List Int) (x : Int) : wints (xs ++ [x]) = wints xs ++ [.int .i64 x] := by simp [wints]
theorem wints_at (xs : List Int) (k : Nat) (h : k < xs.length) : (wints xs)[k]? = some (.int .i64 xs[k]) := by
  simp [wints, List.getElem?_eq_getElem h]
end Go.Proofs.Ythggbohoedfkpaa
