/- The cache: nodes in blocks of their own, a ring of them, and a map of them by their keys. -/
import Derived.Test.YthmhihmbciigdaaLra
import Derived.Test.YthmhihmbciigdaaMp
import Derived.Test.YthmhihmbciigdaaS
namespace Go.Proofs.Ythmhihmbciigdaa
open Go.RowKit Go.Maps
set_option linter.unusedVariables false
set_option linter.unusedSimpArgs false
set_option maxRecDepth 100000
namespace Lr
abbrev ptr (x : Nat) : Value := .pointer (some ⟨x, 0, none⟩)
/-- Nodes at these places. -/
def Nds (w : World) (L : List Nat) (ky vl : Nat → ByteArray) (nx bk : Nat → Nat) : Prop :=
  ∀ x ∈ L, w.heap[x]? = some (.cells #[.string (ky x), .string (vl x), .pointer (some ⟨nx x, 0, none⟩), .pointer (some ⟨bk x, 0, none⟩)] 88 (0, 0))
def updv (f : Nat → ByteArray) (a : Nat) (b : ByteArray) : Nat → ByteArray := fun x => if x = a then b else f x
theorem updv_same (f : Nat → ByteArray) (a : Nat) (b : ByteArray) : updv f a b a = b := if_pos rfl
theorem updv_ne (f : Nat → ByteArray) {a x : Nat} (b : ByteArray) (h : x ≠ a) : updv f a b x = f x := if_neg h
section
variable {w w1 : World} {L : List Nat} {ky vl : Nat → ByteArray} {nx bk : Nat → Nat} {x y : Nat} {S : Nat → Prop}
theorem Nds.c (h : Nds w L ky vl nx bk) (hx : x ∈ L) : w.cell? ⟨x, 0, none⟩ = some (.string (ky x)) ∧ w.cell? ⟨x, 1, none⟩ = some (.string (vl x)) ∧ w.cell? ⟨x, 2, none⟩ = some (.pointer (some ⟨nx x, 0, none⟩)) ∧ w.cell? ⟨x, 3, none⟩ = some (.pointer (some ⟨bk x, 0, none⟩)) := Bk.c4 (h x hx)
theorem Nds.fz (h : Nds w L ky vl nx bk) (hx : x ∈ L) (i : Nat) : w.frozen? ⟨x, i, none⟩ = false := Bk.frozen (h x hx) i
theorem Nds.lt (h : Nds w L ky vl nx bk) (hx : x ∈ L) : x < w.heap.size := Bk.lt (h x hx)
theorem Nds.frm (h : Nds w L ky vl nx bk) (hf : Frm S w w1) (hs : ∀ x ∈ L, ¬ S x) : Nds w1 L ky vl nx bk := fun x hx => hf.blk (h x hx) (hs x hx)
theorem Nds.frm0 (h : Nds w L ky vl nx bk) (hf : Frm0 w w1) : Nds w1 L ky vl nx bk := h.frm hf (fun _ _ h => h)
theorem Nds.setNx (h : Nds w L ky vl nx bk) (hx : x ∈ L) (y : Nat) : Nds (w.setCell ⟨x, 2, none⟩ (.pointer (some ⟨y, 0, none⟩))) L ky vl (updn nx x y) bk := fun z hz => by
  by_cases e : z = x
  · subst e
    have := Bk.set (h z hz) 2 (.pointer (some ⟨y, 0, none⟩))
    rw [updn_same]
    simpa using this
  · rw [updn_ne _ _ e]
    exact Bk.far (h z hz) (p := ⟨x, 2, none⟩) e _
theorem Nds.setBk (h : Nds w L ky vl nx bk) (hx : x ∈ L) (y : Nat) : Nds (w.setCell ⟨x, 3, none⟩ (.pointer (some ⟨y, 0, none⟩))) L ky vl nx (updn bk x y) := fun z hz => by
  by_cases e : z = x
  · subst e
    have := Bk.set (h z hz) 3 (.pointer (some ⟨y, 0, none⟩))
    rw [updn_same]
    simpa using this
  · rw [updn_ne _ _ e]
    exact Bk.far (h z hz) (p := ⟨x, 3, none⟩) e _
theorem Nds.setVal (h : Nds w L ky vl nx bk) (hx : x ∈ L) (v : ByteArray) : Nds (w.setCell ⟨x, 1, none⟩ (.string v)) L ky (updv vl x v) nx bk := fun z hz => by
  by_cases e : z = x
  · subst e
    have := Bk.set (h z hz) 1 (.string v)
    rw [updv_same]
    simpa using this
  · rw [updv_ne _ _ e]
    exact Bk.far (h z hz) (p := ⟨x, 1, none⟩) e _
theorem Nds.sub (h : Nds w L ky vl nx bk) {L' : List Nat} (hs : ∀ x ∈ L', x ∈ L) : Nds w L' ky vl nx bk := fun x hx => h x (hs x hx)
end
theorem uB : Try.prog.underlying 89 = some (.map 9 86) := Try.underlying89
theorem zB (w : World) : (zeroValue 86).run Try.prog w = .ok (.pointer none) w := by rfl
theorem keyS : Keyed Try.prog 9 := string_keyed Try.underlying9
def kl (k : ByteArray) : Lit := .string k.data.toList
theorem keyOf_str {k : ByteArray} (h : k.size ≤ maxLen) : keyOf Try.prog 9 (.string k) = some (kl k) := by
  unfold keyOf
  simp [Try.underlying9, mapKey, h, kl]
theorem kl_inj {k k' : ByteArray} (h : kl k = kl k') : k = k' := by
  unfold kl at h
  obtain ⟨⟨a⟩⟩ := k
  obtain ⟨⟨b⟩⟩ := k'
  simp at h
  subst h
  rfl
/-- The map of nodes by their keys. -/
def KM (w : World) (m N : Nat) (l : List Nat) (ky : Nat → ByteArray) : Prop :=
  ∃ f, Mp Try.prog 9 w m l.length N f ∧ ∀ (k : ByteArray) (v : Value), f (kl k) = some v ↔ ∃ x ∈ l, ky x = k ∧ v = ptr x
/-- The cache. -/
structure At (w : World) (m r c : Nat) (n : Int) (N : Nat) (l : List Nat) (ky vl : Nat → ByteArray) (nx bk : Nat → Nat) : Prop where
  blk : w.heap[c]? = some (.cells #[.int .i64 n, .pointer (some ⟨r, 0, none⟩), .map (some m)] 91 (0, 0))
  ring : Rg nx bk r l
  nds : Nds w (r :: l) ky vl nx bk
  km : KM w m N l ky
  keys : (l.map ky).Nodup
  sep : m ≠ c ∧ (∀ x ∈ r :: l, x ≠ c ∧ x ≠ m)
/-- What the cache holds. -/
def prs (l : List Nat) (ky vl : Nat → ByteArray) : List (ByteArray × ByteArray) := l.map (fun x => (ky x, vl x))
def fp (m r c : Nat) (l : List Nat) (k : Nat) : Prop := k = c ∨ k = m ∨ k ∈ r :: l
end Lr
end Go.Proofs.Ythmhihmbciigdaa
