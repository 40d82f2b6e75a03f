/- Packed numbers: the plain bytes of a number, and contracts of the packer. -/
import Derived.Test.YthggbohoedfkpaaBts
import Derived.Laws.BitsAllLaws
namespace Go.Proofs.Ythggbohoedfkpaa
open Go.RowKit
set_option linter.unusedVariables false
set_option linter.unusedSimpArgs false
set_option maxRecDepth 100000

theorem step_append_big {P : Program} {t e : TypeId} {z : Value} {size bytes : Nat} {ops : Array Oper} {o : Oper} {a : Act} {w : World} {K : Act → World → Prop} {Q : Exit → Act → World → Prop} {E : Prop} (hgd : o.guard = none) (s x : Operand)
    (ho : o.op = .call { callee := .builtin .append, args := #[s, x], argTypes := #[t, t] }) (EE : Elt P t e z size bytes)
    (base : Nat) (v : Value) (n : Nat) (xs : List Value) (X : Nat) (us : List Value) (hs : a.eval s = v) (hx : a.eval x = .slice (some ⟨X, 0, none⟩) 1 1) (hown : w.ownsRow base e size v n xs)
    (hX : w.heap[X]? = some (.cells us.toArray e (0, 0))) (hl : us.length = size) (h1 : ∀ u ∈ us, u.oneCell' = true) (hn : n ≤ 1000000) (hby1 : bytes ≤ 1000000) (hbase : base ≤ w.heap.size)
    (h : ∀ v' w', w'.ownsRow base e size v' (n + 1) (xs ++ us) → w.grownBy w' v.ownBlock → (v'.ownBlock = v.ownBlock ∨ v'.ownBlock = some w.heap.size) → K (a.put o.dst v') w') :
    if Region.wanted o (yielded ops a.tmps) = true then Oper.wp P o a w K Q else E := by
  obtain ⟨i, hi, hz, hsize, hby⟩ := EE.info
  have hM : n + 1 ≤ maxLen := by unfold maxLen; omega
  have hbb : (n + 1) * bytes ≤ 140737488355328 := Nat.le_trans (Nat.mul_le_mul (show n + 1 ≤ 1000001 by omega) hby1) (by decide)
  exact step_append_lies w hgd s x t ho base e i _ size bytes EE.und hi hz hsize hby EE.zs EE.pos v n xs hs hown ⟨X, 0, none⟩ 1 1 us hx (by omega) (World.news_of_block hX) h1 (by omega) hM hbb hbase w.heap.size rfl
    (fun g cap w' h1 h2 h3 h4 => h _ _ h1 h2 (h3.imp (fun e => e.symm) (fun e => by rw [e]; rfl)))

namespace Pk
/-- The bytes of a number's upper parts. -/
def pre (m : Nat) : List Nat := if h : m = 0 then [] else pre (m / 128) ++ [m % 128 + 128]
theorem pre_zero : pre 0 = [] := by unfold pre; rfl
theorem pre_pos {m : Nat} (h : 0 < m) : pre m = pre (m / 128) ++ [m % 128 + 128] := by
  conv => lhs; unfold pre
  rw [dif_neg (by omega)]
/-- The bytes of a number. -/
def numB (n : Nat) : List Nat := pre (n / 128) ++ [n % 128]
theorem pre_lt : ∀ (m : Nat), ∀ b ∈ pre m, b < 256 := by
  intro m
  induction m using Nat.strongRecOn with
  | _ m ih =>
    intro b hb
    by_cases h : m = 0
    · subst h; rw [pre_zero] at hb; cases hb
    · rw [pre_pos (by omega)] at hb
      rcases List.mem_append.1 hb with hb | hb
      · exact ih _ (by omega) b hb
      · rw [List.mem_singleton.1 hb]; omega
theorem numB_lt (n : Nat) : ∀ b ∈ numB n, b < 256 := by
  intro b hb
  rcases List.mem_append.1 hb with hb | hb
  · exact pre_lt _ b hb
  · rw [List.mem_singleton.1 hb]; omega
theorem pre_len : ∀ (k m : Nat), m < 128 ^ k → (pre m).length ≤ k
  | 0, m, h => by
    have : m = 0 := by simpa using h
    subst this
    rw [pre_zero]; exact Nat.le_refl _
  | k + 1, m, h => by
    by_cases h0 : m = 0
    · subst h0; rw [pre_zero]; exact Nat.zero_le _
    · rw [pre_pos (by omega), List.length_append]
      have := pre_len k (m / 128) ((Nat.div_lt_iff_lt_mul (by omega)).2 (by rw [Nat.pow_succ] at h; exact h))
      simp
      omega
def u8s (l : List Nat) : List Value := l.map (fun b : Nat => .int .u8 (b : Int))
theorem u8s_one (l : List Nat) : ∀ c ∈ u8s l, c.oneCell' = true := by
  intro c hc
  obtain ⟨x, _, rfl⟩ := List.mem_map.1 hc
  rfl
theorem u8s_len (l : List Nat) : (u8s l).length = l.length := by simp [u8s]
theorem u8s_app (l m : List Nat) : u8s (l ++ m) = u8s l ++ u8s m := by simp [u8s]
theorem Euint8 : Elt Try.prog 81 5 (.int .u8 0) 1 1 := Elt.mk' Try.underlying81 (by kernel_rfl) rfl (by omega)
theorem low7 (m : Nat) : bits .and .u8 ((m : Int) % 256) 127 = ((m % 128 : Nat) : Int) := by
  have e : ((m : Int) % 256) = ((m % 256 : Nat) : Int) := by omega
  rw [e]
  have := u8_and_nat (m % 256) 127 (by omega) (by omega)
  rw [show ((127 : Nat) : Int) = 127 from rfl] at this
  rw [this, nat_mask7]
  omega
theorem more8 (m : Nat) : bits .or .u8 ((m % 128 : Nat) : Int) 128 = ((m % 128 + 128 : Nat) : Int) := by
  have := u8_or_nat (m % 128) 128 (by omega) (by omega)
  rw [show ((128 : Nat) : Int) = 128 from rfl] at this
  rw [this]
  have hj := nat_join 7 128 (m % 128) (by decide) (by omega)
  rw [Nat.or_comm, hj, Nat.add_comm]

structure At (w : World) (pb : Nat) (v : Value) (l : List Nat) (bad : Bool) : Prop where
  blk : w.heap[pb]? = some (.cells #[v, .bool bad] 83 (0, 0))
  row : w.ownsRow (pb + 1) 5 1 v l.length (u8s l)
  small : ∀ b ∈ l, b < 256
section
variable {w w1 : World} {pb : Nat} {v : Value} {l : List Nat} {bad : Bool} {S : Nat → Prop}
theorem At.c0 (h : At w pb v l bad) : w.cell? ⟨pb, 0, none⟩ = some v := by rw [Bk.cell h.blk]; rfl
theorem At.c1 (h : At w pb v l bad) : w.cell? ⟨pb, 1, none⟩ = some (.bool bad) := by rw [Bk.cell h.blk]; rfl
theorem At.fr (h : At w pb v l bad) (i : Nat) : w.frozen? ⟨pb, i, none⟩ = false := Bk.frozen h.blk i
theorem At.lt (h : At w pb v l bad) : pb < w.heap.size := Bk.lt h.blk
theorem At.own (h : At w pb v l bad) (k : Nat) (hk : v.ownBlock = some k) : pb < k ∧ k < w.heap.size := by have := h.row.lt k hk; omega
theorem At.frm (h : At w pb v l bad) (hf : Frm S w w1) (hs : ¬ S pb) (hr : ∀ k, v.ownBlock = some k → ¬ S k) : At w1 pb v l bad := ⟨hf.blk h.blk hs, owns_frm h.row hf hr, h.small⟩
theorem At.frm0 (h : At w pb v l bad) (hf : Frm0 w w1) : At w1 pb v l bad := h.frm hf (fun h => h) (fun _ _ h => h)
theorem At.form (h : At w pb v l bad) : ∃ A c, v = .slice A l.length c := by
  rcases h.row.2 with ⟨h, hn⟩ | ⟨g, cap, cur, he, _⟩
  · exact ⟨none, 0, by rw [h, hn]⟩
  · exact ⟨_, _, he⟩
end
theorem ok_any (pb : Nat) (v : Value) (l : List Nat) (bad : Bool) (w : World) (h : At w pb v l bad) :
    Calls Try.prog 42 #[.pointer (some ⟨pb, 0, none⟩)] w fun e w' => e = .returned (.bool (!bad)) ∧ w = w' := by
  have c1 := h.c1
  go_enter Try.func42, Try.ntmps42
  go_wp2
  go_ret
  exact ⟨rfl, rfl⟩
theorem ok_nil (w : World) : Calls Try.prog 42 #[.pointer none] w fun e w' => e = .returned (.bool false) ∧ w = w' := by
  go_enter Try.func42, Try.ntmps42
  go_wp2
  go_ret
  exact ⟨rfl, rfl⟩
theorem num_nil (n : Int) (w : World) : Calls Try.prog 40 #[.pointer none, .int .i64 n] w fun e w' => e = .returned (.pointer none) ∧ w = w' := by
  go_enter Try.func40, Try.ntmps40
  go_wp2
  go_ret
  exact ⟨rfl, rfl⟩
theorem string_bad (pb : Nat) (v : Value) (l : List Nat) (w : World) (h : At w pb v l true) :
    Calls Try.prog 43 #[.pointer (some ⟨pb, 0, none⟩)] w fun e w' => e = .returned (.string ⟨#[]⟩) ∧ w = w' := by
  go_enter Try.func43, Try.ntmps43
  go_wp2_with fail
  refine (ok_any pb v l true _ h).mono ?_
  rintro e w' ⟨rfl, rfl⟩
  go_wp2
  go_ret
  exact ⟨rfl, rfl⟩
theorem string_ok (pb : Nat) (v : Value) (l : List Nat) (w : World) (h : At w pb v l false) (hlen : l.length ≤ 1000000) :
    Calls Try.prog 43 #[.pointer (some ⟨pb, 0, none⟩)] w fun e w' => e = .returned (.string (txt l)) ∧ w = w' := by
  have c0 := h.c0
  have hcv : (convert 81 9 v).run Try.prog w = .ok (.string (txt l)) w := by
    rcases h.row.2 with ⟨rfl, h0⟩ | ⟨g, cap, cur, rfl, hb, hg, hr⟩
    · have : l = [] := List.eq_nil_of_length_eq_zero h0
      subst this
      rfl
    · refine Bts.conv (l := l) ⟨Bk.lt hg, fun j hj => ?_, fun j hj => Bk.frozen hg j⟩ rfl cap
      rw [h.row.cellAt j (by omega)]
      simp [u8s, List.getElem?_eq_getElem hj]
  have HA := Lib.hid h
  clear h
  go_enter Try.func43, Try.ntmps43
  go_wp2_with fail
  refine (ok_any pb v l false _ HA.out).mono ?_
  rintro e w' ⟨rfl, rfl⟩
  go_wp2
  go_ret
  exact ⟨rfl, rfl⟩
end Pk
end Go.Proofs.Ythggbohoedfkpaa
