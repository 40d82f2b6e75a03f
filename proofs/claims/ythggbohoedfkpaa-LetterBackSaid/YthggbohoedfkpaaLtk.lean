/- Letters: as lists of fields; what is opened. -/
import Derived.Test.YthggbohoedfkpaaLtj
namespace Go.Proofs.Ythggbohoedfkpaa
open Go.RowKit Pk
set_option linter.unusedVariables false
set_option linter.unusedSimpArgs false
set_option maxRecDepth 100000
namespace Lt
def sch (k : Int) : List Fl := if k = 1 then [.n 1073741824, .n 1073741824, .n 1073741824, .t 60, .t 60, .t 100, .t 200] else if k = 2 then [.n 1073741824, .n 1073741824, .n 999, .t 40, .n 1099511627776, .n 1073741824] else if k = 3 then [.n 1073741824, .t 24, .n 1073741824, .n 5, .n 1073741824, .t 12, .t 40] else if k = 4 then [.n 1073741824, .t 24, .n 1073741824, .n 5, .n 1073741824, .n 3] else []
def vls (k : Int) (l : Ltr) : List V := if k = 1 then [.i l.rq.client, .i l.rq.serial, .i l.rq.tenant, .s l.rq.key, .s l.rq.method, .s l.rq.path, .s l.rq.body] else if k = 2 then [.i l.an.client, .i l.an.serial, .i l.an.status, .s l.an.text, .i l.an.after, .i l.an.epoch] else if k = 3 then [.i l.cl.tenant, .s l.cl.key, .i l.cl.epoch, .i l.cl.phase, .i l.cl.token, .s l.cl.name, .s l.cl.body] else if k = 4 then [.i l.rp.tenant, .s l.rp.key, .i l.rp.epoch, .i l.rp.phase, .i l.rp.token, .i l.rp.code] else []
theorem sch1 : sch 1 = [.n 1073741824, .n 1073741824, .n 1073741824, .t 60, .t 60, .t 100, .t 200] := rfl
theorem vls1 (l : Ltr) : vls 1 l = [.i l.rq.client, .i l.rq.serial, .i l.rq.tenant, .s l.rq.key, .s l.rq.method, .s l.rq.path, .s l.rq.body] := rfl
theorem sch2 : sch 2 = [.n 1073741824, .n 1073741824, .n 999, .t 40, .n 1099511627776, .n 1073741824] := rfl
theorem vls2 (l : Ltr) : vls 2 l = [.i l.an.client, .i l.an.serial, .i l.an.status, .s l.an.text, .i l.an.after, .i l.an.epoch] := rfl
theorem sch3 : sch 3 = [.n 1073741824, .t 24, .n 1073741824, .n 5, .n 1073741824, .t 12, .t 40] := rfl
theorem vls3 (l : Ltr) : vls 3 l = [.i l.cl.tenant, .s l.cl.key, .i l.cl.epoch, .i l.cl.phase, .i l.cl.token, .s l.cl.name, .s l.cl.body] := rfl
theorem sch4 : sch 4 = [.n 1073741824, .t 24, .n 1073741824, .n 5, .n 1073741824, .n 3] := rfl
theorem vls4 (l : Ltr) : vls 4 l = [.i l.rp.tenant, .s l.rp.key, .i l.rp.epoch, .i l.rp.phase, .i l.rp.token, .i l.rp.code] := rfl

/-- A letter that may be. -/
def Fit (l : Ltr) : Prop := l = alone l ∧ chk true l = true
/-- Its bytes. -/
def pck (l : Ltr) : ByteArray := txt (lay (numB 1 ++ numB l.kind.toNat) l)
theorem chk_and (ok : Bool) (l : Ltr) : chk ok l = (ok && chk true l) := by
  unfold chk
  split
  · simp [Bool.and_assoc]
  · split
    · simp [Bool.and_assoc]
    · split
      · simp [Bool.and_assoc]
      · split
        · simp [Bool.and_assoc]
        · simp
theorem chk_fits (l : Ltr) : chk true l = true ↔ (1 ≤ l.kind ∧ l.kind ≤ 4) ∧ fits (sch l.kind) (vls l.kind l) = true := by
  by_cases k1 : l.kind = 1
  · unfold chk; rw [if_pos k1, k1, sch1, vls1]
    simp [fits, Fl.fit, and_assoc]
  · by_cases k2 : l.kind = 2
    · unfold chk; rw [if_neg k1, if_pos k2, k2, sch2, vls2]
      simp [fits, Fl.fit, and_assoc]
    · by_cases k3 : l.kind = 3
      · unfold chk; rw [if_neg k1, if_neg k2, if_pos k3, k3, sch3, vls3]
        simp [fits, Fl.fit, and_assoc]
      · by_cases k4 : l.kind = 4
        · unfold chk; rw [if_neg k1, if_neg k2, if_neg k3, if_pos k4, k4, sch4, vls4]
          simp [fits, Fl.fit, and_assoc]
        · unfold chk; rw [if_neg k1, if_neg k2, if_neg k3, if_neg k4]
          constructor
          · intro h; cases h
          · intro h; omega
theorem lay_encs (L : List Nat) (l : Ltr) : lay L l = L ++ encs (vls l.kind l) := by
  by_cases k1 : l.kind = 1
  · unfold lay; rw [if_pos k1, k1, vls1]; simp [encs, V.enc]
  · by_cases k2 : l.kind = 2
    · unfold lay; rw [if_neg k1, if_pos k2, k2, vls2]; simp [encs, V.enc]
    · by_cases k3 : l.kind = 3
      · unfold lay; rw [if_neg k1, if_neg k2, if_pos k3, k3, vls3]; simp [encs, V.enc]
      · by_cases k4 : l.kind = 4
        · unfold lay; rw [if_neg k1, if_neg k2, if_neg k3, if_pos k4, k4, vls4]; simp [encs, V.enc]
        · unfold lay; rw [if_neg k1, if_neg k2, if_neg k3, if_neg k4]
          unfold vls; rw [if_neg k1, if_neg k2, if_neg k3, if_neg k4]; simp [encs]
theorem alone_same {a b : Ltr} (ha : a = alone a) (hb : b = alone b) (hk : a.kind = b.kind) (hk4 : 1 ≤ a.kind ∧ a.kind ≤ 4) (hv : vls a.kind a = vls a.kind b) : a = b := by
  obtain ⟨ka, ⟨a1, a2, a3, a4, a5, a6, a7⟩, ⟨a8, a9, a10, a11, a12, a13⟩, ⟨a14, a15, a16, a17, a18, a19, a20⟩, ⟨a21, a22, a23, a24, a25, a26⟩⟩ := a
  obtain ⟨kb, ⟨b1, b2, b3, b4, b5, b6, b7⟩, ⟨b8, b9, b10, b11, b12, b13⟩, ⟨b14, b15, b16, b17, b18, b19, b20⟩, ⟨b21, b22, b23, b24, b25, b26⟩⟩ := b
  simp only at hk hk4 hv
  subst hk
  rw [ha, hb]
  rcases (by omega : ka = 1 ∨ ka = 2 ∨ ka = 3 ∨ ka = 4) with rfl | rfl | rfl | rfl
  · simp only [vls1, List.cons.injEq, V.i.injEq, V.s.injEq, and_true] at hv
    obtain ⟨rfl, rfl, rfl, rfl, rfl, rfl, rfl⟩ := hv
    rfl
  · simp only [vls2, List.cons.injEq, V.i.injEq, V.s.injEq, and_true] at hv
    obtain ⟨rfl, rfl, rfl, rfl, rfl, rfl⟩ := hv
    rfl
  · simp only [vls3, List.cons.injEq, V.i.injEq, V.s.injEq, and_true] at hv
    obtain ⟨rfl, rfl, rfl, rfl, rfl, rfl, rfl⟩ := hv
    rfl
  · simp only [vls4, List.cons.injEq, V.i.injEq, V.s.injEq, and_true] at hv
    obtain ⟨rfl, rfl, rfl, rfl, rfl, rfl⟩ := hv
    rfl
theorem sch_most {k : Int} : ∀ f ∈ sch k, f.most ≤ 4611686018427387904 := by
  unfold sch
  intro f hf
  split at hf
  · simp only [List.mem_cons, List.not_mem_nil, or_false] at hf
    rcases hf with rfl | rfl | rfl | rfl | rfl | rfl | rfl <;> decide
  · split at hf
    · simp only [List.mem_cons, List.not_mem_nil, or_false] at hf
      rcases hf with rfl | rfl | rfl | rfl | rfl | rfl <;> decide
    · split at hf
      · simp only [List.mem_cons, List.not_mem_nil, or_false] at hf
        rcases hf with rfl | rfl | rfl | rfl | rfl | rfl | rfl <;> decide
      · split at hf
        · simp only [List.mem_cons, List.not_mem_nil, or_false] at hf
          rcases hf with rfl | rfl | rfl | rfl | rfl | rfl <;> decide
        · cases hf
/-- What is read of a letter's bytes, with whatever behind them. -/
theorem read_fit {l : Ltr} (h : Fit l) {s t : ByteArray} (hs : bytes s = lay (numB 1 ++ numB l.kind.toNat) l ++ bytes t) :
    decs (.n 1 :: .n 4 :: sch l.kind) (some s) = (.i 1 :: .i l.kind :: vls l.kind l, some t) := by
  obtain ⟨h1, h2⟩ := (chk_fits l).1 h.2
  refine decs_lay _ _ s t ?_ ?_ ?_
  · simp only [fits, Fl.fit, nf, h2]
    simp [h1.2]; omega
  · intro f hf
    rcases List.mem_cons.1 hf with rfl | hf
    · decide
    · rcases List.mem_cons.1 hf with rfl | hf
      · decide
      · exact sch_most f hf
  · rw [hs, lay_encs]
    simp [encs, V.enc, nl]
theorem lay_lt {L : List Nat} (hL : ∀ b ∈ L, b < 256) (l : Ltr) : ∀ b ∈ lay L l, b < 256 := by
  rw [lay_encs]
  intro b hb
  rcases List.mem_append.1 hb with h | h
  · exact hL b h
  · exact encs_lt _ b h
theorem head_lt (k : Nat) : ∀ b ∈ numB 1 ++ numB k, b < 256 := by
  intro b hb
  rcases List.mem_append.1 hb with h | h
  · exact numB_lt _ b h
  · exact numB_lt _ b h
theorem bytes_pck (l : Ltr) : bytes (pck l) = lay (numB 1 ++ numB l.kind.toNat) l := bytes_txt (lay_lt (head_lt _) l)
theorem bytes_nil : bytes (⟨#[]⟩ : ByteArray) = [] := rfl
theorem read_pck {l : Ltr} (h : Fit l) : decs (.n 1 :: .n 4 :: sch l.kind) (some (pck l)) = (.i 1 :: .i l.kind :: vls l.kind l, some ⟨#[]⟩) :=
  read_fit h (by rw [bytes_pck, bytes_nil, List.append_nil])
/-- The letter, if any, of these bytes. -/
def OSpec (s : ByteArray) (r : Option Ltr) : Prop := ∀ l, r = some l ↔ Fit l ∧ s = pck l
theorem OSpec.same {s : ByteArray} {a b : Option Ltr} (ha : OSpec s a) (hb : OSpec s b) : a = b := by
  apply Option.ext
  intro l
  rw [show (a = some l ↔ _) from ha l, show (b = some l ↔ _) from hb l]
theorem spec_some {s t : ByteArray} {k : Int} {vs : List V} {l : Ltr} (hk : l.kind = k) (h4 : 1 ≤ k ∧ k ≤ 4) (ha : l = alone l) (hv : vls k l = vs) (h : decs (.n 1 :: .n 4 :: sch k) (some s) = (.i 1 :: .i k :: vs, some t)) (ht : t.size = 0) : OSpec s (some l) := by
  subst hk hv
  obtain ⟨h1, h2⟩ := decs_is _ _ _ _ h
  have hb : bytes t = [] := List.eq_nil_of_length_eq_zero (by rw [bytes_len]; exact ht)
  have hfit : Fit l := ⟨ha, (chk_fits l).2 ⟨h4, by
    simp only [fits, Bool.and_eq_true] at h1
    exact h1.2.2⟩⟩
  have hs : s = pck l := by
    refine bytes_inj ?_
    rw [bytes_pck, h2, hb, List.append_nil, lay_encs]
    simp [encs, V.enc, nl]
  intro l'
  constructor
  · intro e
    cases e
    exact ⟨hfit, hs⟩
  · rintro ⟨hf, e⟩
    have h5 := read_pck hf
    rw [← e] at h5
    have hkk : l.kind = l'.kind := by
      simp only [decs, Prod.mk.injEq, List.cons.injEq] at h h5
      have := h.1.2.1.symm.trans h5.1.2.1
      simpa using this
    rw [← hkk, h] at h5
    simp only [Prod.mk.injEq, List.cons.injEq] at h5
    rw [alone_same ha hf.1 hkk h4 h5.1.2.2]
/-- Is all there, and nothing more? -/
def fin (o : Option ByteArray) : Bool := !o.isNone && decide ((o.getD ⟨#[]⟩).size = 0)
theorem spec_none {s : ByteArray} {k x1 : Int} {o2 : Option ByteArray} (h : decs [.n 1, .n 4] (some s) = ([.i x1, .i k], o2)) (hc : k = 0 ∨ x1 ≠ 1 ∨ fin (decs (sch k) o2).2 = false) : OSpec s none := by
  intro l
  constructor
  · intro e; cases e
  · rintro ⟨hf, e⟩
    exfalso
    have h5 := read_pck hf
    have h4 := ((chk_fits l).1 hf.2).1
    rw [← e] at h5
    simp only [decs, Prod.mk.injEq, List.cons.injEq] at h h5
    obtain ⟨⟨g1, g2, _⟩, g3⟩ := h
    obtain ⟨⟨j1, j2, j3⟩, j4⟩ := h5
    rw [g1] at j1
    rw [g2] at j2
    rw [g3] at j3 j4
    simp only [V.i.injEq] at j1 j2
    subst j1 j2
    rcases hc with hc | hc | hc
    · omega
    · exact hc rfl
    · rw [j4] at hc
      exact absurd hc (by decide)
end Lt
end Go.Proofs.Ythggbohoedfkpaa
