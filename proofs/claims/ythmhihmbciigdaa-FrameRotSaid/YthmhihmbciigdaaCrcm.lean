/- Check sums by bits: what a text's sum is, in plain numbers, and that turned bits within 32 side by side turn it. -/
namespace Go.Proofs.Ythmhihmbciigdaa.CrcMath
def poly : Nat := 3988292384
/-- one bit step -/
def T (x : Nat) : Nat := if x % 2 = 1 then (x / 2) ^^^ poly else x / 2
def Tn : Nat → Nat → Nat
  | 0, x => x
  | n + 1, x => Tn n (T x)
theorem xor_mod2 (x y : Nat) : (x ^^^ y) % 2 = (x % 2 + y % 2) % 2 := by
  have h : ∀ z : Nat, z % 2 = (z.testBit 0).toNat := fun z => by rw [Nat.testBit_zero]; rcases Nat.mod_two_eq_zero_or_one z with e | e <;> rw [e] <;> rfl
  rw [h, h x, h y, Nat.testBit_xor]
  cases x.testBit 0 <;> cases y.testBit 0 <;> rfl
theorem xor_div2 (x y : Nat) : (x ^^^ y) / 2 = (x / 2) ^^^ (y / 2) := by
  have := Nat.xor_div_two (a := x) (b := y)
  exact this
theorem T_xor (x y : Nat) : T (x ^^^ y) = T x ^^^ T y := by
  unfold T
  have h := xor_mod2 x y
  rw [xor_div2]
  have hx := Nat.mod_two_eq_zero_or_one x
  have hy := Nat.mod_two_eq_zero_or_one y
  rcases hx with hx | hx <;> rcases hy with hy | hy <;> rw [h, hx, hy] <;> simp
  · rw [Nat.xor_assoc]
  · rw [Nat.xor_assoc, Nat.xor_comm (y / 2) poly, ← Nat.xor_assoc]
  · rw [Nat.xor_assoc, ← Nat.xor_assoc poly (y / 2) poly, Nat.xor_comm poly (y/2), Nat.xor_assoc (y/2) poly poly]; simp
theorem Tn_xor (n x y : Nat) : Tn n (x ^^^ y) = Tn n x ^^^ Tn n y := by
  induction n generalizing x y with
  | zero => rfl
  | succ n ih => simp only [Tn]; rw [T_xor, ih]
theorem Tn_add (m n x : Nat) : Tn (m + n) x = Tn n (Tn m x) := by
  induction m generalizing x with
  | zero => simp [Tn]
  | succ m ih => rw [Nat.succ_add]; simp only [Tn]; exact ih _
theorem T_two (x : Nat) : T (2 * x) = x := by
  unfold T; rw [if_neg (by omega)]; omega
theorem Tn_pow (n x : Nat) : Tn n (x * 2 ^ n) = x := by
  induction n with
  | zero => simp [Tn]
  | succ n ih =>
    simp only [Tn]
    rw [show x * 2 ^ (n + 1) = 2 * (x * 2 ^ n) by rw [Nat.pow_succ]; simp [Nat.mul_comm, Nat.mul_left_comm], T_two, ih]
theorem T_lt {x : Nat} (h : x < 2 ^ 32) : T x < 2 ^ 32 := by
  unfold T
  split
  · exact Nat.xor_lt_two_pow (by omega) (by unfold poly; omega)
  · omega
theorem Tn_lt {n x : Nat} (h : x < 2 ^ 32) : Tn n x < 2 ^ 32 := by
  induction n generalizing x with
  | zero => exact h
  | succ n ih => exact ih (T_lt h)
theorem T_zero {x : Nat} (h : x < 2 ^ 32) (h0 : T x = 0) : x = 0 := by
  unfold T at h0
  split at h0
  · have : x / 2 = poly := by
      have h1 : (x / 2 ^^^ poly) ^^^ poly = 0 ^^^ poly := by rw [h0]
      rw [Nat.xor_assoc, Nat.xor_self] at h1
      simpa using h1
    unfold poly at this; omega
  · omega
theorem Tn_zero {n x : Nat} (h : x < 2 ^ 32) (h0 : Tn n x = 0) : x = 0 := by
  induction n generalizing x with
  | zero => exact h0
  | succ n ih => exact T_zero h (ih (T_lt h) h0)
theorem Tn_of_zero (n : Nat) : Tn n 0 = 0 := by
  induction n with
  | zero => rfl
  | succ n ih => simp only [Tn]; exact ih
theorem Tn_ne {n x y : Nat} (hx : x < 2 ^ 32) (hy : y < 2 ^ 32) (h : Tn n x = Tn n y) : x = y := by
  have h1 : Tn n (x ^^^ y) = 0 := by rw [Tn_xor, h, Nat.xor_self]
  have h2 := Tn_zero (Nat.xor_lt_two_pow hx hy) h1
  have h3 : (x ^^^ y) ^^^ y = 0 ^^^ y := by rw [h2]
  rw [Nat.xor_assoc, Nat.xor_self] at h3
  simpa using h3
/-- a byte -/
def B (s b : Nat) : Nat := Tn 8 (s ^^^ b)
def val : List Nat → Nat
  | [] => 0
  | b :: l => b + 256 * val l
def run (s : Nat) (l : List Nat) : Nat := l.foldl B s
theorem disjoint_xor {a b k : Nat} (h : a < 2 ^ k) : a + 2 ^ k * b = a ^^^ (2 ^ k * b) := by
  apply Nat.eq_of_testBit_eq
  intro i
  rw [Nat.testBit_xor, Nat.add_comm, Nat.testBit_two_pow_mul_add _ h, Nat.testBit_two_pow_mul]
  by_cases hi : i < k
  · simp [hi, Nat.not_le.2 hi]
  · have : a.testBit i = false := Nat.testBit_lt_two_pow (Nat.lt_of_lt_of_le h (Nat.pow_le_pow_right (by omega) (by omega)))
    simp [hi, Nat.not_lt.1 hi, this]
theorem run_val (s : Nat) (l : List Nat) (h : ∀ b ∈ l, b < 256) : run s l = Tn (8 * l.length) (s ^^^ val l) := by
  induction l generalizing s with
  | nil => simp [run, val, Tn]
  | cons b l ih =>
    have hb := h b (by simp)
    have hl : ∀ b ∈ l, b < 256 := fun x hx => h x (by simp [hx])
    show run (B s b) l = _
    rw [ih _ hl]
    simp only [List.length_cons, val]
    rw [show 8 * (l.length + 1) = 8 + 8 * l.length by omega, Tn_add]
    congr 1
    have e : b + 256 * val l = b ^^^ (2 ^ 8 * val l) := disjoint_xor (k := 8) hb
    rw [e, ← Nat.xor_assoc, Tn_xor]
    unfold B
    congr 1
    rw [Nat.mul_comm, Tn_pow]
theorem run_append (s : Nat) (l m : List Nat) : run s (l ++ m) = run (run s l) m := by simp [run]
/-- the burst -/
theorem burst {s x : Nat} {l m : List Nat} {f : Nat} (hl : ∀ b ∈ l, b < 256) (hm : ∀ b ∈ m, b < 256) (hlen : l.length = m.length) (hx : x < 2 ^ 32) (hf : f ≤ 8 * l.length) (hv : val m = val l ^^^ (x * 2 ^ f)) : run s m = run s l ↔ x = 0 := by
  rw [run_val s m hm, run_val s l hl, ← hlen, hv, ← Nat.xor_assoc, Tn_xor]
  constructor
  · intro h
    have h1 : Tn (8 * l.length) (s ^^^ val l) ^^^ (Tn (8 * l.length) (s ^^^ val l) ^^^ Tn (8 * l.length) (x * 2 ^ f)) = Tn (8 * l.length) (s ^^^ val l) ^^^ Tn (8 * l.length) (s ^^^ val l) := by rw [h]
    rw [← Nat.xor_assoc, Nat.xor_self] at h1
    simp only [Nat.zero_xor] at h1
    obtain ⟨d, hd⟩ : ∃ d, 8 * l.length = f + d := ⟨8 * l.length - f, by omega⟩
    rw [hd, Tn_add, Tn_pow] at h1
    exact Tn_zero hx h1
  · rintro rfl
    simp [Tn_of_zero]
/-- one bit of a byte turned -/
theorem val_set {l : List Nat} {i j v : Nat} (hi : i < l.length) (hb : ∀ b ∈ l, b < 256) (hj : j < 8) (hv : v = l[i] ^^^ 2 ^ j) : val (l.set i v) = val l ^^^ 2 ^ (8 * i + j) := by
  induction l generalizing i with
  | nil => simp at hi
  | cons b l ih =>
    have hb0 := hb b (by simp)
    have hl : ∀ b ∈ l, b < 256 := fun x hx => hb x (by simp [hx])
    cases i with
    | zero =>
      simp only [List.set_cons_zero, val]
      simp only [List.getElem_cons_zero] at hv
      have hv' : v < 2 ^ 8 := by rw [hv]; exact Nat.xor_lt_two_pow hb0 (Nat.pow_lt_pow_right (by omega) hj)
      rw [show 256 * val l = 2 ^ 8 * val l by rfl, disjoint_xor hv', disjoint_xor (a := b) (k := 8) hb0, hv]
      rw [Nat.xor_assoc, Nat.xor_comm (2 ^ j), ← Nat.xor_assoc]; simp
    | succ i =>
      simp only [List.set_cons_succ, val]
      rw [ih (by simpa using hi) hl (by simpa using hv)]
      rw [show 256 * val l = 2 ^ 8 * val l by rfl, show 256 * (val l ^^^ 2 ^ (8 * i + j)) = 2 ^ 8 * (val l ^^^ 2 ^ (8 * i + j)) by rfl, disjoint_xor (k := 8) hb0, disjoint_xor (k := 8) hb0]
      rw [Nat.xor_assoc]
      congr 1
      rw [show 8 * (i + 1) + j = 8 + (8 * i + j) by omega, Nat.pow_add 2 8]
      generalize 2 ^ (8 * i + j) = q
      apply Nat.eq_of_testBit_eq
      intro k
      rw [Nat.testBit_xor, Nat.testBit_two_pow_mul, Nat.testBit_two_pow_mul, Nat.testBit_two_pow_mul, Nat.testBit_xor]
      cases decide (k ≥ 8) <;> simp
end Go.Proofs.Ythmhihmbciigdaa.CrcMath
