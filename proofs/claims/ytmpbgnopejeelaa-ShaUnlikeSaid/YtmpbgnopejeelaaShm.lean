/- SHA-256: the constants reckoned of roots: plain words, no program in sight. -/
import Derived.Test.YtmpbgnopejeelaaSha
namespace Go.Proofs.Ytmpbgnopejeelaa
set_option linter.unusedVariables false
set_option linter.unusedSimpArgs false
set_option maxRecDepth 100000
namespace Rt
open Sh
def m64 (x : Nat) : Nat := x % 18446744073709551616
def addAt (L : List Nat) (j v : Nat) : List Nat := L.set j (m64 (L.getD j 0 + v))
def mulRow (a : Nat) (b : List Nat) (i : Nat) (L : List Nat) : Nat → List Nat
  | 0 => L
  | k + 1 => addAt (mulRow a b i L k) (i + k) (m64 (a * b.getD k 0))
def mulAll (a b : List Nat) (L : List Nat) : Nat → List Nat
  | 0 => L
  | i + 1 => mulRow (a.getD i 0) b i (mulAll a b L i) b.length
def carry1 (L : List Nat) (i : Nat) : List Nat := (L.set (i+1) (m64 (L.getD (i+1) 0 + L.getD i 0 / 65536))).set i (L.getD i 0 % 65536)
def carry (L : List Nat) : Nat → List Nat
  | 0 => L
  | i + 1 => carry1 (carry L i) i
def times (a b : List Nat) : List Nat := carry (mulAll a b (List.replicate (a.length + b.length + 1) 0) a.length) (a.length + b.length)
def parts (n : Nat) : List Nat := [n % 65536, n / 65536 % 65536, n / 4294967296 % 65536, n / 281474976710656]
def above (a : List Nat) (n s : Nat) : Nat → Bool
  | 0 => false
  | i + 1 => if a.getD i 0 = (if i = s then n else 0) then above a n s i else decide ((if i = s then n else 0) < a.getD i 0)
def pwr (k x : Nat) : List Nat := if k = 3 then times (times (parts x) (parts x)) (parts x) else times (parts x) (parts x)
def root (n k : Nat) : Nat → Nat
  | 0 => 0
  | j + 1 => if above (pwr k (root n k j + 1099511627776 / 2 ^ j)) n (if k = 3 then 6 else 4) (pwr k (root n k j + 1099511627776 / 2 ^ j)).length then root n k j else root n k j + 1099511627776 / 2 ^ j
/-! values -/
def val : List Nat → Nat
  | [] => 0
  | d :: l => d + 65536 * val l
def Le (c : Nat) (L : List Nat) : Prop := ∀ j, L.getD j 0 ≤ c
theorem getD_set (L : List Nat) (i j v : Nat) (h : i < L.length) : (L.set i v).getD j 0 = if i = j then v else L.getD j 0 := by
  rw [List.getD_eq_getElem?_getD, List.getD_eq_getElem?_getD, List.getElem?_set]
  by_cases e : i = j
  · subst e; simp [h]
  · simp [e]
theorem val_set : ∀ (L : List Nat) (i v : Nat), i < L.length → val (L.set i v) + L.getD i 0 * 65536 ^ i = val L + v * 65536 ^ i
  | d :: l, 0, v, h => by simp [val]; omega
  | d :: l, i + 1, v, h => by
    have ih := val_set l i v (by simpa using h)
    rw [List.set_cons_succ, List.getD_cons_succ, Nat.pow_succ]
    simp only [val]
    generalize l.getD i 0 = g at *
    have e1 : g * (65536 ^ i * 65536) = 65536 * (g * 65536 ^ i) := by rw [← Nat.mul_assoc, Nat.mul_comm]
    have e2 : v * (65536 ^ i * 65536) = 65536 * (v * 65536 ^ i) := by rw [← Nat.mul_assoc, Nat.mul_comm]
    rw [e1, e2]
    omega
theorem val_replicate (n : Nat) : val (List.replicate n 0) = 0 := by
  induction n with
  | zero => rfl
  | succ n ih => rw [List.replicate_succ]; simp [val, ih]
theorem m64_eq {x : Nat} (h : x < 18446744073709551616) : m64 x = x := Nat.mod_eq_of_lt h
theorem addAt_len (L : List Nat) (j v : Nat) : (addAt L j v).length = L.length := by unfold addAt; simp
theorem mulRow_len (a : Nat) (b : List Nat) (i : Nat) (L : List Nat) : ∀ k, (mulRow a b i L k).length = L.length
  | 0 => rfl
  | k + 1 => by unfold mulRow; rw [addAt_len, mulRow_len]
theorem mulAll_len (a b L : List Nat) : ∀ i, (mulAll a b L i).length = L.length
  | 0 => rfl
  | i + 1 => by unfold mulAll; rw [mulRow_len, mulAll_len]
theorem carry1_len (L : List Nat) (i : Nat) : (carry1 L i).length = L.length := by unfold carry1; simp
theorem carry_len (L : List Nat) : ∀ i, (carry L i).length = L.length
  | 0 => rfl
  | i + 1 => by unfold carry; rw [carry1_len, carry_len]
theorem times_length (a b : List Nat) : (times a b).length = a.length + b.length + 1 := by unfold times; rw [carry_len, mulAll_len, List.length_replicate]
theorem take_val (b : List Nat) (k : Nat) (h : k < b.length) : val (b.take (k + 1)) = val (b.take k) + b.getD k 0 * 65536 ^ k := by
  induction b generalizing k with
  | nil => simp at h
  | cons d l ih =>
    cases k with
    | zero => simp [val]
    | succ k =>
      rw [List.take_succ_cons, List.take_succ_cons, List.getD_cons_succ, Nat.pow_succ]
      simp only [val]
      rw [ih k (by simpa using h)]
      generalize l.getD k 0 = g
      have e1 : g * (65536 ^ k * 65536) = 65536 * (g * 65536 ^ k) := by rw [← Nat.mul_assoc, Nat.mul_comm]
      rw [e1]
      omega
theorem mul_small {x y : Nat} (hx : x ≤ 65535) (hy : y ≤ 65535) : x * y ≤ 4294967296 := Nat.le_trans (Nat.mul_le_mul hx hy) (by decide)
theorem a2 (g m c k : Nat) (h : g ≤ c + k * 4294967296) (hm : m ≤ 4294967296) : g + m ≤ c + (k + 1) * 4294967296 := by omega
theorem a3 (g c k : Nat) (h : g ≤ c + k * 4294967296) : g ≤ c + (k + 1) * 4294967296 := Nat.le_trans h (Nat.add_le_add_left (Nat.mul_le_mul (Nat.le_succ k) (Nat.le_refl _)) c)
theorem b2 (g m k : Nat) (h : g ≤ k * 1099511627776) (hm : m ≤ 1099511627776) : g + m ≤ (k + 1) * 1099511627776 := by omega
theorem b3 (g k : Nat) (h : g ≤ k * 1099511627776) : g ≤ (k + 1) * 1099511627776 := Nat.le_trans h (Nat.mul_le_mul (Nat.le_succ k) (Nat.le_refl _))
theorem mulRow_ok (a : Nat) (ha : a ≤ 65535) (b : List Nat) (hb : Le 65535 b) (i : Nat) (L : List Nat) (c : Nat) (hL : Le c L) (hc : c ≤ 400000000000) (hl : i + b.length ≤ L.length) : ∀ k, k ≤ b.length → k ≤ 20 →
    Le (c + k * 4294967296) (mulRow a b i L k) ∧ val (mulRow a b i L k) = val L + a * 65536 ^ i * val (b.take k)
  | 0, _, _ => ⟨by simpa [mulRow] using hL, by simp [mulRow, val]⟩
  | k + 1, h, h20 => by
    obtain ⟨h1, h2⟩ := mulRow_ok a ha b hb i L c hL hc hl k (by omega) (by omega)
    have hm := mul_small ha (hb k)
    have hx := h1 (i + k)
    have hlen := mulRow_len a b i L k
    have hv := take_val b k (by omega)
    unfold mulRow addAt
    rw [m64_eq (show a * b.getD k 0 < 18446744073709551616 by omega), m64_eq (show (mulRow a b i L k).getD (i + k) 0 + a * b.getD k 0 < 18446744073709551616 by omega)]
    refine ⟨fun j => ?_, ?_⟩
    · rw [getD_set _ _ _ _ (by omega)]
      have := h1 j
      clear h1 h2 hb hL hv
      generalize (mulRow a b i L k).getD (i + k) 0 = g at *
      generalize (mulRow a b i L k).getD j 0 = g2 at *
      generalize a * b.getD k 0 = m at *
      by_cases e : i + k = j
      · rw [if_pos e]; exact a2 _ _ _ _ hx hm
      · rw [if_neg e]; exact a3 _ _ _ this
    · have hs := val_set (mulRow a b i L k) (i + k) ((mulRow a b i L k).getD (i + k) 0 + a * b.getD k 0) (by omega)
      rw [hv]
      generalize (mulRow a b i L k).getD (i + k) 0 = g at *
      generalize val ((mulRow a b i L k).set (i + k) (g + a * b.getD k 0)) = V at *
      rw [Nat.add_mul, h2] at hs
      rw [Nat.mul_add, Nat.pow_add] at *
      have e : a * b.getD k 0 * (65536 ^ i * 65536 ^ k) = a * 65536 ^ i * (b.getD k 0 * 65536 ^ k) := by ac_rfl
      rw [e] at hs
      omega
theorem mulAll_ok (a b : List Nat) (ha : Le 65535 a) (hb : Le 65535 b) (hbl : b.length ≤ 9) (hal : a.length ≤ 9) : ∀ i, i ≤ a.length →
    Le (i * (b.length * 4294967296)) (mulAll a b (List.replicate (a.length + b.length + 1) 0) i) ∧ val (mulAll a b (List.replicate (a.length + b.length + 1) 0) i) = val (a.take i) * val b
  | 0, _ => ⟨fun j => by simp [mulAll, List.getD_eq_getElem?_getD, List.getElem?_replicate]; split <;> simp, by simp [mulAll, val, val_replicate]⟩
  | i + 1, h => by
    obtain ⟨h1, h2⟩ := mulAll_ok a b ha hb hbl hal i (by omega)
    have h9 : i * (b.length * 4294967296) ≤ 8 * (9 * 4294967296) := Nat.mul_le_mul (by omega) (by omega)
    obtain ⟨h3, h4⟩ := mulRow_ok (a.getD i 0) (ha i) b hb i _ _ h1 (by omega) (by rw [mulAll_len, List.length_replicate]; omega) b.length (Nat.le_refl _) (by omega)
    unfold mulAll
    refine ⟨fun j => ?_, ?_⟩
    · have := h3 j
      rw [Nat.add_mul]
      omega
    · rw [h4, h2, take_val a i (by omega), List.take_length, Nat.add_mul]
theorem carry_ok (L : List Nat) (hL : Le 4000000000000 L) : ∀ i, i < L.length →
    Le 4000100000000 (carry L i) ∧ (∀ j, j < i → (carry L i).getD j 0 ≤ 65535) ∧ (∀ j, i < j → (carry L i).getD j 0 = L.getD j 0) ∧ val (carry L i) = val L
  | 0, _ => ⟨fun j => by have := hL j; simp only [carry]; omega, fun j h => absurd h (by omega), fun _ _ => rfl, rfl⟩
  | i + 1, h => by
    obtain ⟨h1, h2, h3, h4⟩ := carry_ok L hL i (by omega)
    have hx := h1 i
    have hy := h3 (i + 1) (by omega)
    have hz := hL (i + 1)
    have hlen := carry_len L i
    unfold carry carry1
    generalize carry L i = M at *
    rw [m64_eq (show M.getD (i + 1) 0 + M.getD i 0 / 65536 < 18446744073709551616 by omega)]
    have hg : ∀ j, ((M.set (i + 1) (M.getD (i + 1) 0 + M.getD i 0 / 65536)).set i (M.getD i 0 % 65536)).getD j 0 = if i = j then M.getD i 0 % 65536 else if i + 1 = j then M.getD (i + 1) 0 + M.getD i 0 / 65536 else M.getD j 0 := fun j => by
      rw [getD_set _ _ _ _ (by rw [List.length_set]; omega), getD_set _ _ _ _ (by omega)]
    refine ⟨fun j => ?_, fun j hj => ?_, fun j hj => ?_, ?_⟩
    · rw [hg]
      have := h1 j
      split
      · omega
      · split <;> omega
    · rw [hg]
      split
      · omega
      · rw [if_neg (by omega)]
        exact h2 j (by omega)
    · rw [hg, if_neg (by omega), if_neg (by omega)]
      exact h3 j (by omega)
    · have s1 := val_set M (i + 1) (M.getD (i + 1) 0 + M.getD i 0 / 65536) (by omega)
      have s2 := val_set (M.set (i + 1) (M.getD (i + 1) 0 + M.getD i 0 / 65536)) i (M.getD i 0 % 65536) (by rw [List.length_set]; omega)
      rw [getD_set _ _ _ _ (by omega), if_neg (by omega)] at s2
      generalize val ((M.set (i + 1) (M.getD (i + 1) 0 + M.getD i 0 / 65536)).set i (M.getD i 0 % 65536)) = V at *
      generalize val (M.set (i + 1) (M.getD (i + 1) 0 + M.getD i 0 / 65536)) = W at *
      generalize M.getD (i + 1) 0 = b at *
      generalize M.getD i 0 = x at *
      rw [Nat.pow_succ, Nat.add_mul] at s1
      have e : x / 65536 * (65536 ^ i * 65536) = (x / 65536 * 65536) * 65536 ^ i := by ac_rfl
      rw [e] at s1
      have e2 : x * 65536 ^ i = (x / 65536 * 65536) * 65536 ^ i + (x % 65536) * 65536 ^ i := by rw [← Nat.add_mul]; congr 1; omega
      omega
theorem val_lt {L : List Nat} (h : Le 65535 L) : ∀ n, n ≤ L.length → val (L.take n) < 65536 ^ n
  | 0, _ => by simp [val]
  | n + 1, hn => by
    have ih := val_lt h n (by omega)
    rw [take_val L n (by omega), Nat.pow_succ]
    have h1 := h n
    have h2 : L.getD n 0 * 65536 ^ n ≤ 65535 * 65536 ^ n := Nat.mul_le_mul h1 (Nat.le_refl _)
    omega
theorem times_ok (a b : List Nat) (ha : Le 65535 a) (hb : Le 65535 b) (hal : a.length ≤ 9) (hbl : b.length ≤ 9) :
    val (times a b) = val a * val b ∧ Le 65535 (times a b) := by
  obtain ⟨h1, h2⟩ := mulAll_ok a b ha hb hbl hal a.length (Nat.le_refl _)
  have h9 : a.length * (b.length * 4294967296) ≤ 9 * (9 * 4294967296) := Nat.mul_le_mul (by omega) (by omega)
  have hlen := times_length a b
  have hcl : (mulAll a b (List.replicate (a.length + b.length + 1) 0) a.length).length = a.length + b.length + 1 := by rw [mulAll_len, List.length_replicate]
  obtain ⟨c1, c2, c3, c4⟩ := carry_ok _ (fun j => Nat.le_trans (h1 j) (by omega)) (a.length + b.length) (by omega)
  rw [List.take_length] at h2
  have hv : val (times a b) = val a * val b := c4.trans h2
  refine ⟨hv, fun j => ?_⟩
  by_cases hj : j < a.length + b.length
  · exact c2 j hj
  by_cases hj2 : j = a.length + b.length
  · have va := val_lt ha a.length (Nat.le_refl _)
    have vb := val_lt hb b.length (Nat.le_refl _)
    rw [List.take_length] at va vb
    have hm : val a * val b < 65536 ^ (a.length + b.length) := by rw [Nat.pow_add]; exact Nat.mul_lt_mul'' va vb
    have ht := take_val (times a b) (a.length + b.length) (by omega)
    rw [← hlen, List.take_length, hv] at ht
    subst hj2
    have : (times a b).getD (a.length + b.length) 0 = 0 := by
      apply Classical.byContradiction
      intro hne
      have h1 : 1 * 65536 ^ (a.length + b.length) ≤ (times a b).getD (a.length + b.length) 0 * 65536 ^ (a.length + b.length) := Nat.mul_le_mul (by omega) (Nat.le_refl _)
      omega
    omega
  · rw [List.getD_eq_getElem?_getD, List.getElem?_eq_none (by omega)]
    exact Nat.zero_le _
theorem above_ok (a : List Nat) (n s : Nat) (ha : Le 65535 a) (hn : n < 65536) : ∀ i, i ≤ a.length → above a n s i = decide ((if s < i then n * 65536 ^ s else 0) < val (a.take i))
  | 0, _ => by simp [above, val]
  | i + 1, hi => by
    have ih := above_ok a n s ha hn i (by omega)
    have hv := take_val a i (by omega)
    have hlt := val_lt ha i (by omega)
    have hp : 0 < 65536 ^ i := Nat.pow_pos (by decide)
    rw [hv]
    unfold above
    rw [ih]
    generalize a.getD i 0 = d at *
    generalize val (a.take i) = V at *
    by_cases hs : i = s
    · subst hs
      rw [if_pos rfl, if_neg (show ¬ i < i by omega), if_pos (show i < i + 1 by omega)]
      by_cases hd : d = n
      · subst hd
        rw [if_pos rfl, decide_eq_decide]
        omega
      · rw [if_neg hd, decide_eq_decide]
        by_cases hlt2 : n < d
        · have : (n + 1) * 65536 ^ i ≤ d * 65536 ^ i := Nat.mul_le_mul hlt2 (Nat.le_refl _)
          rw [Nat.add_mul] at this
          omega
        · have : (d + 1) * 65536 ^ i ≤ n * 65536 ^ i := Nat.mul_le_mul (by omega) (Nat.le_refl _)
          rw [Nat.add_mul] at this
          omega
    · rw [if_neg hs]
      by_cases hd : d = 0
      · subst hd
        rw [if_pos rfl, decide_eq_decide]
        by_cases hsi : s < i
        · rw [if_pos hsi, if_pos (by omega)]; omega
        · rw [if_neg hsi, if_neg (by omega)]; omega
      · rw [if_neg hd, decide_eq_decide]
        have h1 : 1 * 65536 ^ i ≤ d * 65536 ^ i := Nat.mul_le_mul (by omega) (Nat.le_refl _)
        by_cases hsi : s < i
        · rw [if_pos (by omega)]
          have h2 : n * 65536 ^ s < 65536 ^ (s + 1) := by rw [Nat.pow_succ, Nat.mul_comm]; exact Nat.mul_lt_mul_of_pos_left hn (Nat.pow_pos (by decide))
          have h3 : 65536 ^ (s + 1) ≤ 65536 ^ i := Nat.pow_le_pow_right (by decide) (by omega)
          omega
        · rw [if_neg (by omega)]; omega
theorem parts_val {x : Nat} (h : x < 18446744073709551616) : val (parts x) = x := by simp only [parts, val]; omega
theorem parts_le {x : Nat} (h : x < 18446744073709551616) : Le 65535 (parts x) := fun j => by
  match j with
  | 0 => show x % 65536 ≤ _; omega
  | 1 => show x / 65536 % 65536 ≤ _; omega
  | 2 => show x / 4294967296 % 65536 ≤ _; omega
  | 3 => show x / 281474976710656 ≤ _; omega
  | j + 4 => show 0 ≤ _; omega
theorem pwr_ok (k x : Nat) (hk : k = 2 ∨ k = 3) (h : x < 18446744073709551616) : val (pwr k x) = x ^ k ∧ Le 65535 (pwr k x) ∧ (if k = 3 then 6 else 4) < (pwr k x).length := by
  have hp := parts_le h
  obtain ⟨t1, t2⟩ := times_ok (parts x) (parts x) hp hp (show 4 ≤ 9 by decide) (show 4 ≤ 9 by decide)
  rw [parts_val h] at t1
  rcases hk with rfl | rfl
  · exact ⟨by show val (times _ _) = _; rw [t1, Nat.pow_two], t2, by show 4 < (times _ _).length; rw [times_length]; exact (by decide : 4 < 4 + 4 + 1)⟩
  · obtain ⟨u1, u2⟩ := times_ok (times (parts x) (parts x)) (parts x) t2 hp (by rw [times_length]; exact (by decide : 4 + 4 + 1 ≤ 9)) (show 4 ≤ 9 by decide)
    exact ⟨by show val (times (times _ _) _) = _; rw [u1, t1, parts_val h, ← Nat.pow_two, ← Nat.pow_succ], u2, by show 6 < (times _ _).length; rw [times_length, times_length]; exact (by decide : 6 < 4 + 4 + 1 + 4 + 1)⟩
/-- The same on numbers. -/
def rt (n k : Nat) : Nat → Nat
  | 0 => 0
  | j + 1 => if n * 65536 ^ (if k = 3 then 6 else 4) < (rt n k j + 1099511627776 / 2 ^ j) ^ k then rt n k j else rt n k j + 1099511627776 / 2 ^ j
theorem root_le (n k : Nat) : ∀ j, root n k j ≤ j * 1099511627776
  | 0 => Nat.zero_le _
  | j + 1 => by
    have ih := root_le n k j
    have h := Nat.div_le_self 1099511627776 (2 ^ j)
    unfold root
    generalize 1099511627776 / 2 ^ j = d at *
    generalize (above _ _ _ _) = B
    cases B
    · exact b2 _ _ _ ih h
    · exact b3 _ _ ih
theorem root_is (n k : Nat) (hn : n < 65536) (hk : k = 2 ∨ k = 3) : ∀ j, j ≤ 100 → root n k j = rt n k j
  | 0, _ => rfl
  | j + 1, hj => by
    have ih := root_is n k hn hk j (by omega)
    have hl := root_le n k j
    have hd := Nat.div_le_self 1099511627776 (2 ^ j)
    obtain ⟨p1, p2, p3⟩ := pwr_ok k (root n k j + 1099511627776 / 2 ^ j) hk (by omega)
    have ha := above_ok _ n (if k = 3 then 6 else 4) p2 hn _ (Nat.le_refl _)
    rw [if_pos p3, List.take_length, p1] at ha
    unfold root rt
    rw [ha, ih]
    simp only [decide_eq_true_eq]
def PR : List Nat := [2, 3, 5, 7, 11, 13, 17, 19, 23, 29, 31, 37, 41, 43, 47, 53, 59, 61, 67, 71, 73, 79, 83, 89, 97, 101, 103, 107, 109, 113, 127, 131, 137, 139, 149, 151, 157, 163, 167, 173, 179, 181, 191, 193, 197, 199, 211, 223, 227, 229, 233, 239, 241, 251, 257, 263, 269, 271, 277, 281, 283, 293, 307, 311]
theorem roots3 : PR.map (fun n => rt n 3 41 % 4294967296) = KK := by decide +kernel
theorem roots2 : (PR.take 8).map (fun n => rt n 2 41 % 4294967296) = V0 := by decide +kernel
def prm (n k : Nat) : Nat → Bool
  | 0 => true
  | f + 1 => if k * k ≤ n then (if n % k = 0 then false else prm n (k + 1) f) else decide (1 < n)
def isP (n : Nat) : Bool := prm n 2 30
def plist (n : Nat) : List Nat := (List.range n).filter isP
theorem plist_312 : plist 312 = PR := by decide +kernel
theorem plist_lt : ∀ n, n < 312 → (plist n).length < 64 := by decide +kernel
end Rt
end Go.Proofs.Ytmpbgnopejeelaa
