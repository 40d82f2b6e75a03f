/- The walk of PackNumbers. -/
import Derived.Test.YthmhihmbciigdaaPkf
namespace Go.Proofs.Ythmhihmbciigdaa
open Go.RowKit
set_option linter.unusedVariables false
set_option linter.unusedSimpArgs false
namespace Pk
theorem txt_list (l : List Nat) : (txt l).toList = u8l l := by
  rw [ByteArray.toList_eq]
  unfold txt u8l
  rw [strOfNums_data, List.map_map]
  rfl
theorem less_eq : ∀ (x y : List UInt8), Op.bytesLess x y = decide (x < y)
  | x, [] => by cases x <;> simp [Op.bytesLess]
  | [], b :: y => by simp [Op.bytesLess]
  | a :: x, b :: y => by
    unfold Op.bytesLess
    rw [less_eq x y, Bool.eq_iff_iff, decide_eq_true_eq, List.cons_lt_cons_iff]
    simp
set_option maxHeartbeats 2000000 in
set_option maxRecDepth 10000 in
theorem numbers_walk (a b : Int) (w : World) :
    Calls Try.prog 12 #[.int .i64 a, .int .i64 b] w fun e w' => e = .returned (.bool true) ∧ Below w.heap.size w w' := by
  by_cases hbad : a < 0 ∨ b < 0 ∨ 4611686018427387904 < a ∨ 4611686018427387904 < b
  · have hd : decide (a < 0) = true ∨ (decide (a < 0) = false ∧ decide (b < 0) = true) ∨ (decide (a < 0) = false ∧ decide (b < 0) = false ∧ decide ((4611686018427387904 : Int) < a) = true) ∨ (decide (a < 0) = false ∧ decide (b < 0) = false ∧ decide ((4611686018427387904 : Int) < a) = false ∧ decide ((4611686018427387904 : Int) < b) = true) := by
      simp only [decide_eq_true_eq, decide_eq_false_iff_not]; omega
    rcases hd with h1 | ⟨h1, h2⟩ | ⟨h1, h2, h3⟩ | ⟨h1, h2, h3, h4⟩
    all_goals
      go_enter Try.func12, Try.ntmps12
      go_wp2_with fail
      refine (kawake _).mono ?_
      rintro e w1 ⟨rfl, hf1⟩
      go_wp2
      go_ret
      exact ⟨rfl, hf1.below (fun _ _ h => h)⟩
  obtain ⟨m, rfl⟩ := Int.eq_ofNat_of_zero_le (show 0 ≤ a by omega)
  obtain ⟨n, rfl⟩ := Int.eq_ofNat_of_zero_le (show 0 ≤ b by omega)
  have d1 : decide ((m : Int) < 0) = false := decide_eq_false (by omega)
  have d2 : decide ((n : Int) < 0) = false := decide_eq_false (by omega)
  have d3 : decide ((4611686018427387904 : Int) < (m : Int)) = false := decide_eq_false (by omega)
  have d4 : decide ((4611686018427387904 : Int) < (n : Int)) = false := decide_eq_false (by omega)
  have hm : m ≤ 4611686018427387904 := by omega
  have hn : n ≤ 4611686018427387904 := by omega
  obtain ⟨x1, x9⟩ := num_len hm
  obtain ⟨y1, y9⟩ := num_len hn
  have HXN := Lib.hid (fun pb v w (h : At w pb v [] false) => num_any m pb v [] false w h hm (by simp))
  have HYN := Lib.hid (fun pb v w (h : At w pb v [] false) => num_any n pb v [] false w h hn (by simp))
  simp only [List.nil_append] at HXN HYN
  have hmono1 : m ≤ n → (numB m).length ≤ (numB n).length := num_mono
  have hord := num_order m n
  have tx := txt_list (numB m)
  have ty := txt_list (numB n)
  have zx := txt_size (numB m)
  have zy := txt_size (numB n)
  have HSX := Lib.hid (fun pb v w (h : At w pb v (numB m) false) => string_ok pb v (numB m) w h (by omega))
  have HSY := Lib.hid (fun pb v w (h : At w pb v (numB n) false) => string_ok pb v (numB n) w h (by omega))
  generalize txt (numB m) = X at *
  generalize txt (numB n) = Y at *
  rw [← tx, ← ty] at hord
  have hcs : ∃ (LX LY : Nat) (r le : Bool), X.size = LX ∧ Y.size = LY ∧ 1 ≤ LX ∧ LX ≤ 9 ∧ (X.toList == Y.toList) = r ∧ ((m : Int) == (n : Int)) = r ∧ ((((LX : Int) == (LY : Int)) = false) ∨ (LX = LY ∧ Op.bytesLess X.toList Y.toList = le ∧ decide ((m : Int) < (n : Int)) = le)) ∧ (decide ((n : Int) < (m : Int)) = true ∨ (decide ((n : Int) < (m : Int)) = false ∧ decide ((LX : Int) ≤ (LY : Int)) = true)) := by
    refine ⟨(numB m).length, (numB n).length, decide (m = n), decide (m < n), zx, zy, x1, x9, ?_, ?_, ?_, ?_⟩
    · by_cases hl : (numB m).length = (numB n).length
      · have := (hord hl).2
        rw [Bool.eq_iff_iff, beq_iff_eq, this, decide_eq_true_eq]
      · have hne : m ≠ n := fun e => hl (by rw [e])
        rw [decide_eq_false hne, beq_eq_false_iff_ne]
        intro e
        have := str_inj e
        rw [← zx, ← zy, this] at hl
        exact hl rfl
    · rw [Bool.eq_iff_iff, beq_iff_eq, decide_eq_true_eq]
      omega
    · by_cases hl : (numB m).length = (numB n).length
      · right
        refine ⟨hl, ?_, ?_⟩
        · rw [less_eq, Bool.eq_iff_iff, decide_eq_true_eq, (hord hl).1, decide_eq_true_eq]
        · rw [Bool.eq_iff_iff, decide_eq_true_eq, decide_eq_true_eq]
          omega
      · left
        rw [beq_eq_false_iff_ne]
        omega
    · by_cases h : n < m
      · left
        exact decide_eq_true (by omega)
      · right
        have := hmono1 (by omega)
        exact ⟨decide_eq_false (by omega), decide_eq_true (by omega)⟩
  clear hord hmono1 tx ty hbad zx zy x1 x9 y1 y9
  obtain ⟨LX, LY, r, le, zx, zy, x1, x9, he1, he2, hlen, hgt⟩ := hcs
  have q1 : decide ((1 : Int) ≤ (LX : Int)) = true := decide_eq_true (by omega)
  have q2 : decide ((LX : Int) ≤ 9) = true := decide_eq_true (by omega)
  go_enter Try.func12, Try.ntmps12
  go_wp2_with fail
  refine (kawake _).mono ?_
  rintro e w1 ⟨rfl, hf1⟩
  have hP := new_packer w1
  have hP2 := hP.frm0 ((Frm.refl (fun _ => False) _).alloc (.cells #[.slice none 0 0, .bool false] 70))
  have hQ := new_packer (w1.alloc (.cells #[.slice none 0 0, .bool false] 70))
  rw [show (w1.alloc (.cells #[.slice none 0 0, .bool false] 70)).heap.size = w1.heap.size + 1 by simp] at hQ
  have hF := (hf1.alloc (.cells #[.slice none 0 0, .bool false] 70)).alloc (.cells #[.slice none 0 0, .bool false] 70)
  have hwz : w.heap.size ≤ w1.heap.size := hf1.size
  clear hP hf1
  go_wp2_with fail
  generalize (w1.alloc (.cells #[.slice none 0 0, .bool false] 70)).alloc (.cells #[.slice none 0 0, .bool false] 70) = w2 at *
  generalize w1.heap.size = pb at *
  refine (HXN.out _ _ _ hP2).mono ?_
  rintro e w3 ⟨v3, rfl, h3, hm3, hf3⟩
  have hQ3 := hQ.frm hf3 (fun e => by
    rcases e with e | e
    · omega
    · simp [Value.ownBlock] at e) (fun k hk => by simp [Value.ownBlock] at hk)
  have hF3 : Frm0 w w3 := hF.then_ hf3 (fun i hi e => by
    rcases e with e | e
    · omega
    · simp [Value.ownBlock] at e)
  go_wp2_with fail
  refine (HSX.out _ _ _ h3).mono ?_
  rintro e w' ⟨rfl, rfl⟩
  go_wp2_with fail
  refine (HYN.out _ _ _ hQ3).mono ?_
  rintro e w4 ⟨v4, rfl, h4, hm4, hf4⟩
  have hF4 : Frm0 w w4 := hF3.then_ hf4 (fun i hi e => by
    rcases e with e | e
    · omega
    · simp [Value.ownBlock] at e)
  go_wp2_with fail
  refine (HSY.out _ _ _ h4).mono ?_
  rintro e w' ⟨rfl, rfl⟩
  have g1 : LX ≤ 9 := x9
  have g2 : ¬ LX < 1 := by omega
  clear HXN HYN HSX HSY hP2 hQ h3 h4 hQ3 hF hF3 hf3 hf4 hm3 hm4 hwz d1 d2 d3 d4
  have hint : (LX : Int) = (LY : Int) ∨ ((LX : Int) == (LY : Int)) = false := by
    rcases hlen with h | ⟨h, _⟩
    · exact .inr h
    · exact .inl (by rw [h])
  clear hm hn
  have cut : ∀ (u v : Bool), u = v → True := fun _ _ _ => trivial
  have hLY : ¬ LX = LY → ((LX : Int) == (LY : Int)) = false ∧ ¬ LX = LY := fun h => ⟨beq_eq_false_iff_ne.2 (by omega), h⟩
  rcases Nat.lt_trichotomy m n with hmn | hmn | hmn
  case' inr.inl => subst hmn
  case' inl =>
    have t1 : m ≤ n := by omega
    have t2 : ¬ n ≤ m := by omega
    have t3 : ¬ n < m := by omega
    have t4 : ¬ m = n := by omega
    have t5 : ((m : Int) == (n : Int)) = false := beq_eq_false_iff_ne.2 (by omega)
    have t6 : decide ((m : Int) < (n : Int)) = true := decide_eq_true (by omega)
    have t7 : decide ((n : Int) < (m : Int)) = false := decide_eq_false (by omega)
  case' inr.inr =>
    have t1 : n ≤ m := by omega
    have t2 : ¬ m ≤ n := by omega
    have t3 : ¬ m < n := by omega
    have t4 : ¬ m = n := by omega
    have t5 : ((m : Int) == (n : Int)) = false := beq_eq_false_iff_ne.2 (by omega)
    have t6 : decide ((m : Int) < (n : Int)) = false := decide_eq_false (by omega)
    have t7 : decide ((n : Int) < (m : Int)) = true := decide_eq_true (by omega)
  case' inr.inl =>
    have t5 : ((m : Int) == (m : Int)) = true := beq_iff_eq.2 rfl
    have t6 : decide ((m : Int) < (m : Int)) = false := decide_eq_false (by omega)
    have t7 : decide ((m : Int) < (m : Int)) = false := decide_eq_false (by omega)
  all_goals
    rw [t5] at he2
    subst he2
    rw [t6] at hlen
    rw [t7] at hgt
    rcases hlen with hlen | ⟨hlen, hl1, hl2⟩
  all_goals
    try subst hl2
    rcases hgt with hgt | ⟨hgt, hge⟩
  all_goals first
    | contradiction
    | skip
  all_goals
    first
      | subst hlen
      | (have hlen' : ¬ LX = LY := fun h => by rw [h] at hlen; simp at hlen)
  all_goals
    clear hLY cut
    first
      | (have u1 : LX ≤ LY := by simpa using hge)
      | skip
    go_upto_region 9 with fail
    simp only [List.append_eq, List.cons_append, List.nil_append]
    go_wp2_with fail
    refine (num_nil _ _).mono ?_
    rintro e w' ⟨rfl, rfl⟩
    go_wp2_with fail
    refine (ok_nil _).mono ?_
    rintro e w' ⟨rfl, rfl⟩
    go_wp2_with fail
    refine (ook_nil _).mono ?_
    rintro e w' ⟨rfl, rfl⟩
    go_wp2_with fail
    refine (onum_nil _ _).mono ?_
    rintro e w' ⟨rfl, rfl⟩
    go_wp2_with fail
    refine (left_nil _).mono ?_
    rintro e w' ⟨rfl, rfl⟩
    go_wp2
    go_ret
    exact ⟨rfl, hF4.below (fun _ _ h => h)⟩
end Pk
end Go.Proofs.Ythmhihmbciigdaa
