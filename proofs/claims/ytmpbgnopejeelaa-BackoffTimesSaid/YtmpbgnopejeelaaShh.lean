/- SHA-256: the digest of a text, text to base 16; awake. -/
import Derived.Test.YtmpbgnopejeelaaShg
namespace Go.Proofs.Ytmpbgnopejeelaa
open Go.RowKit
set_option linter.unusedVariables false
set_option linter.unusedSimpArgs false
set_option maxRecDepth 100000
section
variable {P : Program} {w : World} {t e : TypeId} {z : Value} {size bytes : Nat}
theorem step_append_sl {ops : Array Oper} {o : Oper} {a : Act} {K : Act → World → Prop} {Q : Exit → Act → World → Prop} {E : Prop} (hgd : o.guard = none) (s x : Operand)
    (ho : o.op = .call { callee := .builtin .append, args := #[s, x], argTypes := #[t, t] }) (EE : Elt P t e z size bytes) (base : Nat) (v u : Value) (n m : Nat) (xs cs : List Value)
    (hs : a.eval s = v) (hx : a.eval x = u) (hown : w.ownsRow base e size v n xs)
    (hsl : Sl w u m cs) (hl : cs.length = m * size) (h1 : ∀ c ∈ cs, c.oneCell' = true) (h63 : n + m ≤ maxLen) (hbytes : (n + m) * bytes ≤ 140737488355328) (hbase : base ≤ w.heap.size)
    (h : ∀ v' w', w'.ownsRow base e size v' (n + m) (xs ++ cs) → Frm (fun k => v.ownBlock = some k) w w' → (v'.ownBlock = v.ownBlock ∨ v'.ownBlock = some w.heap.size) → K (a.put o.dst v') w') :
    if Region.wanted o (yielded ops a.tmps) = true then Oper.wp P o a w K Q else E := by
  have hw : Region.wanted o (yielded ops a.tmps) = true := by unfold Region.wanted; rw [hgd]
  rw [if_pos hw]
  obtain ⟨v', w', hr, h2, h3, h4⟩ := run_append_sl EE o.type base hown hsl hl h1 h63 hbytes hbase
  unfold Oper.wp execOp
  simp only [ho, resolve, invoke, builtin, Sem.run_bind, Sem.run_pure, Result.andThen_ok, List.map_toArray, List.map_cons, List.map_nil, hs, hx, hr]
  exact h v' w' h2 h3 h4
end
namespace Sh
theorem Hs.none {w : World} {b : Nat} (h : Hh w b V0 ⟨#[]⟩ 0) : Hs w b [] := ⟨⟨#[]⟩, h, rfl⟩
set_option maxHeartbeats 1000000 in
theorem sha_sum (s : ByteArray) (hs : s.size ≤ 500000) (w : World) : Calls Try.prog 31 #[.string s] w fun e w' => e = .returned (.string (dig (bytes s))) ∧ Frm0 w w' := by
  go_enter Try.func31, Try.ntmps31
  go_wp2_with fail
  refine (new_any _).mono ?_
  rintro e w1 ⟨b, rfl, hb, hH, hf1⟩
  have hS1 := Hs.none hH
  go_wp2_with fail
  refine (write_any s hS1 (by simp; omega)).mono ?_
  rintro e w2 ⟨rfl, hS2, hf2⟩
  rw [List.nil_append] at hS2
  go_wp2_with fail
  refine (sum_any hS2 (by rw [bytes_len]; exact hs)).mono ?_
  rintro e w3 ⟨rfl, hf3⟩
  go_wp2_with fail
  go_ret
  exact ⟨rfl, (hf1.then_ hf2 (fun i hi e => by omega)).trans hf3⟩
/-- A digit's byte. -/
def hd (n : Nat) : Nat := if n < 10 then 48 + n else 87 + n
def hexB (l : List Nat) : List Nat := l.flatMap (fun b => [hd (b / 16), hd (b % 16)])
theorem hexB_len (l : List Nat) : (hexB l).length = 2 * l.length := by
  unfold hexB
  induction l with
  | nil => rfl
  | cons a v ih => rw [List.flatMap_cons, List.length_append, ih]; simp; omega
theorem hexB_take (v : List Nat) (k x : Nat) (hk : k < v.length) (hx : v.getD k 0 = x) : hexB (v.take (k + 1)) = hexB (v.take k) ++ [hd (x / 16), hd (x % 16)] := by
  subst hx
  unfold hexB
  rw [List.take_add_one, List.getElem?_eq_getElem hk, List.getD_eq_getElem?_getD, List.getElem?_eq_getElem hk, List.flatMap_append]
  simp
theorem idxhex (x : Nat) (hx : x < 16) (w : World) : (Instr.index 9 (.string { data := #[48,49,50,51,52,53,54,55,56,57,97,98,99,100,101,102] }) (.int .u8 (x : Int))).run Try.prog w = .ok (.int .u8 (hd x : Nat)) w := by
  have h : x = 0 ∨ x = 1 ∨ x = 2 ∨ x = 3 ∨ x = 4 ∨ x = 5 ∨ x = 6 ∨ x = 7 ∨ x = 8 ∨ x = 9 ∨ x = 10 ∨ x = 11 ∨ x = 12 ∨ x = 13 ∨ x = 14 ∨ x = 15 := by omega
  rcases h with rfl | rfl | rfl | rfl | rfl | rfl | rfl | rfl | rfl | rfl | rfl | rfl | rfl | rfl | rfl | rfl <;> rfl
set_option maxHeartbeats 2000000 in
theorem hex_any (s : ByteArray) (hs : s.size ≤ 500000) (w : World) : Calls Try.prog 33 #[.string s] w fun e w' => e = .returned (.string (txt (hexB (bytes s)))) ∧ Frm0 w w' := by
  go_enter Try.func33, Try.ntmps33
  go_wp2_with fail
  go_loopw [3, 7] (fun u i wr => ∃ (k : Nat), k ≤ s.size ∧ i = .int .i64 k ∧ Bw wr w.heap.size u (hexB ((bytes s).take k)) ∧ Frm0 w wr) (fun _ i _ => s.size - (intOf i).toNat)
  case atStart => exact ⟨0, by omega, rfl, World.ownsRow_nil _ _ _ _, Frm.refl _ _⟩
  case round =>
    obtain ⟨k, hk, rfl, hB, hF⟩ := hrel
    by_cases hlt : k < s.size
    · have hki : (k : Int) < (s.size : Int) := by omega
      have hol : (hexB ((bytes s).take k)).length = 2 * k := by rw [hexB_len, List.length_take, bytes_len]; omega
      have hb := bget s k hlt
      obtain ⟨x, hx⟩ : ∃ x, (s[k]'hlt).toNat = x := ⟨_, rfl⟩
      have hx256 : x < 256 := by rw [← hx]; exact (s[k]'hlt).toNat_lt
      rw [hx] at hb
      have HT := Lib.hid (hexB_take (bytes s) k x (by rw [bytes_len]; exact hlt) hb)
      have HOL := Lib.hid hol
      have e16 : (x : Int) / 16 = ((x / 16 : Nat) : Int) := by omega
      have i16 : ∀ w, (Instr.index 9 (.string { data := #[48,49,50,51,52,53,54,55,56,57,97,98,99,100,101,102] }) (.int .u8 ((x : Int) / 16))).run Try.prog w = .ok (.int .u8 (hd (x / 16) : Nat)) w := fun w => by rw [e16]; exact idxhex _ (by omega) w
      have m16 : (x : Int) % 16 = ((x % 16 : Nat) : Int) := by omega
      have j16 : ∀ w, (Instr.index 9 (.string { data := #[48,49,50,51,52,53,54,55,56,57,97,98,99,100,101,102] }) (.int .u8 ((x : Int) % 16))).run Try.prog w = .ok (.int .u8 (hd (x % 16) : Nat)) w := fun w => by rw [m16]; exact idxhex _ (by omega) w
      have a15 : bits .and .u8 (x : Int) 15 = (x : Int) % 16 := by
        have := u8_and_nat x 15 hx256 (by omega)
        rw [show ((15 : Nat) : Int) = 15 from rfl] at this
        rw [this, m16]
        congr 1
        exact Nat.and_two_pow_sub_one_eq_mod x 4
      unfold Bw at hB
      rw [hol] at hB
      have hsz := hF.size
      clear hb e16 m16 hol
      go_wp2_with fail
      refine wp_region_held_drew (S := fun _ => True) (by kernel_rfl) (trivial) (fun hHeld => ?_)
      skip
      refine wpAnyH_take (i := 0) (v := ?_) rfl (by kernel_rfl) (by kernel_rfl) (by kernel_rfl) (fun _ _ _ h => h) (Or.inl ⟨by rfl, ?_⟩) (by assumption) ?_
      rotate_left 1
      focus (intro w hSw; (try dsimp only at hSw); go_simp; (try with_reducible rfl))
      (try simp only [Act.put, List.getElem_toArray, List.getElem_cons_succ, List.getElem_cons_zero, List.setIfInBounds_toArray, List.set_cons_zero, List.set_cons_succ])
      refine wpAnyH_take (i := 1) (v := ?_) rfl (by kernel_rfl) (by kernel_rfl) (by kernel_rfl) (fun _ _ _ h => h) (Or.inl ⟨by rfl, ?_⟩) (by assumption) ?_
      rotate_left 1
      focus (intro w hSw; (try dsimp only at hSw); go_simp; (try with_reducible rfl))
      (try simp only [Act.put, List.getElem_toArray, List.getElem_cons_succ, List.getElem_cons_zero, List.setIfInBounds_toArray, List.set_cons_zero, List.set_cons_succ])
      refine wpAnyH_take (i := 2) (v := ?_) rfl (by kernel_rfl) (by kernel_rfl) (by kernel_rfl) (fun _ _ _ h => h) (Or.inl ⟨by rfl, ?_⟩) (by assumption) ?_
      rotate_left 1
      focus (intro w hSw; (try dsimp only at hSw); go_simp; (try with_reducible rfl))
      (try simp only [Act.put, List.getElem_toArray, List.getElem_cons_succ, List.getElem_cons_zero, List.setIfInBounds_toArray, List.set_cons_zero, List.set_cons_succ])
      refine wpAnyH_take (i := 3) (v := ?_) rfl (by kernel_rfl) (by kernel_rfl) (by kernel_rfl) (fun _ _ _ h => h) (Or.inl ⟨by rfl, ?_⟩) (by assumption) ?_
      rotate_left 1
      focus (intro w hSw; (try dsimp only at hSw); go_simp; (try with_reducible rfl))
      (try simp only [Act.put, List.getElem_toArray, List.getElem_cons_succ, List.getElem_cons_zero, List.setIfInBounds_toArray, List.set_cons_zero, List.set_cons_succ])
      refine wpAnyH_take (i := 4) (v := ?_) rfl (by kernel_rfl) (by kernel_rfl) (by kernel_rfl) (fun _ _ _ h => h) (Or.inl ⟨by rfl, ?_⟩) (by assumption) ?_
      rotate_left 1
      focus (intro w hSw; (try dsimp only at hSw); go_simp; (try with_reducible rfl))
      (try simp only [Act.put, List.getElem_toArray, List.getElem_cons_succ, List.getElem_cons_zero, List.setIfInBounds_toArray, List.set_cons_zero, List.set_cons_succ])
      refine wpAnyH_take (i := 5) (v := ?_) rfl (by kernel_rfl) (by kernel_rfl) (by kernel_rfl) (fun _ _ _ h => h) (Or.inl ⟨by rfl, ?_⟩) (by assumption) ?_
      rotate_left 1
      focus (intro w hSw; (try dsimp only at hSw); go_simp; (try with_reducible rfl))
      (try simp only [Act.put, List.getElem_toArray, List.getElem_cons_succ, List.getElem_cons_zero, List.setIfInBounds_toArray, List.set_cons_zero, List.set_cons_succ])
      refine wpAnyH_take (i := 6) (v := ?_) rfl (by kernel_rfl) (by kernel_rfl) (by kernel_rfl) (fun _ _ _ h => h) (Or.inl ⟨by rfl, ?_⟩) (by assumption) ?_
      rotate_left 1
      focus (intro w hSw; (try dsimp only at hSw); go_simp; (try with_reducible rfl))
      (try simp only [Act.put, List.getElem_toArray, List.getElem_cons_succ, List.getElem_cons_zero, List.setIfInBounds_toArray, List.set_cons_zero, List.set_cons_succ])
      refine wpAnyH_take (i := 7) (v := ?_) rfl (by kernel_rfl) (by kernel_rfl) (by kernel_rfl) (fun _ _ _ h => h) (Or.inl ⟨by rfl, ?_⟩) (by assumption) ?_
      rotate_left 1
      focus (intro w hSw; (try dsimp only at hSw); go_simp; (try with_reducible rfl))
      (try simp only [Act.put, List.getElem_toArray, List.getElem_cons_succ, List.getElem_cons_zero, List.setIfInBounds_toArray, List.set_cons_zero, List.set_cons_succ])
      refine wpAnyH_take (i := 8) (v := ?_) rfl (by kernel_rfl) (by kernel_rfl) (by kernel_rfl) (fun _ _ _ h => h) (Or.inl ⟨by rfl, ?_⟩) (by assumption) ?_
      rotate_left 1
      focus (intro w hSw; (try dsimp only at hSw); go_simp; (try with_reducible rfl))
      (try simp only [Act.put, List.getElem_toArray, List.getElem_cons_succ, List.getElem_cons_zero, List.setIfInBounds_toArray, List.set_cons_zero, List.set_cons_succ])
      refine wpAnyH_take (i := 9) (v := ?_) rfl (by kernel_rfl) (by kernel_rfl) (by kernel_rfl) (fun _ _ _ h => h) (Or.inl ⟨by rfl, ?_⟩) (by assumption) ?_
      rotate_left 1
      focus (intro w hSw; (try dsimp only at hSw); go_simp; (try with_reducible rfl))
      (try simp only [Act.put, List.getElem_toArray, List.getElem_cons_succ, List.getElem_cons_zero, List.setIfInBounds_toArray, List.set_cons_zero, List.set_cons_succ])
      refine wpAnyH_take (i := 10) (v := ?_) rfl (by kernel_rfl) (by kernel_rfl) (by kernel_rfl) (fun _ _ _ h => h) (Or.inl ⟨by rfl, ?_⟩) (by assumption) ?_
      rotate_left 1
      focus (intro w hSw; (try dsimp only at hSw); go_simp; (try with_reducible rfl))
      (try simp only [Act.put, List.getElem_toArray, List.getElem_cons_succ, List.getElem_cons_zero, List.setIfInBounds_toArray, List.set_cons_zero, List.set_cons_succ])
      refine wpAnyH_ready (rs := [11]) (by kernel_rfl) (by simp) ?_
      refine AllReadyH.cons rfl (fun K hK => ?_) AllReadyH.nil
      go_simp
      refine hK.out _ _ ?_ (fun hHeld => ?_)
      focus (trivial)
      clear hK K
      (try simp only [Act.put, List.getElem_toArray, List.getElem_cons_succ, List.getElem_cons_zero, List.setIfInBounds_toArray, List.set_cons_zero, List.set_cons_succ])
      refine wpAnyH_ready (rs := [12]) (by kernel_rfl) (by simp) ?_
      refine AllReadyH.cons rfl (fun K hK => ?_) AllReadyH.nil
      refine step_append_sl rfl (.tmp 10) (.tmp 21) rfl Pk.Euint8 w.heap.size _ (.slice (some ⟨wr.heap.size, 0, none⟩) 2 2) (2 * k) 2 (Pk.u8s (hexB ((bytes s).take k))) [.int .u8 _, .int .u8 _] rfl rfl (hB.alloc _) (Sl.new _ _ _ 2 (by decide) (by omega)) rfl (by simp [Value.oneCell']) (by unfold maxLen; omega) (by omega) (by simp; omega) ?_
      intro v2 w5 hown2 hf2 hat2
      refine hK.out _ _ ?_ (fun hHeld => ?_)
      focus (trivial)
      clear hK K
      (try simp only [Act.put, List.getElem_toArray, List.getElem_cons_succ, List.getElem_cons_zero, List.setIfInBounds_toArray, List.set_cons_zero, List.set_cons_succ])
      refine wpAnyH_take (i := 13) (v := ?_) rfl (by kernel_rfl) (by kernel_rfl) (by kernel_rfl) (fun _ _ _ h => h) (Or.inl ⟨by rfl, ?_⟩) (by assumption) ?_
      rotate_left 1
      focus (intro w hSw; (try dsimp only at hSw); go_simp; (try with_reducible rfl))
      (try simp only [Act.put, List.getElem_toArray, List.getElem_cons_succ, List.getElem_cons_zero, List.setIfInBounds_toArray, List.set_cons_zero, List.set_cons_succ])
      refine wpAnyH_done (by kernel_rfl) ?_ _
      go_wp2_with fail
      go_roundw
      case rel =>
        have hB2 := Bw.app (l := hexB ((bytes s).take k)) (m := [hd (x / 16), hd (x % 16)]) hown2 (by rw [HOL.out]; rfl)
        rw [← HT.out] at hB2
        exact ⟨k + 1, by omega, by go_num, hB2, (hF.drew.alloc _).then_ hf2 (fun i hi e => by have := (World.ownsRow.lt hB i e).1; omega)⟩
      case measure => simp [intOf]; omega
    · obtain rfl : k = s.size := by omega
      rw [List.take_of_length_le (by rw [bytes_len]; exact Nat.le_refl _)] at hB
      have hcv := Bw.conv hB
      go_wp2
      go_ret
      exact ⟨rfl, hF⟩
theorem digB_abc : digB [97, 98, 99] = outB [0xba7816bf, 0x8f01cfea, 0x414140de, 0x5dae2223, 0xb00361a3, 0x96177a9c, 0xb410ff61, 0xf20015ad] := by
  have e : [97, 98, 99] ++ pad ([97, 98, 99] : List Nat).length = abc := by decide +kernel
  unfold digB
  rw [e, ← abc_is]
  rfl
def hexabc : ByteArray := { data := #[98, 97, 55, 56, 49, 54, 98, 102, 56, 102, 48, 49, 99, 102, 101, 97, 52, 49, 52, 49, 52, 48, 100, 101, 53, 100, 97, 101, 50, 50, 50, 51, 98, 48, 48, 51, 54, 49, 97, 51, 57, 54, 49, 55, 55, 97, 57, 99, 98, 52, 49, 48, 102, 102, 54, 49, 102, 50, 48, 48, 49, 53, 97, 100] }
theorem hex_lt (l : List Nat) (hl : ∀ b ∈ l, b < 256) : ∀ b ∈ hexB l, b < 256 := by
  intro b hb
  obtain ⟨x, hx, hb⟩ := List.mem_flatMap.1 hb
  have := hl x hx
  simp only [List.mem_cons, List.not_mem_nil, or_false] at hb
  rcases hb with rfl | rfl <;> unfold hd <;> split <;> omega
theorem dig_bytes (l : List Nat) : bytes (dig l) = digB l := bytes_txt (outB_lt _)
theorem dig_size (l : List Nat) : (dig l).size = (digB l).length := txt_size _
theorem hex_abc (s : ByteArray) (hs : bytes s = [97, 98, 99]) : txt (hexB (bytes (dig (bytes s)))) = hexabc := by
  rw [hs, dig_bytes, digB_abc]
  refine bytes_inj ?_
  rw [bytes_txt (hex_lt _ (outB_lt _))]
  decide +kernel
theorem awake_any (w : World) : Calls Try.prog 28 #[] w fun e w' => e = .returned (.bool true) ∧ Frm0 w w' := by
  have hs1 := fun w => sha_sum { data := #[97, 98, 99] } (by decide) w
  have hx := hex_abc { data := #[97, 98, 99] } rfl
  have hdz : (dig (bytes { data := #[97, 98, 99] })).size ≤ 500000 := by
    rw [dig_size]
    have : bytes { data := #[97, 98, 99] } = [97, 98, 99] := rfl
    rw [this, digB_abc]
    decide
  have hs2 := fun w => hex_any _ hdz w
  generalize dig (bytes { data := #[97, 98, 99] }) = d at *
  rw [hx] at hs2
  have HS1 := Lib.hid hs1
  have HS2 := Lib.hid hs2
  clear hs1 hs2 hx hdz
  go_enter Try.func28, Try.ntmps28
  go_wp2_with fail
  refine (HS1.out _).mono ?_
  rintro e w1 ⟨rfl, hf1⟩
  go_wp2_with fail
  refine (HS2.out _).mono ?_
  rintro e w2 ⟨rfl, hf2⟩
  unfold hexabc
  go_wp2_with fail
  go_ret
  exact ⟨rfl, hf1.trans hf2⟩
end Sh
end Go.Proofs.Ytmpbgnopejeelaa
