/- The plain law of frames: what is made is read again; a beginning of a frame, and a frame with one byte changed, are told. No program in sight. -/
import Derived.Test.YthmhihmbciigdaaFrf
namespace Go.Proofs.Ythmhihmbciigdaa
open Go.RowKit CrcMath
set_option linter.unusedVariables false
set_option linter.unusedSimpArgs false

theorem run_inj {l : List Nat} (hl : ∀ b ∈ l, b < 256) {s t : Nat} (hs : s < 2 ^ 32) (ht : t < 2 ^ 32) (h : run s l = run t l) : s = t := by
  rw [run_val s l hl, run_val t l hl, Tn_xor, Tn_xor] at h
  have h1 := congrArg (fun x => x ^^^ Tn (8 * l.length) (val l)) h
  simp only [Nat.xor_assoc, Nat.xor_self, Nat.xor_zero] at h1
  exact Tn_ne hs ht h1
theorem B_lt {s b : Nat} (hs : s < 2 ^ 32) (hb : b < 256) : B s b < 2 ^ 32 := Tn_lt (Nat.xor_lt_two_pow hs (by omega))
theorem run_set_ne {l : List Nat} (hl : ∀ b ∈ l, b < 256) {j v s : Nat} (hj : j < l.length) (hv : v < 256) (hne : v ≠ l[j]) (hs : s < 2 ^ 32) : run s (l.set j v) ≠ run s l := by
  intro h
  have e1 : l = l.take j ++ l[j] :: l.drop (j + 1) := by rw [List.getElem_cons_drop, List.take_append_drop]
  have e2 : l.set j v = l.take j ++ v :: l.drop (j + 1) := List.set_eq_take_append_cons_drop .. |>.trans (if_pos hj)
  have hlj := hl _ (List.getElem_mem hj)
  have ht : ∀ b ∈ l.take j, b < 256 := fun b hb => hl b (List.mem_of_mem_take hb)
  have hd : ∀ b ∈ l.drop (j + 1), b < 256 := fun b hb => hl b (List.mem_of_mem_drop hb)
  have hr : run s (l.take j) < 2 ^ 32 := run_lt hs ht
  generalize hx : l[j] = x at *
  rw [e2] at h
  conv at h => rhs; rw [e1]
  rw [run_append, run_append] at h
  have h2 : run (B (run s (l.take j)) v) (l.drop (j + 1)) = run (B (run s (l.take j)) x) (l.drop (j + 1)) := h
  have h3 := run_inj hd (B_lt hr hv) (B_lt hr hlj) h2
  unfold B at h3
  have h4 := Tn_ne (Nat.xor_lt_two_pow hr (by omega)) (Nat.xor_lt_two_pow hr (by omega)) h3
  have h5 := congrArg (fun y => run s (l.take j) ^^^ y) h4
  simp only [← Nat.xor_assoc, Nat.xor_self, Nat.zero_xor] at h5
  exact hne h5
theorem four_inj {a b : Nat} (ha : a < 4294967296) (hb : b < 4294967296) (h : four a = four b) : a = b := by
  have h1 := congrArg (fun x => x.data.toList.map UInt8.toNat) h
  simp only [four, strOfNums_data, List.map_cons, List.map_nil, List.cons.injEq, and_true] at h1
  obtain ⟨h1, h2, h3, h4⟩ := h1
  simp only [UInt8.toNat_ofNat'] at h1 h2 h3 h4
  omega
theorem crc_set_ne {l : List Nat} (hl : ∀ b ∈ l, b < 256) {j v : Nat} (hj : j < l.length) (hv : v < 256) (hne : v ≠ l[j]) : crcOf (l.set j v) ≠ crcOf l := by
  intro h
  unfold crcOf crcNext at h
  have hset : ∀ b ∈ l.set j v, b < 256 := fun b hb => (List.mem_or_eq_of_mem_set hb).elim (hl b) (fun e => e ▸ hv)
  have h1 := run_lt (inv32_lt 0) hl
  have h2 := run_lt (inv32_lt 0) hset
  have h3 : run (inv32 0) (l.set j v) = run (inv32 0) l := by unfold inv32 at *; omega
  exact run_set_ne hl hj hv hne (inv32_lt 0) h3

/-- A sealed text with one byte changed isn't sealed. -/
theorem sealed_rot {m h : ByteArray} {j v : Nat} (hj : j < m.size + 4) (hv : v < 256) (hb : bytes h = (bytes (sealed m)).set j v) (hne : (bytes (sealed m))[j]? ≠ some v) : sealed (h.extract 0 m.size) ≠ h := by
  intro e
  have hlm : (bytes m).length = m.size := bytes_len m
  have hl4 : (bytes (four (crcOf (bytes m)))).length = 4 := by rw [bytes_len, four_size]
  have hsl : bytes (sealed m) = bytes m ++ bytes (four (crcOf (bytes m))) := by unfold sealed; rw [bytes_append]
  have hx : bytes (h.extract 0 m.size) = ((bytes (sealed m)).set j v).take m.size := by rw [bytes_extract, hb]; simp
  have hh : bytes h = bytes (h.extract 0 m.size) ++ bytes (four (crcOf (bytes (h.extract 0 m.size)))) := by
    conv => lhs; rw [← e]
    unfold sealed; rw [bytes_append]
  rw [hx, hb] at hh
  by_cases hjm : j < m.size
  · rw [hsl, List.set_append_left _ _ (by omega)] at hh hx
    rw [List.take_append_of_le_length (by rw [List.length_set]; omega), List.take_of_length_le (by rw [List.length_set]; omega)] at hh hx
    have h2 := List.append_cancel_left hh
    have h3 := four_inj (crcNext_lt _ _) (crcNext_lt _ _) (bytes_inj h2)
    have hn : v ≠ (bytes m)[j]'(by omega) := by
      intro ev
      rw [hsl, List.getElem?_append_left (by omega), List.getElem?_eq_getElem (by omega)] at hne
      exact hne (by rw [ev])
    exact crc_set_ne (bytes_lt m) (by omega) hv hn h3.symm
  · rw [hsl, List.set_append_right _ _ (by omega)] at hh hx
    rw [List.take_append_of_le_length (by omega), List.take_of_length_le (by omega)] at hh hx
    have h2 := List.append_cancel_left hh
    apply hne
    rw [hsl, List.getElem?_append_right (by omega)]
    have h3 := congrArg (fun l => l[j - (bytes m).length]?) h2
    simp only [List.getElem?_set, if_true] at h3
    rw [if_pos (by omega)] at h3
    exact h3.symm

theorem app_ext (a b : ByteArray) (i j : Nat) (h : j ≤ a.size) : (a ++ b).extract i j = a.extract i j := by
  rw [ByteArray.extract_append]
  have : b.extract (i - a.size) (j - a.size) = ⟨#[]⟩ := by
    rw [show j - a.size = 0 by omega]
    apply bytes_inj
    rw [bytes_extract]
    simp [bytes]
  rw [this]
  apply bytes_inj
  rw [bytes_append]
  simp [bytes]
theorem app_ext_right (a b : ByteArray) (i j : Nat) : (a ++ b).extract (a.size + i) (a.size + j) = b.extract i j := by
  apply bytes_inj
  rw [bytes_extract, bytes_extract, bytes_append]
  have := bytes_len a
  rw [List.drop_append, List.drop_of_length_le (by omega)]
  rw [show a.size + i - (bytes a).length = i by omega, show a.size + j - (a.size + i) = j - i by omega]
  rfl
theorem mkF_size (s : ByteArray) : (mkF s).size = s.size + 10 := by
  unfold mkF
  rw [ByteArray.size_append, sealed_size, sealed_size, hd_size]
  omega
theorem hd6 (s : ByteArray) : (sealed (hd s.size)).size = 6 := by rw [sealed_size, hd_size]
theorem mkF_head (s : ByteArray) : (mkF s).extract 0 6 = sealed (hd s.size) := by
  unfold mkF
  have := extract_app (sealed (hd s.size)) (sealed s)
  rwa [hd6] at this
theorem ext_all (s : ByteArray) (n : Nat) (h : n = s.size) : s.extract 0 n = s := by
  subst h
  apply bytes_inj
  rw [bytes_extract]
  simp only [List.drop_zero, Nat.sub_zero]
  exact List.take_of_length_le (by rw [bytes_len]; exact Nat.le_refl _)
theorem mkF_hd (s : ByteArray) : (mkF s).extract 0 2 = hd s.size := by
  unfold mkF
  rw [app_ext _ _ _ _ (by rw [hd6]; omega)]
  unfold sealed
  rw [app_ext _ _ _ _ (by rw [hd_size]; omega), ext_all _ _ (hd_size _).symm]
theorem mkF_body (s : ByteArray) (j : Nat) : (mkF s).extract 6 (j + 6) = (sealed s).extract 0 j := by
  have h := app_ext_right (sealed (hd s.size)) (sealed s) 0 j
  rw [hd6, Nat.add_comm 6 j] at h
  exact h
theorem sz_bytes (s : ByteArray) : sz s = (bytes s).getD 0 0 * 256 + (bytes s).getD 1 0 := by
  unfold sz bytes
  simp only [List.getD_eq_getElem?_getD, List.getElem?_map]
  cases s.data.toList[0]? <;> cases s.data.toList[1]? <;> rfl
theorem sz_ext {s t : ByteArray} (h : s.extract 0 2 = t.extract 0 2) : sz s = sz t := by
  rw [sz_bytes, sz_bytes]
  have h1 := congrArg bytes h
  rw [bytes_extract, bytes_extract] at h1
  simp only [List.drop_zero] at h1
  have h2 : ∀ i, i < 2 → (bytes s)[i]? = (bytes t)[i]? := fun i hi => by
    have := congrArg (fun l => l[i]?) h1
    simpa [List.getElem?_take, hi] using this
  simp only [List.getD_eq_getElem?_getD, h2 0 (by omega), h2 1 (by omega)]
theorem sz_mkF (s t : ByteArray) (hs : s.size ≤ 2000) (h : t.extract 0 2 = hd s.size) : sz t = s.size := by
  have h2 : (hd s.size).extract 0 2 = hd s.size := ext_all _ _ (hd_size _).symm
  rw [sz_ext (h.trans h2.symm), sz_bytes]
  unfold hd bytes
  rw [strOfNums_data]
  simp only [List.map_cons, List.map_nil, List.getD_cons_zero, List.getD_cons_succ, UInt8.toNat_ofNat']
  omega

theorem fst_mk (s t : ByteArray) (hs : s.size ≤ 2000) : fst (mkF s ++ t) = (s, s.size + 10, 0) := by
  have hz := mkF_size s
  have hsz : (mkF s ++ t).size = s.size + 10 + t.size := by rw [ByteArray.size_append, hz]
  have e2 : (mkF s ++ t).extract 0 2 = hd s.size := by rw [app_ext _ _ _ _ (by omega), mkF_hd]
  have e6 : (mkF s ++ t).extract 0 6 = sealed (hd s.size) := by rw [app_ext _ _ _ _ (by omega), mkF_head]
  have es := sz_mkF s _ hs e2
  have ea : (mkF s ++ t).extract 6 (s.size + 6) = s := by
    rw [app_ext _ _ _ _ (by omega), mkF_body]
    unfold sealed
    exact extract_app _ _
  have eb : (mkF s ++ t).extract 6 (s.size + 10) = sealed s := by
    rw [app_ext _ _ _ _ (by omega), show s.size + 10 = (s.size + 4) + 6 by omega, mkF_body, ext_all _ _ (sealed_size s).symm]
  rw [fst_got (by omega) (by rw [e2, e6]; simp) (by omega) (by omega) (by rw [es, ea, eb]; simp), es, ea]
theorem fst_pre (s : ByteArray) (hs : s.size ≤ 2000) (j : Nat) (hj : j < s.size + 10) : fst ((mkF s).extract 0 j) = (⟨#[]⟩, 0, 3) := by
  have hz := mkF_size s
  have hsz : ((mkF s).extract 0 j).size = j := by rw [ByteArray.size_extract]; omega
  by_cases h6 : j < 6
  · exact fst_six (by omega)
  have e2 : ((mkF s).extract 0 j).extract 0 2 = hd s.size := by rw [ext_ext0 _ _ _ _ (by omega), Nat.zero_add, mkF_hd]
  have e6 : ((mkF s).extract 0 j).extract 0 6 = sealed (hd s.size) := by rw [ext_ext0 _ _ _ _ (by omega), Nat.zero_add, mkF_head]
  have es := sz_mkF s _ hs e2
  exact fst_cut (by omega) (by rw [e2, e6]; simp) (by omega) (by omega)
theorem fst_rotten (s u t : ByteArray) (hs : s.size ≤ 2000) {j v : Nat} (hj : j < s.size + 10) (hv : v < 256) (hb : bytes u = (bytes (mkF s)).set j v) (hne : (bytes (mkF s))[j]? ≠ some v) : fst (u ++ t) = (⟨#[]⟩, 0, 4) := by
  have hz := mkF_size s
  have hu : u.size = s.size + 10 := by rw [← bytes_len, hb, List.length_set, bytes_len, hz]
  have hsz : (u ++ t).size = s.size + 10 + t.size := by rw [ByteArray.size_append, hu]
  have hmk : bytes (mkF s) = bytes (sealed (hd s.size)) ++ bytes (sealed s) := by unfold mkF; rw [bytes_append]
  have h6 : (bytes (sealed (hd s.size))).length = 6 := by rw [bytes_len, hd6]
  by_cases hj6 : j < 6
  · have e6 : bytes ((u ++ t).extract 0 6) = (bytes (sealed (hd s.size))).set j v := by
      rw [app_ext _ _ _ _ (by omega), bytes_extract, hb, hmk, List.set_append_left _ _ (by omega)]
      simp only [List.drop_zero, Nat.sub_zero]
      rw [List.take_append_of_le_length (by rw [List.length_set]; omega), List.take_of_length_le (by rw [List.length_set]; omega)]
    have hne' : (bytes (sealed (hd s.size)))[j]? ≠ some v := by
      rw [hmk, List.getElem?_append_left (by omega)] at hne
      exact hne
    have := sealed_rot (by rw [hd_size]; omega) hv e6 hne'
    rw [hd_size, ext_ext0 _ _ _ _ (by omega)] at this
    exact fst_sum (by omega) this
  · have e6 : (u ++ t).extract 0 6 = sealed (hd s.size) := by
      apply bytes_inj
      rw [app_ext _ _ _ _ (by omega), bytes_extract, hb, hmk, List.set_append_right _ _ (by omega)]
      simp only [List.drop_zero, Nat.sub_zero]
      rw [List.take_append_of_le_length (by omega), List.take_of_length_le (by omega)]
    have e2 : (u ++ t).extract 0 2 = hd s.size := by
      have := congrArg (fun x => x.extract 0 2) e6
      rw [ext_ext0 _ _ _ _ (by omega)] at this
      rw [show (0 : Nat) + 2 = 2 from rfl] at this
      rw [this]
      have := extract_app (hd s.size) (four (crcOf (bytes (hd s.size))))
      rwa [hd_size] at this
    have es := sz_mkF s _ hs e2
    have eb : bytes ((u ++ t).extract 6 (s.size + 10)) = (bytes (sealed s)).set (j - 6) v := by
      rw [app_ext _ _ _ _ (by omega), bytes_extract, hb, hmk, List.set_append_right _ _ (by omega), h6]
      rw [List.drop_append, List.drop_of_length_le (by omega), h6]
      simp only [Nat.sub_self, List.drop_zero, List.nil_append]
      exact List.take_of_length_le (by rw [List.length_set, bytes_len, sealed_size]; omega)
    have hne' : (bytes (sealed s))[j - 6]? ≠ some v := by
      rw [hmk, List.getElem?_append_right (by omega), h6] at hne
      exact hne
    have := sealed_rot (by omega) hv eb hne'
    rw [ext_ext0 _ _ _ _ (by omega), Nat.add_comm] at this
    exact fst_rot (by omega) (by rw [e2, e6]; simp) (by omega) (by omega) (by rw [es]; exact this)

/-- Frames, one behind the other. -/
def cat (l : List ByteArray) : ByteArray := l.foldl (fun a s => a ++ mkF s) ⟨#[]⟩
theorem cat_nil : cat [] = ⟨#[]⟩ := rfl
theorem cat_snoc (l : List ByteArray) (s : ByteArray) : cat (l ++ [s]) = cat l ++ mkF s := by simp [cat]
def csize (l : List ByteArray) : Nat := l.foldl (fun a s => a + (s.size + 10)) 0
theorem cat_size (l : List ByteArray) : (cat l).size = csize l := by
  suffices ∀ (l : List ByteArray) (a : ByteArray), (l.foldl (fun a s => a ++ mkF s) a).size = l.foldl (fun a s => a + (s.size + 10)) a.size from this l _
  intro l
  induction l with
  | nil => intro a; rfl
  | cons s l ih => intro a; rw [List.foldl_cons, List.foldl_cons, ih, ByteArray.size_append, mkF_size]
theorem csize_snoc (l : List ByteArray) (s : ByteArray) : csize (l ++ [s]) = csize l + (s.size + 10) := by simp [csize]
theorem csize_take (l : List ByteArray) (k : Nat) (h : k < l.length) : csize (l.take (k + 1)) = csize (l.take k) + (l[k].size + 10) := by rw [← List.take_append_getElem h, csize_snoc]
theorem cat_take (l : List ByteArray) (k : Nat) (h : k < l.length) : cat (l.take (k + 1)) = cat (l.take k) ++ mkF l[k] := by rw [← List.take_append_getElem h, cat_snoc]
theorem app_ext_all (a b : ByteArray) (n : Nat) (h : n = a.size + b.size) : (a ++ b).extract a.size n = b := by
  subst h
  have := app_ext_right a b 0 b.size
  rw [Nat.add_zero] at this
  rw [this, ext_all _ _ rfl]
/-- Frames that are whole are there; what is behind them is read as it is. -/
theorem splits_cat (l : List ByteArray) (hl : ∀ x ∈ l, x.size ≤ 2000) (t : ByteArray) : splits (cat l ++ t) 0 = (l ++ (splits (cat l ++ t) (cat l).size).1, (splits (cat l ++ t) (cat l).size).2) := by
  suffices ∀ k, k ≤ l.length → splits (cat l ++ t) 0 = (l.take k ++ (splits (cat l ++ t) (csize (l.take k))).1, (splits (cat l ++ t) (csize (l.take k))).2) by
    have h := this l.length (Nat.le_refl _)
    rwa [List.take_length, ← cat_size] at h
  intro k
  induction k with
  | zero => intro _; simp [csize]
  | succ k ih =>
    intro hk
    rw [ih (by omega)]
    have hb : ∀ (l : List ByteArray) (k : Nat), k < l.length → ∃ r, cat l = cat (l.take (k + 1)) ++ r := by
      intro l k hk
      suffices ∀ m, ∃ r, cat (l.take (k + 1 + m)) = cat (l.take (k + 1)) ++ r by
        obtain ⟨r, hr⟩ := this (l.length - (k + 1))
        rw [show k + 1 + (l.length - (k + 1)) = l.length by omega, List.take_length] at hr
        exact ⟨r, hr⟩
      intro m
      induction m with
      | zero => exact ⟨⟨#[]⟩, by apply bytes_inj; rw [bytes_append]; simp [bytes]⟩
      | succ m ih =>
        obtain ⟨r, hr⟩ := ih
        by_cases hm : k + 1 + m < l.length
        · refine ⟨r ++ mkF l[k + 1 + m], ?_⟩
          rw [← Nat.add_assoc, cat_take l _ hm, hr, ByteArray.append_assoc]
        · rw [← Nat.add_assoc, List.take_of_length_le (by omega)]
          rw [List.take_of_length_le (by omega)] at hr
          exact ⟨r, hr⟩
    obtain ⟨r, hr⟩ := hb l k (by omega)
    have hx : (cat l ++ t).extract (csize (l.take k)) (cat l ++ t).size = mkF l[k] ++ (r ++ t) := by
      rw [hr, cat_take l k (by omega), ← cat_size, ByteArray.append_assoc, ByteArray.append_assoc]
      exact app_ext_all _ _ _ (by rw [ByteArray.size_append])
    have hlt : csize (l.take k) < (cat l ++ t).size := by
      rw [hr, cat_take l k (by omega), ByteArray.size_append, ByteArray.size_append, ByteArray.size_append, cat_size, mkF_size]
      omega
    have hf := fst_mk l[k] (r ++ t) (hl _ (List.getElem_mem _))
    have hg := splits_go hlt (by rw [hx, hf])
    rw [hg, hx, hf, csize_take l k (by omega)]
    simp only
    rw [← List.take_append_getElem (show k < l.length by omega), List.append_assoc]
    rfl
end Go.Proofs.Ythmhihmbciigdaa
