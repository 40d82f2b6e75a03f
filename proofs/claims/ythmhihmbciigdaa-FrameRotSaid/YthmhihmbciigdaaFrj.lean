/- The plain law of frames that are cut, or have one byte changed. No program in sight. -/
import Derived.Test.YthmhihmbciigdaaFri
namespace Go.Proofs.Ythmhihmbciigdaa
open Go.RowKit CrcMath
set_option linter.unusedVariables false
set_option linter.unusedSimpArgs false

theorem cat_parts (l : List ByteArray) (k : Nat) : ∃ r, cat l = cat (l.take k) ++ r := by
  suffices ∀ m, ∃ r, cat (l.take (k + m)) = cat (l.take k) ++ r by
    obtain ⟨r, hr⟩ := this l.length
    rw [List.take_of_length_le (by omega)] at hr
    exact ⟨r, hr⟩
  intro m
  induction m with
  | zero => exact ⟨⟨#[]⟩, (app_empty _).symm⟩
  | succ m ih =>
    obtain ⟨r, hr⟩ := ih
    by_cases hm : k + m < l.length
    · refine ⟨r ++ mkF l[k + m], ?_⟩
      rw [← Nat.add_assoc, cat_take l _ hm, hr, ByteArray.append_assoc]
    · rw [← Nat.add_assoc, List.take_of_length_le (by omega)]
      rw [List.take_of_length_le (by omega)] at hr
      exact ⟨r, hr⟩
theorem app_ext_left (a b : ByteArray) (n : Nat) (h : a.size ≤ n) : (a ++ b).extract 0 n = a ++ b.extract 0 (n - a.size) := by
  apply bytes_inj
  rw [bytes_extract, bytes_append, bytes_append, bytes_extract]
  have := bytes_len a
  simp only [List.drop_zero, Nat.sub_zero]
  rw [List.take_append, List.take_of_length_le (by omega), this]
theorem cut_law (l : List ByteArray) (hl : ∀ x ∈ l, x.size ≤ 2000) (k left : Nat) (hk : k ≤ l.length) (h1 : csize (l.take k) ≤ left) (h2 : left ≤ (cat l).size) (h3 : k = l.length ∨ left < csize (l.take (k + 1))) :
    splits ((cat l).extract 0 left) 0 = (l.take k, csize (l.take k), if csize (l.take k) = left then 0 else 3) := by
  have hlk : ∀ x ∈ l.take k, x.size ≤ 2000 := fun x hx => hl x (List.mem_of_mem_take hx)
  by_cases hkl : k = l.length
  · have e : left = (cat l).size := by
      rw [hkl, List.take_length, ← cat_size] at h1
      omega
    subst e
    rw [ext_all _ _ rfl, splits_whole l hl, hkl, List.take_length, ← cat_size, if_pos rfl]
  · have hlt : k < l.length := by omega
    have h3 := h3.resolve_left hkl
    obtain ⟨r, hr⟩ := cat_parts l (k + 1)
    have hx : (cat l).extract 0 left = cat (l.take k) ++ (mkF l[k]).extract 0 (left - csize (l.take k)) := by
      rw [hr, app_ext _ _ _ _ (by rw [cat_size]; omega), cat_take l k hlt, app_ext_left _ _ _ (by rw [cat_size]; omega), cat_size]
    have hsz := csize_take l k hlt
    have hpz := mkF_size l[k]
    rw [hx, splits_cat _ hlk]
    by_cases he : csize (l.take k) = left
    · rw [splits_end, cat_size, if_pos he, List.append_nil]
      rw [ByteArray.size_append, ByteArray.size_extract]
      omega
    · have hs : (cat (l.take k) ++ (mkF l[k]).extract 0 (left - csize (l.take k))).extract (cat (l.take k)).size (cat (l.take k) ++ (mkF l[k]).extract 0 (left - csize (l.take k))).size = (mkF l[k]).extract 0 (left - csize (l.take k)) := app_ext_all _ _ _ (by rw [ByteArray.size_append])
      have hf := fst_pre l[k] (hl _ (List.getElem_mem _)) (left - csize (l.take k)) (by omega)
      rw [splits_err, hs, hf, cat_size, if_neg he, List.append_nil]
      · rw [ByteArray.size_append, ByteArray.size_extract, cat_size]; omega
      · rw [hs, hf]; decide
theorem rot_law (l : List ByteArray) (hl : ∀ x ∈ l, x.size ≤ 2000) (k j v : Nat) (hk : k < l.length) (h1 : csize (l.take k) ≤ j) (h2 : j < csize (l.take (k + 1))) (hv : v < 256) (u : ByteArray) (hu : bytes u = (bytes (cat l)).set j v) (hne : (bytes (cat l))[j]? ≠ some v) :
    splits u 0 = (l.take k, csize (l.take k), 4) := by
  have hlk : ∀ x ∈ l.take k, x.size ≤ 2000 := fun x hx => hl x (List.mem_of_mem_take hx)
  obtain ⟨r, hr⟩ := cat_parts l (k + 1)
  have hsz := csize_take l k hk
  have hpz := mkF_size l[k]
  have hb : bytes (cat l) = bytes (cat (l.take k)) ++ (bytes (mkF l[k]) ++ bytes r) := by rw [hr, cat_take l k hk, bytes_append, bytes_append, List.append_assoc]
  have hlen : (bytes (cat (l.take k))).length = csize (l.take k) := by rw [bytes_len, cat_size]
  have hlm : (bytes (mkF l[k])).length = l[k].size + 10 := by rw [bytes_len, hpz]
  let m' : ByteArray := ⟨(((bytes (mkF l[k])).set (j - csize (l.take k)) v).map UInt8.ofNat).toArray⟩
  have hm' : bytes m' = (bytes (mkF l[k])).set (j - csize (l.take k)) v := by
    show List.map UInt8.toNat (((bytes (mkF l[k])).set (j - csize (l.take k)) v).map UInt8.ofNat) = _
    rw [List.map_map]
    conv => rhs; rw [← List.map_id ((bytes (mkF l[k])).set (j - csize (l.take k)) v)]
    refine List.map_congr_left fun b hb => ?_
    have : b < 256 := (List.mem_or_eq_of_mem_set hb).elim (bytes_lt _ b) (fun e => e ▸ hv)
    simp [Nat.mod_eq_of_lt this]
  have eu : u = cat (l.take k) ++ (m' ++ r) := by
    apply bytes_inj
    rw [hu, bytes_append, bytes_append, hm', hb, List.set_append_right _ _ (by omega), hlen, List.set_append_left _ _ (by omega)]
  have hs : (cat (l.take k) ++ (m' ++ r)).extract (cat (l.take k)).size (cat (l.take k) ++ (m' ++ r)).size = m' ++ r := app_ext_all _ _ _ (by rw [ByteArray.size_append])
  have hne' : (bytes (mkF l[k]))[j - csize (l.take k)]? ≠ some v := by
    rw [hb, List.getElem?_append_right (by omega), hlen, List.getElem?_append_left (by omega)] at hne
    exact hne
  have hf := fst_rotten l[k] m' r (hl _ (List.getElem_mem _)) (by omega) hv hm' hne'
  have hmz : m'.size = l[k].size + 10 := by rw [← bytes_len, hm', List.length_set, hlm]
  rw [eu, splits_cat _ hlk, splits_err, hs, hf, cat_size, List.append_nil]
  · rw [ByteArray.size_append, ByteArray.size_append, cat_size]; omega
  · rw [hs, hf]; decide
end Go.Proofs.Ythmhihmbciigdaa
