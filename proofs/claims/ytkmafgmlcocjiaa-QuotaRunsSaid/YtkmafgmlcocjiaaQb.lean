/- What the reference of quota answers: contracts of Count, Most, Take and Give, for every slice that can be read. -/
import Derived.Test.YtkmafgmlcocjiaaProg
import Derived.Test.YtkmafgmlcocjiaaL
import Derived.Handy
import Derived.Laws.AppendOwn
import Derived.Laws.AppendOwnNone
namespace Go.Proofs.Ytkmafgmlcocjiaa
open Go.RowKit

def ints (xs : List Int) : List Value := xs.map (Value.int .i64)
theorem ints_at (xs : List Int) (k : Nat) (h : k < xs.length) : (ints xs)[k]? = some (.int .i64 (xs.getD k 0)) := by
  simp [ints, List.getElem?_eq_getElem h]
def cnt (t : Int) (xs : List Int) : Nat := xs.countP (fun x => x == t)
theorem cnt_le (t : Int) (xs : List Int) : cnt t xs ≤ xs.length := List.countP_le_length
theorem cnt_step (t : Int) (xs : List Int) (k : Nat) (h : k < xs.length) : cnt t (xs.take (k + 1)) = cnt t (xs.take k) + if xs.getD k 0 == t then 1 else 0 := by
  unfold cnt
  rw [List.take_add_one, List.getElem?_eq_getElem h, List.countP_append]
  simp [List.getElem?_eq_getElem h, List.countP_cons]
def rmost (m : Int) : Int := max (min m 200) 0

theorem count_any (xs : List Int) (t : Int) (v : Value) (w : World) (hs : Sl w v xs.length (ints xs)) :
    Calls Try.prog 38 #[v, .int .i64 t] w fun e w' => e = .returned (.int .i64 (cnt t xs)) ∧ w = w' := by
  have hm := hs.len
  rcases hs with ⟨A, c, rfl, hn, _⟩ | ⟨b, o, c, rfl, h0, h1, h2, _, hc⟩
  · have hx : xs = [] := List.eq_nil_of_length_eq_zero hn
    subst hx
    go_enter Try.func38, Try.ntmps38
    go_wp2
    go_rounds 1
    go_ret
    exact ⟨rfl, rfl⟩
  · clear h1 h2
    have hcell : ∀ k, k < xs.length → w.cell? ⟨b, o + k, none⟩ = some (.int .i64 (xs.getD k 0)) := fun k hk => hc k _ (ints_at xs k hk)
    have hstep := cnt_step t xs
    have HS := Lib.hid hstep
    have HC := Lib.hid hcell
    clear hstep hcell hc
    go_enter Try.func38, Try.ntmps38
    go_wp2
    go_loop [5, 6] (fun n i => ∃ k : Nat, k ≤ xs.length ∧ i = .int .i64 k ∧ n = .int .i64 (cnt t (xs.take k))) (fun _ i => xs.length - (intOf i).toNat)
    case atStart => exact ⟨0, Nat.zero_le _, rfl, rfl⟩
    case round =>
      obtain ⟨k, hk, rfl, rfl⟩ := hrel
      have hle : cnt t (xs.take k) ≤ k := Nat.le_trans (cnt_le _ _) (List.length_take_le _ _)
      by_cases hlt : k < xs.length
      · have hck := HC.out k hlt
        have hst := HS.out k hlt
        have HSt := Lib.hid hst
        clear hst
        generalize hgx : xs.getD k 0 = x at *
        have HG := Lib.hid hgx
        clear hgx
        generalize hgc : cnt t (xs.take k) = c0 at *
        have HGC := Lib.hid hgc
        clear hgc
        go_wp2
        all_goals
          go_round
          case rel => exact ⟨k + 1, by omega, by go_num, by rw [HSt.out]; first | (rw [if_pos (by assumption)]; go_num) | (rw [if_neg (by simp_all)]; go_num)⟩
          case measure => simp [intOf]; omega
      · obtain rfl : k = xs.length := by omega
        go_wp2
        go_ret
        exact ⟨rfl, rfl⟩

theorem most_any (m : Int) (w : World) : Calls Try.prog 39 #[.int .i64 m] w fun e w' => e = .returned (.int .i64 (rmost m)) ∧ w = w' := by
  go_enter Try.func39, Try.ntmps39
  go_wp2
  all_goals go_ret
  · exact ⟨ret_int (by unfold rmost; omega), rfl⟩
  · exact ⟨ret_int (by unfold rmost; omega), rfl⟩
  · exact ⟨ret_int (by unfold rmost; omega), rfl⟩

def rtake (most : Int) (xs : List Int) (t : Int) : List Int × Int :=
  if t < 0 ∨ 3 < t then (xs, 1) else if rmost most ≤ (cnt t xs : Int) then (xs, 2) else (xs ++ [t], 0)

theorem E49 : Elt Try.prog 49 3 (.int .i64 0) 1 8 := Elt.mk' Try.underlying49 (by kernel_rfl) rfl (by omega)
theorem ints_one (xs : List Int) : ∀ c ∈ ints xs, c.oneCell' = true := by
  intro c hc
  obtain ⟨x, _, rfl⟩ := List.mem_map.1 hc
  rfl
theorem ints_len (xs : List Int) : (ints xs).length = xs.length := by simp [ints]

theorem rtake_ok (xs : List Int) (t most : Int) (v : Value) (w : World) (hs : Sl w v xs.length (ints xs)) (hlen : xs.length ≤ 1000) (h0 : 0 ≤ t) (h3 : t ≤ 3) (hf : ¬ rmost most ≤ (cnt t xs : Int)) :
    Calls Try.prog 36 #[v, .int .i64 most, .int .i64 t] w fun e w' => ∃ v', e = .returned (.tuple #[v', .int .i64 0]) ∧ w'.ownsRow w.heap.size 3 1 v' (xs.length + 1) (ints (xs ++ [t])) ∧ Frm0 w w' := by
  have hle := cnt_le t xs
  have hM : xs.length + 1 ≤ maxLen := by unfold maxLen; omega
  go_enter Try.func36, Try.ntmps36
  go_wp2_with (first
   | (go_at_call 38; refine (count_any xs t v _ hs).mono ?_; rintro e w' ⟨rfl, rfl⟩)
   | (go_at_call 39; refine (most_any _ _).mono ?_; rintro e w' ⟨rfl, rfl⟩)
   | (at_builtin; refine wpList_append_sl rfl (.tmp 23) (.tmp 24) rfl E49 w.heap.size (.slice (some ⟨w.heap.size, 0, none⟩) 0 0) v 0 xs.length [] (ints xs) rfl rfl (World.ownsRow_made w #[] 0 (Nat.le_refl _) (by decide) rfl) (hs.frm0 ((Frm.refl _ _).alloc _)) (by simp [ints]) (ints_one xs) (by omega) (by omega) (by simp) ?_; intro v1 w1 hown1 hf1 hat1)
   | (at_builtin; refine wpList_append_sl rfl (.tmp 26) (.tmp 28) rfl E49 w.heap.size v1 (.slice (some ⟨w1.heap.size, 0, none⟩) 1 1) (0 + xs.length) 1 ([] ++ ints xs) (ints [t]) rfl rfl (hown1.alloc _) (Sl.new _ _ _ 1 (by decide) (by omega)) rfl (ints_one [t]) (by omega) (by omega) (by have := hf1.size; simp at this ⊢; omega) ?_; intro v2 w2 hown2 hf2 hat2))
  go_ret2
  refine ⟨_, rfl, by simpa [ints] using hown2, ?_⟩
  have f1 : Frm0 w w1 := ((Frm.refl _ _).alloc _).then_ hf1 (fun i hi h => by simp [Value.ownBlock] at h; omega)
  exact (f1.alloc _).then_ hf2 (fun i hi h => by have := (hown1.lt i h).1; omega)

theorem rtake_bad (t most : Int) (v : Value) (w : World) (h : t < 0 ∨ 3 < t) :
    Calls Try.prog 36 #[v, .int .i64 most, .int .i64 t] w fun e w' => e = .returned (.tuple #[v, .int .i64 1]) ∧ w = w' := by
  rcases h with h | h
  · go_enter Try.func36, Try.ntmps36
    go_wp2
    go_ret2
    exact ⟨rfl, rfl⟩
  · have h0 : 0 ≤ t := by omega
    go_enter Try.func36, Try.ntmps36
    go_wp2
    go_ret2
    exact ⟨rfl, rfl⟩

theorem rtake_full (xs : List Int) (t most : Int) (v : Value) (w : World) (hs : Sl w v xs.length (ints xs)) (h0 : 0 ≤ t) (h3 : t ≤ 3) (hf : rmost most ≤ (cnt t xs : Int)) :
    Calls Try.prog 36 #[v, .int .i64 most, .int .i64 t] w fun e w' => e = .returned (.tuple #[v, .int .i64 2]) ∧ w = w' := by
  have hle := cnt_le t xs
  go_enter Try.func36, Try.ntmps36
  go_wp2_with (first
   | (go_at_call 38; refine (count_any xs t v _ hs).mono ?_; rintro e w' ⟨rfl, rfl⟩)
   | (go_at_call 39; refine (most_any _ _).mono ?_; rintro e w' ⟨rfl, rfl⟩))
  go_ret2
  exact ⟨rfl, rfl⟩

theorem rgive_bad (t : Int) (v : Value) (w : World) (h : t < 0 ∨ 3 < t) :
    Calls Try.prog 34 #[v, .int .i64 t] w fun e w' => e = .returned (.tuple #[v, .int .i64 1]) ∧ w = w' := by
  rcases h with h | h
  · go_enter Try.func34, Try.ntmps34
    go_wp2
    go_ret2
    exact ⟨rfl, rfl⟩
  · have h0 : 0 ≤ t := by omega
    go_enter Try.func34, Try.ntmps34
    go_wp2
    go_ret2
    exact ⟨rfl, rfl⟩

/-- One of them, at place k, has gone. -/
def Without (xs : List Int) (t : Int) (ys : List Int) : Prop := ∃ k, k < xs.length ∧ xs.getD k 0 = t ∧ ys = xs.take k ++ xs.drop (k + 1)
def Gave (w : World) (xs : List Int) (t : Int) (v : Value) (e : Ending) (w' : World) : Prop :=
  (∀ x ∈ xs, x ≠ t) ∧ e = .returned (.tuple #[v, .int .i64 6]) ∧ w = w' ∨
  ∃ v' ys, Without xs t ys ∧ e = .returned (.tuple #[v', .int .i64 0]) ∧ w'.ownsRow w.heap.size 3 1 v' ys.length (ints ys) ∧ Frm0 w w'

theorem gave_none {w : World} {xs : List Int} {t : Int} {v : Value} (h : ∀ j, j < xs.length → xs.getD j 0 ≠ t) : Gave w xs t v (.returned (.tuple #[v, .int .i64 6])) w := by
  refine .inl ⟨fun x hx => ?_, rfl, rfl⟩
  obtain ⟨j, hj, rfl⟩ := List.mem_iff_getElem.1 hx
  have := h j hj
  rwa [List.getD_eq_getElem?_getD, List.getElem?_eq_getElem hj] at this

theorem rgive_any (xs : List Int) (t : Int) (v : Value) (w : World) (hs : Sl w v xs.length (ints xs)) (hlen : xs.length ≤ 1000) (h0 : 0 ≤ t) (h3 : t ≤ 3) :
    Calls Try.prog 34 #[v, .int .i64 t] w (Gave w xs t v) := by
  have hM : xs.length ≤ maxLen := by unfold maxLen; omega
  have hs0 := hs
  rcases hs with ⟨A, c, rfl, hn, _⟩ | ⟨b, o, c, rfl, h00, h1, h2, hb, hc⟩
  · have hx : xs = [] := List.eq_nil_of_length_eq_zero hn
    subst hx
    go_enter Try.func34, Try.ntmps34
    go_wp2
    go_rounds 1
    go_ret2
    exact gave_none (by simp)
  · have hcell : ∀ k, k < xs.length → w.cell? ⟨b, o + k, none⟩ = some (.int .i64 (xs.getD k 0)) := fun k hk => hc k _ (ints_at xs k hk)
    have HC := Lib.hid hcell
    have HC0 := Lib.hid hc
    clear hcell hc
    unfold maxLen at h2
    go_enter Try.func34, Try.ntmps34
    go_wp2
    go_loop [6] (fun i => ∃ k : Nat, k ≤ xs.length ∧ i = .int .i64 k ∧ Hid (∀ j, j < k → xs.getD j 0 ≠ t)) (fun i => xs.length - (intOf i).toNat)
    case atStart => exact ⟨0, Nat.zero_le _, rfl, fun j hj => by omega⟩
    case round =>
      obtain ⟨k, hk, rfl, hno⟩ := hrel
      by_cases hlt : k < xs.length
      · have hck := HC.out k hlt
        generalize hgx : xs.getD k 0 = x at *
        have HG := Lib.hid hgx
        clear hgx
        by_cases hx : x = t
        · subst hx
          have hS1 := hs0.take1 k hk
          have hS2 := hs0.drop1 (k + 1) (by omega) (ints_len xs)
          go_wp2_with (first
           | (at_builtin; refine wpList_append_sl rfl (.tmp 27) (.tmp 30) rfl E49 w.heap.size (.slice (some ⟨w.heap.size, 0, none⟩) 0 0) (.slice (some ⟨b, o, none⟩) k c) 0 k [] ((ints xs).take k) rfl rfl (World.ownsRow_made w #[] 0 (Nat.le_refl _) (by decide) rfl) (hS1.frm0 ((Frm.refl _ _).alloc _)) (by simp [ints]; omega) (fun c hc => ints_one xs c (List.mem_of_mem_take hc)) (by omega) (by omega) (by simp) ?_; intro v1 w1 hown1 hf1 hat1)
           | (at_builtin; refine wpList_append_sl rfl (.tmp 32) (.tmp 36) rfl E49 w.heap.size v1 (.slice (if c = k + 1 then some ⟨b, o, none⟩ else some ⟨b, o + (k + 1), none⟩) (xs.length - (k + 1)) (c - (k + 1))) (0 + k) (xs.length - (k + 1)) ([] ++ (ints xs).take k) ((ints xs).drop (k + 1)) rfl rfl hown1 (hS2.frm0 (((Frm.refl _ _).alloc _).then_ hf1 (fun i hi h => by simp [Value.ownBlock] at h; omega))) (by simp [ints]) (fun c hc => ints_one xs c (List.mem_of_mem_drop hc)) (by omega) (by omega) (by have := hf1.size; simp at this ⊢; omega) ?_; intro v2 w2 hown2 hf2 hat2))
          all_goals
            go_ret2
            refine .inr ⟨v2, xs.take k ++ xs.drop (k + 1), ⟨k, hlt, HG.out, rfl⟩, rfl, ?_, ?_⟩
            · have e1 : ints (xs.take k ++ xs.drop (k + 1)) = [] ++ List.take k (ints xs) ++ List.drop (k + 1) (ints xs) := by simp [ints]
              have e2 : (xs.take k ++ xs.drop (k + 1)).length = 0 + k + (xs.length - (k + 1)) := by simp; omega
              rw [e1, e2]; exact hown2
            · have f1 : Frm0 w w1 := ((Frm.refl _ _).alloc _).then_ hf1 (fun i hi h => by simp [Value.ownBlock] at h; omega)
              exact f1.then_ hf2 (fun i hi h => by have := (hown1.lt i h).1; omega)
        · go_wp2
          go_round
          case rel => exact ⟨k + 1, by omega, by go_num, fun j hj => by
            by_cases hjk : j = k
            · subst hjk; rw [HG.out]; exact hx
            · exact hno j (by omega)⟩
          case measure => simp [intOf]; omega
      · obtain rfl : k = xs.length := by omega
        go_wp2
        go_ret2
        exact gave_none hno
end Go.Proofs.Ytkmafgmlcocjiaa
