/- The cache: Keys. -/
import Derived.Test.YthmhihmbciigdaaLrg
import Derived.Lib.Builder
namespace Go.Proofs.Ythmhihmbciigdaa
open Go.RowKit Go.Maps
set_option linter.unusedVariables false
set_option linter.unusedSimpArgs false
set_option maxRecDepth 100000
namespace Lr
def hd : List Nat → Nat → Nat
  | [], r => r
  | b :: _, _ => b
theorem Seg.hd {f : Nat → Nat} {x y : Nat} {q : List Nat} (h : Seg f x q y) : f x = hd q y := by
  cases q with
  | nil => exact h
  | cons b q => exact h.1
def slen : Value → Nat
  | .slice _ n _ => n
  | _ => 0
theorem slen_own {w : World} {base : Nat} {e : TypeId} {size n : Nat} {v : Value} {xs : List Value} (h : w.ownsRow base e size v n xs) : slen v = n := by
  rcases h.2 with ⟨rfl, h2⟩ | ⟨g, cap, cur, rfl, _⟩
  · exact h2.symm
  · rfl
theorem iNd : ∃ j, Try.prog.info? 88 = some j ∧ j.size ≠ 0 := by
  have h : (Try.prog.info? 88).map (·.size) = some 4 := by kernel_rfl
  obtain ⟨j, h1, h2⟩ := Option.map_eq_some_iff.1 h
  exact ⟨j, h1, by rw [h2]; decide⟩
theorem ne_same (a : Nat) (w : World) : (binOp .neq 86 (.pointer (some ⟨a, 0, none⟩)) (.pointer (some ⟨a, 0, none⟩))).run Try.prog w = .ok (.bool false) w := by
  obtain ⟨j, hj, _⟩ := iNd
  exact Lib.run_neq_ptr_same w _ Try.underlying86 hj
theorem ne_other {a b : Nat} {w : World} {ca cb : Array Value} {ta tb : TypeId} (hne : a ≠ b) (ha : w.heap[a]? = some (.cells ca ta (0, 0))) (hb : w.heap[b]? = some (.cells cb tb (0, 0))) :
    (binOp .neq 86 (.pointer (some ⟨a, 0, none⟩)) (.pointer (some ⟨b, 0, none⟩))).run Try.prog w = .ok (.bool true) w := by
  obtain ⟨j, hj, hsz⟩ := iNd
  have hne' : (⟨a, 0, none⟩ : Addr) ≠ ⟨b, 0, none⟩ := fun e => hne (by cases e; rfl)
  have h : ∀ d : Nat, (Op.equalIn (d + 1) 86 (.pointer (some ⟨a, 0, none⟩)) (.pointer (some ⟨b, 0, none⟩))).run Try.prog w = .ok false w := fun d => by
    simp [Op.equalIn, run_underlying Try.underlying86, sizeOf, typeInfo, hj, hsz, run_sameAddr_other w hne' ha hb]
  simp only [binOp]
  simp [Op.equal, Op.maxDepth, h 9999]
section
variable {w w1 : World} {m r c N : Nat} {n : Int} {l p q : List Nat} {ky vl : Nat → ByteArray} {nx bk : Nat → Nat} {a : Nat} {S : Nat → Prop}
theorem keys_nil (w : World) : Calls Try.prog 34 #[.pointer none] w fun e w' => e = .returned (.slice none 0 0) ∧ w = w' := by
  go_enter Try.func34, Try.ntmps34
  go_wp2
  go_ret
  exact ⟨rfl, rfl⟩
set_option maxHeartbeats 2000000 in
theorem keys_any (h : At w m r c n N l ky vl nx bk) (hll : l.length ≤ 1000) : Calls Try.prog 34 #[.pointer (some ⟨c, 0, none⟩)] w fun e w' => ∃ v, e = .returned v ∧ w'.ownsRow w.heap.size 9 1 v l.length (strs (l.map ky)) ∧ Frm0 w w' := by
  have HH := Lib.hid h
  obtain ⟨k0, k1, k2⟩ := Bk.c3 h.blk
  have c2 := (h.nds.c (List.mem_cons_self ..)).2.2.1
  obtain ⟨z0, hz0⟩ : ∃ z, hd l r = z := ⟨_, rfl⟩
  rw [h.ring.seg.hd, hz0] at c2
  have HZ0 := Lib.hid hz0
  clear hz0
  clear h
  go_enter Try.func34, Try.ntmps34
  go_wp2
  go_loopw [3, 4] (fun v i wr => ∃ (p q : List Nat) (z : Nat), l = p ++ q ∧ Hid (hd q r = z) ∧ i = .pointer (some ⟨z, 0, none⟩) ∧ wr.ownsRow w.heap.size 9 1 v p.length (strs (p.map ky)) ∧ Frm0 w wr) (fun v _ _ => l.length - slen v)
  case atStart => exact ⟨[], l, z0, rfl, (show Hid _ from HZ0.out), rfl, World.ownsRow_nil _ _ _ _, Frm.refl _ _⟩
  case round =>
    obtain ⟨p, q, z, hl, hz, rfl, hown, hF⟩ := hrel
    have hr := HH.out.frm0 hF
    obtain ⟨k0, k1, k2⟩ := Bk.c3 hr.blk
    cases q with
    | nil =>
      have hnp := ne_same r wr
      clear hr
      obtain rfl : r = z := hz
      go_wp2
      go_ret
      rw [List.append_nil] at hl
      subst hl
      exact ⟨_, rfl, hown, hF⟩
    | cons a q =>
      obtain rfl : a = z := hz
      obtain ⟨z1, hz1⟩ : ∃ z, hd q r = z := ⟨_, rfl⟩
      have ham : a ∈ r :: l := by rw [hl]; exact List.mem_cons_of_mem _ mem_mid
      obtain ⟨n0, n1, n2, n3⟩ := hr.nds.c ham
      have hsg := hr.ring.seg
      rw [hl] at hsg
      have hnx := (Seg.app.1 hsg).2.hd
      rw [hz1] at hnx
      have HZ1 := Lib.hid hz1
      clear hz1
      have har : a ≠ r := fun e => by
        have := hr.ring.nd
        rw [List.nodup_cons] at this
        exact this.1 (by rw [← e, hl]; exact mem_mid)
      have hlen : p.length + 1 ≤ l.length := by rw [hl]; simp
      have hnp := ne_other har (hr.nds a ham) (hr.nds r (List.mem_cons_self ..))
      have HR := Lib.hid hr
      clear hr hsg
      go_wp2_with (at_builtin; refine wpList_append_sl rfl (.tmp 24) (.tmp 29) rfl Estr w.heap.size _ (.slice (some ⟨wr.heap.size, 0, none⟩) 1 1) p.length 1 (strs (p.map ky)) (strs [ky a]) rfl rfl (hown.alloc _) (Sl.new _ _ _ 1 (by decide) (by omega)) rfl (strs_one [ky a]) (by unfold maxLen; omega) (by omega) (by have := hF.size; simp; omega) ?_; intro v2 w2 hown2 hf2 hat2; have hF2 := (hF.alloc (.cells #[.string (ky a)] 9)).then_ hf2 (fun i hi h => by have := (hown.lt i h).1; omega); have n2' := ((HH.out.frm0 hF2).nds.c ham).2.2.1; rw [hnx] at n2')
      go_roundw
      case rel =>
        refine ⟨p ++ [a], q, z1, by rw [hl]; simp, (show Hid _ from HZ1.out), rfl, ?_, ?_⟩
        · have e1 : strs ((p ++ [a]).map ky) = strs (p.map ky) ++ strs [ky a] := by simp [strs]
          rw [e1, List.length_append]; exact hown2
        · exact hF2
      case measure =>
        have h1 := slen_own hown
        have h2 := slen_own hown2
        omega
end
end Lr
end Go.Proofs.Ythmhihmbciigdaa
