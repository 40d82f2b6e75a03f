/- The laws of the cache: awake. -/
import Derived.Test.YthmhihmbciigdaaLrn
namespace Go.Proofs.Ythmhihmbciigdaa
open Go.RowKit Go.Maps
set_option linter.unusedVariables false
set_option linter.unusedSimpArgs false
set_option maxRecDepth 100000
namespace Lr
def ba : ByteArray := ⟨#[97]⟩
def bb : ByteArray := ⟨#[98]⟩
def bc : ByteArray := ⟨#[99]⟩
def b1 : ByteArray := ⟨#[49]⟩
def b2 : ByteArray := ⟨#[50]⟩
def b3 : ByteArray := ⟨#[51]⟩
theorem ne_ab : ¬ ba = bb := by intro h; unfold ba bb at h; injection h with h; simp at h
theorem ne_ac : ¬ ba = bc := by intro h; unfold ba bc at h; injection h with h; simp at h
theorem ne_bc : ¬ bb = bc := by intro h; unfold bb bc at h; injection h with h; simp at h
theorem ne_ba : ¬ bb = ba := fun h => ne_ab h.symm
theorem d1 : drp [(ba, b1)] bb = [(ba, b1)] := by unfold drp; simp [ne_ab]
theorem p2 : pk [(bb, b2), (ba, b1)] ba = (b1, true) := by unfold pk fnd; rw [if_neg ne_ba]; unfold fnd; rw [if_pos rfl]
theorem g2 : gt [(bb, b2), (ba, b1)] ba = [(ba, b1), (bb, b2)] := by unfold gt fnd; rw [if_neg ne_ba]; unfold fnd; rw [if_pos rfl]; unfold drp; simp [ne_ba]
theorem d3 : drp [(ba, b1), (bb, b2)] bc = [(ba, b1), (bb, b2)] := by unfold drp; simp [ne_ac, ne_bc]
theorem last3 {p : PP} {z : ByteArray × ByteArray} {x y t : ByteArray × ByteArray} (h : [x, y, t] = p ++ [z]) : p = [x, y] ∧ z = t := by
  have : [x, y] ++ [t] = p ++ [z] := h
  have h2 := List.append_inj' this rfl
  exact ⟨h2.1.symm, (List.cons.inj h2.2).1.symm⟩
section
variable {w : World} {m r c N : Nat} {n : Int} {ps : PP} {k : ByteArray} {U : Nat → Prop}
theorem ca_put_in (h : Ca w m r c n N ps U) (hk : k.size ≤ 30) (hN : N < 1000000) (hp : (ps.length : Int) ≤ n) (hn : n ≤ 100) (v : ByteArray) (hc : (((drp ps k).length : Nat) : Int) + 1 ≤ n) : Calls Try.prog 32 #[.pointer (some ⟨c, 0, none⟩), .string k, .string v] w fun e w' =>
    e = .returned (.tuple #[.string ⟨#[]⟩, .bool false]) ∧ Ca w' m r c n (N + 1) ((k, v) :: drp ps k) (fun i => U i ∨ i = w.heap.size) ∧ Frm U w w' := by
  refine (ca_put h hk hN hp hn v).mono ?_
  rintro e w' ⟨⟨_, he, hA⟩ | ⟨h, _⟩, hf⟩
  · exact ⟨he, hA, hf⟩
  · omega
end
set_option maxHeartbeats 4000000 in
theorem lawake (w : World) : Calls Try.prog 23 #[] w fun e w' => e = .returned (.bool true) ∧ Frm0 w w' := by
  have hm : mostI 2 = 2 := by rfl
  go_enter Try.func23, Try.ntmps23
  go_wp2_with fail
  refine (ca_new 2 w).mono ?_
  rintro e w1 ⟨rfl, hA1, hf1⟩
  rw [hm] at hA1
  generalize w.heap.size + 2 = c at *
  go_wp2_with fail
  refine (ca_put_in (k := ba) hA1 (by decide) (by omega) (by decide) (by omega) b1 (by decide)).mono ?_
  rintro e w2 ⟨rfl, hA2, hf2⟩
  have hF2 := (hf1.mono (T := fun k => w.heap.size ≤ k) (fun _ _ h => h.elim)).then_ hf2 (fun i _ h => h)
  have hA2 := hA2.mono (V := fun k => w.heap.size ≤ k) (Nat.le_refl _) (fun k h _ => h.elim (fun h => h) (fun e => by have := hf1.size; omega))
  clear hA1 hf1 hf2
  go_wp2_with fail
  refine (ca_put_in (k := bb) hA2 (by decide) (by omega) (by decide) (by omega) b2 (by rw [show drp ((ba, b1) :: drp [] ba) bb = [(ba, b1)] from d1]; decide)).mono ?_
  rw [show drp ((ba, b1) :: drp [] ba) bb = [(ba, b1)] from d1]
  rintro e w3 ⟨rfl, hA3, hf3⟩
  have hF3 := hF2.then_ hf3 (fun i _ h => h)
  have hA3 := hA3.mono (V := fun k => w.heap.size ≤ k) (Nat.le_refl _) (fun k h _ => h.elim (fun h => h) (fun e => by have := hF2.size; omega))
  clear hA2 hF2 hf3
  go_wp2_with fail
  refine (ca_get (k := ba) hA3 (by decide)).mono ?_
  rw [p2, g2]
  rintro e w4 ⟨rfl, hA4, hf4⟩
  have hF4 := hF3.then_ hf4 (fun i _ h => h)
  clear hA3 hF3 hf4
  go_wp2_with fail
  refine (ca_put (k := bc) hA4 (by decide) (by omega) (by decide) (by omega) b3).mono ?_
  rw [d3]
  rintro e w5 ⟨⟨h, _⟩ | ⟨_, p, z, hpz, rfl, hA5⟩, hf5⟩
  · exact absurd h (by decide)
  obtain ⟨rfl, rfl⟩ := last3 hpz
  have hF5 := hF4.then_ hf5 (fun i _ h => h)
  clear hA4 hF4 hf5 hpz
  go_wp2_with fail
  refine (ca_keys hA5 (by decide)).mono ?_
  rintro e w6 ⟨v6, rfl, hown, hf6⟩
  have hF6 := hF5.then0 hf6
  have hown : w6.ownsRow w5.heap.size 9 1 v6 2 [.string bc, .string ba] := hown
  obtain ⟨g, cp, rfl⟩ := owns_form hown
  have e0 := hown.cellAt 0 (by decide)
  have e1 := hown.cellAt 1 (by decide)
  clear hA5 hf6 hown hF5
  unfold ba bb bc b1 at *
  go_wp2
  go_ret
  exact ⟨rfl, hF6.to0 (fun i hi h => by omega)⟩
end Lr
end Go.Proofs.Ythmhihmbciigdaa
