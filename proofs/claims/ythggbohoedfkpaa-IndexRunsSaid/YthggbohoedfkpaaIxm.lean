/- After and Of of nobody's index; the reference's Put and Drop of nothing. -/
import Derived.Test.YthggbohoedfkpaaIxl
import Derived.Test.YthggbohoedfkpaaIxi
namespace Go.Proofs.Ythggbohoedfkpaa
open Go.RowKit
set_option linter.unusedVariables false
set_option linter.unusedSimpArgs false
set_option maxRecDepth 100000
namespace Ix
section
variable {w w1 : World}
theorem after_nil (k : ByteArray) (w : World) : Calls Try.prog 27 #[.pointer none, .int .i64 0, .string k, .int .i64 9] w fun e w' => e = .returned (.slice none 0 0) ∧ Frm0 w w' := by
  go_enter Try.func27, Try.ntmps27
  go_wp2_with fail
  refine (find_nil 0 k _).mono ?_
  rintro e1 w1 ⟨rfl, hf⟩
  go_wp2_with fail
  refine (len_nil _).mono ?_
  rintro e2 w2 ⟨rfl, rfl⟩
  go_wp2
  go_ret
  exact ⟨rfl, hf⟩
theorem ofm_nil (w : World) : Calls Try.prog 34 #[.pointer none, .int .i64 0] w fun e w' => e = .returned (.slice none 0 0) ∧ Frm0 w w' := by
  go_enter Try.func34, Try.ntmps34
  go_wp2_with fail
  refine (find_nil 0 ⟨#[]⟩ _).mono ?_
  rintro e1 w1 ⟨rfl, hf⟩
  go_wp2_with fail
  go_loop [5, 7] (fun i o => i = .int .i64 0 ∧ o = .slice none 0 0) (fun i _ => 1 - (intOf i).toNat)
  case atStart => exact ⟨rfl, rfl⟩
  case round =>
    obtain ⟨rfl, rfl⟩ := hrel
    go_wp2_with fail
    refine (len_nil _).mono ?_
    rintro e2 w2 ⟨rfl, rfl⟩
    go_wp2
    go_ret
    exact ⟨rfl, hf⟩
set_option maxHeartbeats 2000000 in
theorem rdrop_nil (t : Int) (k : ByteArray) (w : World) :
    Calls Try.prog 36 #[.slice none 0 0, .int .i64 t, .string k] w fun e_ w' => ∃ v', e_ = .returned v' ∧ w'.ownsRow w.heap.size 52 14 v' 0 [] ∧ Frm0 w w' := by
  go_enter Try.func36, Try.ntmps36
  go_wp2_with fail
  refine (rplace_any _ [] t k _ (Sl.nil _) (by decide)).mono ?_
  rintro e1 w1 ⟨rfl, hF1⟩
  rw [show place En.nm [] (t, k.toList) = 0 from rfl, show found En.nm [] (t, k.toList) = false from rfl]
  have hFB := (Frm.refl (fun _ => False) w1).alloc (.cells #[] 52)
  have HO1 := Lib.hid (own_empty w1)
  have HZ2 := Lib.hid (show w1.heap.size ≤ (w1.alloc (.cells #[] 52)).heap.size by simp)
  go_upto_region 3 with (refine wpList_append_sl rfl (.tmp 17) (.tmp 20) rfl EEn w1.heap.size (.slice (some ⟨w1.heap.size, 0, none⟩) 0 0) _ 0 0 [] [] rfl rfl HO1.out (Sl.nil _) rfl (by simp) (by decide) (by decide) HZ2.out ?_; intro v2 w2 ho2 hf2 hb2)
  have hF2 : Frm0 w1 w2 := hFB.then_ hf2 (fun k hk h => by have h2 : w1.heap.size = k := Option.some.inj h; omega)
  obtain ⟨A2, c2, hv2⟩ := owns_nil_form' ho2
  subst hv2
  have HO2 := Lib.hid ho2
  have HZ4 := Lib.hid hF2.size
  go_wp2_with (refine wpList_append_sl rfl (.tmp 25) (.tmp 28) rfl EEn w1.heap.size (.slice A2 (0 + 0) c2) _ (0 + 0) 0 ([] ++ []) [] rfl rfl HO2.out (Sl.nil _) rfl (by simp) (by decide) (by decide) HZ4.out ?_; intro v4 w4 ho4 hf4 hb4)
  go_ret
  exact ⟨v4, rfl, owns_base ho4 hF1.size, hF1.trans (hF2.then_ hf4 (fun k hk h => by have := HO2.out.lt k h; omega))⟩
set_option maxHeartbeats 2000000 in
theorem rput_nil (e : En) (w : World) :
    Calls Try.prog 29 #[.slice none 0 0, .agg e.cells.toArray] w fun e_ w' => ∃ v', e_ = .returned v' ∧ w'.ownsRow w.heap.size 52 14 v' 1 e.cells ∧ Frm0 w w' := by
  have hb := Bk.new w (.cells e.cells.toArray 52)
  have hF := (Frm.refl (fun _ => False) w).alloc (.cells e.cells.toArray 52)
  go_enter Try.func29, Try.ntmps29
  go_upto_region 1 with (fail)
  generalize w.alloc (.cells e.cells.toArray 52) = W at *
  have x0 : W.cell? ⟨w.heap.size, 0, none⟩ = some (.int .i64 e.tenant) := by rw [Bk.cell hb]; rfl
  have x1 : W.cell? ⟨w.heap.size, 1, none⟩ = some (.string e.key) := by rw [Bk.cell hb]; rfl
  go_wp2_with fail
  refine (rplace_any _ [] e.tenant e.key _ (Sl.nil _) (by decide)).mono ?_
  rintro e1 w1 ⟨rfl, hf1⟩
  have hb1 := hf1.blk hb (fun h => h)
  have hF1 := hF.trans hf1
  clear hb hF hf1 x0 x1
  rw [show place En.nm [] (e.tenant, e.key.toList) = 0 from rfl, show found En.nm [] (e.tenant, e.key.toList) = false from rfl]
  have hFB := (Frm.refl (fun _ => False) w1).alloc (.cells #[] 52)
  have HO1 := Lib.hid (own_empty w1)
  have HZ2 := Lib.hid (show w1.heap.size ≤ (w1.alloc (.cells #[] 52)).heap.size by simp)
  go_upto_region 3 with (refine wpList_append_sl rfl (.tmp 17) (.tmp 20) rfl EEn w1.heap.size (.slice (some ⟨w1.heap.size, 0, none⟩) 0 0) _ 0 0 [] [] rfl rfl HO1.out (Sl.nil _) rfl (by simp) (by decide) (by decide) HZ2.out ?_; intro v2 w2 ho2 hf2 hb2)
  have hF2 : Frm0 w1 w2 := hFB.then_ hf2 (fun k hk h => by have h2 : w1.heap.size = k := Option.some.inj h; omega)
  have hb2' := hF2.blk hb1 (fun h => h)
  obtain ⟨A2, c2, hv2⟩ := owns_nil_form' ho2
  subst hv2
  have hFW := (Frm.refl (fun _ => False) w2).alloc (.cells #[.int .i64 e.tenant, .string e.key, .int .i64 e.state, .int .i64 e.epoch, .int .i64 e.token, .int .i64 e.point, .string e.print, .int .i64 e.lease, .int .i64 e.expiry, .int .i64 e.status, .string e.text, .string e.method, .string e.path, .string e.body] 52)
  have HO3 := Lib.hid (owns_frm0 ho2 hFW)
  have HS3 := Lib.hid (Sl.new w2 #[.int .i64 e.tenant, .string e.key, .int .i64 e.state, .int .i64 e.epoch, .int .i64 e.token, .int .i64 e.point, .string e.print, .int .i64 e.lease, .int .i64 e.expiry, .int .i64 e.status, .string e.text, .string e.method, .string e.path, .string e.body] 52 1 (by unfold maxLen; omega) (by omega))
  have hsz2 := hF2.size
  have HZ3 := Lib.hid (show w1.heap.size ≤ (w2.alloc (.cells #[.int .i64 e.tenant, .string e.key, .int .i64 e.state, .int .i64 e.epoch, .int .i64 e.token, .int .i64 e.point, .string e.print, .int .i64 e.lease, .int .i64 e.expiry, .int .i64 e.status, .string e.text, .string e.method, .string e.path, .string e.body] 52)).heap.size by simp; omega)
  go_upto_region 4 with (first
    | (refine wpList_load_blk rfl 52 (.tmp 3) rfl (l := [.int .i64 e.tenant, .string e.key, .int .i64 e.state, .int .i64 e.epoch, .int .i64 e.token, .int .i64 e.point, .string e.print, .int .i64 e.lease, .int .i64 e.expiry, .int .i64 e.status, .string e.text, .string e.method, .string e.path, .string e.body]) hb2' rfl Try.underlying52 rfl iE rfl ?_)
    | (refine wpList_append_sl rfl (.tmp 22) (.tmp 24) rfl EEn w1.heap.size (.slice A2 (0 + 0) c2) _ (0 + 0) 1 ([] ++ []) [.int .i64 e.tenant, .string e.key, .int .i64 e.state, .int .i64 e.epoch, .int .i64 e.token, .int .i64 e.point, .string e.print, .int .i64 e.lease, .int .i64 e.expiry, .int .i64 e.status, .string e.text, .string e.method, .string e.path, .string e.body] rfl rfl HO3.out HS3.out rfl (en_one e) (by decide) (by decide) HZ3.out ?_; intro v3 w3 ho3 hf3 hb3))
  have hF3 : Frm0 w1 w3 := (hF2.trans hFW).then_ hf3 (fun k hk h => by have := HO3.out.lt k h; omega)
  obtain ⟨A3, c3, hv3⟩ := owns_nil_form' ho3
  subst hv3
  have HO2 := Lib.hid ho3
  have HZ4 := Lib.hid hF3.size
  go_wp2_with (refine wpList_append_sl rfl (.tmp 29) (.tmp 32) rfl EEn w1.heap.size (.slice A3 (0 + 0 + 1) c3) _ (0 + 0 + 1) 0 ([] ++ [] ++ [.int .i64 e.tenant, .string e.key, .int .i64 e.state, .int .i64 e.epoch, .int .i64 e.token, .int .i64 e.point, .string e.print, .int .i64 e.lease, .int .i64 e.expiry, .int .i64 e.status, .string e.text, .string e.method, .string e.path, .string e.body]) [] rfl rfl HO2.out (Sl.nil _) rfl (by simp) (by decide) (by decide) HZ4.out ?_; intro v4 w4 ho4 hf4 hb4)
  go_ret
  exact ⟨v4, rfl, owns_base ho4 hF1.size, hF1.trans (hF3.then_ hf4 (fun k hk h => by have := HO2.out.lt k h; omega))⟩
end
end Ix
end Go.Proofs.Ythggbohoedfkpaa
