/- SHA-256: contracts of right, start, constants. -/
import Derived.Test.YtmpbgnopejeelaaSha
import Derived.Test.YtmpbgnopejeelaaS
namespace Go.Proofs.Ytmpbgnopejeelaa
open Go.RowKit
set_option linter.unusedVariables false
set_option linter.unusedSimpArgs false
set_option maxRecDepth 100000
namespace Sh
theorem quiet_same {P : Program} {f : FuncId} {args : Array Value} {w : World} {n : Nat} {v : Value}
    (h : Calls P f args (w.drewN n) fun e w' => e = .returned v ∧ w.drewN n = w') : Calls P f args (w.drewN n) fun e w'' => e = .returned v ∧ ∃ m, w'' = w.drewN m :=
  h.mono fun _ _ ⟨he, hm⟩ => ⟨he, n, hm.symm⟩
theorem or_rr (x n a b : Nat) (hx : x < 4294967296) (ha : 2 ^ (32 - n) = a) (hb : 2 ^ n = b) : bits .or .u32 ((x : Int) * (a : Int) % 4294967296) ((x : Int) / (b : Int)) = ((rr x n : Nat) : Int) := by
  have := u32_or_nat (x * a % 4294967296) (x / b) (Nat.mod_lt _ (by decide)) (Nat.lt_of_le_of_lt (Nat.div_le_self _ _) hx)
  have e1 : ((x * a % 4294967296 : Nat) : Int) = (x : Int) * (a : Int) % 4294967296 := by simp
  have e2 : ((x / b : Nat) : Int) = (x : Int) / (b : Int) := by simp
  rw [e1, e2] at this
  rw [this]
  unfold rr
  rw [Nat.shiftRight_eq_div_pow, Nat.shiftLeft_eq, ha, hb, Nat.or_comm]
theorem or_rr2 (x n a b : Nat) (hx : x < 4294967296) (ha : 2 ^ (32 - n) = a) (hb : 2 ^ n = b) : bits .or .u32 ((x : Int) / (b : Int)) ((x : Int) * (a : Int) % 4294967296) = ((rr x n : Nat) : Int) := by
  have := u32_or_nat (x / b) (x * a % 4294967296) (Nat.lt_of_le_of_lt (Nat.div_le_self _ _) hx) (Nat.mod_lt _ (by decide))
  have e1 : ((x * a % 4294967296 : Nat) : Int) = (x : Int) * (a : Int) % 4294967296 := by simp
  have e2 : ((x / b : Nat) : Int) = (x : Int) / (b : Int) := by simp
  rw [e1, e2] at this
  rw [this]
  unfold rr
  rw [Nat.shiftRight_eq_div_pow, Nat.shiftLeft_eq, ha, hb]
theorem rr_lt (x n : Nat) (hx : x < 4294967296) : rr x n < 4294967296 := by
  unfold rr
  exact Nat.or_lt_two_pow (n := 32) (Nat.lt_of_le_of_lt (Nat.shiftRight_le _ _) hx) (Nat.mod_lt _ (by decide))
theorem right_2 (x : Nat) (hx : x < 4294967296) (w : World) : Calls Try.prog 77 #[.int .u32 x, .int .i64 2] w fun e w' => e = .returned (.int .u32 (rr x 2 : Nat)) ∧ w = w' := by
  have hxi : (x : Int) < 4294967296 := by omega
  have e1 : bits .and .u64 (IntKind.u64.wrap (-2)) 31 = 30 := by decide +kernel
  have H := Lib.hid (or_rr x 2 1073741824 4 hx (by decide) (by decide))
  go_enter Try.func77, Try.ntmps77
  go_wp2
  go_ret
  exact ⟨ret_int H.out, rfl⟩
theorem rright_2 (x : Nat) (hx : x < 4294967296) (w : World) : Calls Try.prog 58 #[.int .u32 x, .int .i64 2] w fun e w' => e = .returned (.int .u32 (rr x 2 : Nat)) ∧ ∃ m, w' = w.drewN m := by
  have hxi : (x : Int) < 4294967296 := by omega
  have H := Lib.hid (or_rr2 x 2 1073741824 4 hx (by decide) (by decide))
  go_enter Try.func58, Try.ntmps58
  go_wp2
  go_quiet (fail)
  go_wp2
  go_ret
  exact ⟨ret_int H.out, _, rfl⟩
theorem right_6 (x : Nat) (hx : x < 4294967296) (w : World) : Calls Try.prog 77 #[.int .u32 x, .int .i64 6] w fun e w' => e = .returned (.int .u32 (rr x 6 : Nat)) ∧ w = w' := by
  have hxi : (x : Int) < 4294967296 := by omega
  have e1 : bits .and .u64 (IntKind.u64.wrap (-6)) 31 = 26 := by decide +kernel
  have H := Lib.hid (or_rr x 6 67108864 64 hx (by decide) (by decide))
  go_enter Try.func77, Try.ntmps77
  go_wp2
  go_ret
  exact ⟨ret_int H.out, rfl⟩
theorem rright_6 (x : Nat) (hx : x < 4294967296) (w : World) : Calls Try.prog 58 #[.int .u32 x, .int .i64 6] w fun e w' => e = .returned (.int .u32 (rr x 6 : Nat)) ∧ ∃ m, w' = w.drewN m := by
  have hxi : (x : Int) < 4294967296 := by omega
  have H := Lib.hid (or_rr2 x 6 67108864 64 hx (by decide) (by decide))
  go_enter Try.func58, Try.ntmps58
  go_wp2
  go_quiet (fail)
  go_wp2
  go_ret
  exact ⟨ret_int H.out, _, rfl⟩
theorem right_7 (x : Nat) (hx : x < 4294967296) (w : World) : Calls Try.prog 77 #[.int .u32 x, .int .i64 7] w fun e w' => e = .returned (.int .u32 (rr x 7 : Nat)) ∧ w = w' := by
  have hxi : (x : Int) < 4294967296 := by omega
  have e1 : bits .and .u64 (IntKind.u64.wrap (-7)) 31 = 25 := by decide +kernel
  have H := Lib.hid (or_rr x 7 33554432 128 hx (by decide) (by decide))
  go_enter Try.func77, Try.ntmps77
  go_wp2
  go_ret
  exact ⟨ret_int H.out, rfl⟩
theorem rright_7 (x : Nat) (hx : x < 4294967296) (w : World) : Calls Try.prog 58 #[.int .u32 x, .int .i64 7] w fun e w' => e = .returned (.int .u32 (rr x 7 : Nat)) ∧ ∃ m, w' = w.drewN m := by
  have hxi : (x : Int) < 4294967296 := by omega
  have H := Lib.hid (or_rr2 x 7 33554432 128 hx (by decide) (by decide))
  go_enter Try.func58, Try.ntmps58
  go_wp2
  go_quiet (fail)
  go_wp2
  go_ret
  exact ⟨ret_int H.out, _, rfl⟩
theorem right_11 (x : Nat) (hx : x < 4294967296) (w : World) : Calls Try.prog 77 #[.int .u32 x, .int .i64 11] w fun e w' => e = .returned (.int .u32 (rr x 11 : Nat)) ∧ w = w' := by
  have hxi : (x : Int) < 4294967296 := by omega
  have e1 : bits .and .u64 (IntKind.u64.wrap (-11)) 31 = 21 := by decide +kernel
  have H := Lib.hid (or_rr x 11 2097152 2048 hx (by decide) (by decide))
  go_enter Try.func77, Try.ntmps77
  go_wp2
  go_ret
  exact ⟨ret_int H.out, rfl⟩
theorem rright_11 (x : Nat) (hx : x < 4294967296) (w : World) : Calls Try.prog 58 #[.int .u32 x, .int .i64 11] w fun e w' => e = .returned (.int .u32 (rr x 11 : Nat)) ∧ ∃ m, w' = w.drewN m := by
  have hxi : (x : Int) < 4294967296 := by omega
  have H := Lib.hid (or_rr2 x 11 2097152 2048 hx (by decide) (by decide))
  go_enter Try.func58, Try.ntmps58
  go_wp2
  go_quiet (fail)
  go_wp2
  go_ret
  exact ⟨ret_int H.out, _, rfl⟩
theorem right_13 (x : Nat) (hx : x < 4294967296) (w : World) : Calls Try.prog 77 #[.int .u32 x, .int .i64 13] w fun e w' => e = .returned (.int .u32 (rr x 13 : Nat)) ∧ w = w' := by
  have hxi : (x : Int) < 4294967296 := by omega
  have e1 : bits .and .u64 (IntKind.u64.wrap (-13)) 31 = 19 := by decide +kernel
  have H := Lib.hid (or_rr x 13 524288 8192 hx (by decide) (by decide))
  go_enter Try.func77, Try.ntmps77
  go_wp2
  go_ret
  exact ⟨ret_int H.out, rfl⟩
theorem rright_13 (x : Nat) (hx : x < 4294967296) (w : World) : Calls Try.prog 58 #[.int .u32 x, .int .i64 13] w fun e w' => e = .returned (.int .u32 (rr x 13 : Nat)) ∧ ∃ m, w' = w.drewN m := by
  have hxi : (x : Int) < 4294967296 := by omega
  have H := Lib.hid (or_rr2 x 13 524288 8192 hx (by decide) (by decide))
  go_enter Try.func58, Try.ntmps58
  go_wp2
  go_quiet (fail)
  go_wp2
  go_ret
  exact ⟨ret_int H.out, _, rfl⟩
theorem right_17 (x : Nat) (hx : x < 4294967296) (w : World) : Calls Try.prog 77 #[.int .u32 x, .int .i64 17] w fun e w' => e = .returned (.int .u32 (rr x 17 : Nat)) ∧ w = w' := by
  have hxi : (x : Int) < 4294967296 := by omega
  have e1 : bits .and .u64 (IntKind.u64.wrap (-17)) 31 = 15 := by decide +kernel
  have H := Lib.hid (or_rr x 17 32768 131072 hx (by decide) (by decide))
  go_enter Try.func77, Try.ntmps77
  go_wp2
  go_ret
  exact ⟨ret_int H.out, rfl⟩
theorem rright_17 (x : Nat) (hx : x < 4294967296) (w : World) : Calls Try.prog 58 #[.int .u32 x, .int .i64 17] w fun e w' => e = .returned (.int .u32 (rr x 17 : Nat)) ∧ ∃ m, w' = w.drewN m := by
  have hxi : (x : Int) < 4294967296 := by omega
  have H := Lib.hid (or_rr2 x 17 32768 131072 hx (by decide) (by decide))
  go_enter Try.func58, Try.ntmps58
  go_wp2
  go_quiet (fail)
  go_wp2
  go_ret
  exact ⟨ret_int H.out, _, rfl⟩
theorem right_18 (x : Nat) (hx : x < 4294967296) (w : World) : Calls Try.prog 77 #[.int .u32 x, .int .i64 18] w fun e w' => e = .returned (.int .u32 (rr x 18 : Nat)) ∧ w = w' := by
  have hxi : (x : Int) < 4294967296 := by omega
  have e1 : bits .and .u64 (IntKind.u64.wrap (-18)) 31 = 14 := by decide +kernel
  have H := Lib.hid (or_rr x 18 16384 262144 hx (by decide) (by decide))
  go_enter Try.func77, Try.ntmps77
  go_wp2
  go_ret
  exact ⟨ret_int H.out, rfl⟩
theorem rright_18 (x : Nat) (hx : x < 4294967296) (w : World) : Calls Try.prog 58 #[.int .u32 x, .int .i64 18] w fun e w' => e = .returned (.int .u32 (rr x 18 : Nat)) ∧ ∃ m, w' = w.drewN m := by
  have hxi : (x : Int) < 4294967296 := by omega
  have H := Lib.hid (or_rr2 x 18 16384 262144 hx (by decide) (by decide))
  go_enter Try.func58, Try.ntmps58
  go_wp2
  go_quiet (fail)
  go_wp2
  go_ret
  exact ⟨ret_int H.out, _, rfl⟩
theorem right_19 (x : Nat) (hx : x < 4294967296) (w : World) : Calls Try.prog 77 #[.int .u32 x, .int .i64 19] w fun e w' => e = .returned (.int .u32 (rr x 19 : Nat)) ∧ w = w' := by
  have hxi : (x : Int) < 4294967296 := by omega
  have e1 : bits .and .u64 (IntKind.u64.wrap (-19)) 31 = 13 := by decide +kernel
  have H := Lib.hid (or_rr x 19 8192 524288 hx (by decide) (by decide))
  go_enter Try.func77, Try.ntmps77
  go_wp2
  go_ret
  exact ⟨ret_int H.out, rfl⟩
theorem rright_19 (x : Nat) (hx : x < 4294967296) (w : World) : Calls Try.prog 58 #[.int .u32 x, .int .i64 19] w fun e w' => e = .returned (.int .u32 (rr x 19 : Nat)) ∧ ∃ m, w' = w.drewN m := by
  have hxi : (x : Int) < 4294967296 := by omega
  have H := Lib.hid (or_rr2 x 19 8192 524288 hx (by decide) (by decide))
  go_enter Try.func58, Try.ntmps58
  go_wp2
  go_quiet (fail)
  go_wp2
  go_ret
  exact ⟨ret_int H.out, _, rfl⟩
theorem right_22 (x : Nat) (hx : x < 4294967296) (w : World) : Calls Try.prog 77 #[.int .u32 x, .int .i64 22] w fun e w' => e = .returned (.int .u32 (rr x 22 : Nat)) ∧ w = w' := by
  have hxi : (x : Int) < 4294967296 := by omega
  have e1 : bits .and .u64 (IntKind.u64.wrap (-22)) 31 = 10 := by decide +kernel
  have H := Lib.hid (or_rr x 22 1024 4194304 hx (by decide) (by decide))
  go_enter Try.func77, Try.ntmps77
  go_wp2
  go_ret
  exact ⟨ret_int H.out, rfl⟩
theorem rright_22 (x : Nat) (hx : x < 4294967296) (w : World) : Calls Try.prog 58 #[.int .u32 x, .int .i64 22] w fun e w' => e = .returned (.int .u32 (rr x 22 : Nat)) ∧ ∃ m, w' = w.drewN m := by
  have hxi : (x : Int) < 4294967296 := by omega
  have H := Lib.hid (or_rr2 x 22 1024 4194304 hx (by decide) (by decide))
  go_enter Try.func58, Try.ntmps58
  go_wp2
  go_quiet (fail)
  go_wp2
  go_ret
  exact ⟨ret_int H.out, _, rfl⟩
theorem right_25 (x : Nat) (hx : x < 4294967296) (w : World) : Calls Try.prog 77 #[.int .u32 x, .int .i64 25] w fun e w' => e = .returned (.int .u32 (rr x 25 : Nat)) ∧ w = w' := by
  have hxi : (x : Int) < 4294967296 := by omega
  have e1 : bits .and .u64 (IntKind.u64.wrap (-25)) 31 = 7 := by decide +kernel
  have H := Lib.hid (or_rr x 25 128 33554432 hx (by decide) (by decide))
  go_enter Try.func77, Try.ntmps77
  go_wp2
  go_ret
  exact ⟨ret_int H.out, rfl⟩
theorem rright_25 (x : Nat) (hx : x < 4294967296) (w : World) : Calls Try.prog 58 #[.int .u32 x, .int .i64 25] w fun e w' => e = .returned (.int .u32 (rr x 25 : Nat)) ∧ ∃ m, w' = w.drewN m := by
  have hxi : (x : Int) < 4294967296 := by omega
  have H := Lib.hid (or_rr2 x 25 128 33554432 hx (by decide) (by decide))
  go_enter Try.func58, Try.ntmps58
  go_wp2
  go_quiet (fail)
  go_wp2
  go_ret
  exact ⟨ret_int H.out, _, rfl⟩
def u32s (l : List Nat) : List Value := l.map (fun n : Nat => .int .u32 (n : Int))
theorem u32s_len (l : List Nat) : (u32s l).length = l.length := by simp [u32s]
theorem u32s_at (l : List Nat) (k : Nat) (h : k < l.length) : (u32s l)[k]? = some (.int .u32 (l.getD k 0 : Nat)) := by
  simp [u32s, List.getD_eq_getElem?_getD, List.getElem?_eq_getElem h]
theorem u32s_set (l : List Nat) (k v : Nat) : (u32s l).set k (.int .u32 (v : Nat)) = u32s (l.set k v) := by simp [u32s, List.map_set]
theorem u32s_one (l : List Nat) : (u32s l).all (·.oneCell') = true := by
  simp [u32s, List.all_eq_true]
  intro x hx
  rfl
/-- A block of words. -/
def Wd (w : World) (b : Nat) (t : TypeId) (l : List Nat) : Prop := w.heap[b]? = some (.cells (u32s l).toArray t (0, 0))
section
variable {w w1 : World} {b : Nat} {t : TypeId} {l : List Nat} {S : Nat → Prop}
theorem Wd.cell (h : Wd w b t l) (k : Nat) (hk : k < l.length) : w.cell? ⟨b, k, none⟩ = some (.int .u32 (l.getD k 0 : Nat)) := by
  rw [Bk.cell h, List.getElem?_toArray, u32s_at l k hk]
theorem Wd.free (h : Wd w b t l) (k : Nat) : w.frozen? ⟨b, k, none⟩ = false := Bk.frozen h k
theorem Wd.lt (h : Wd w b t l) : b < w.heap.size := Bk.lt h
theorem Wd.frm (h : Wd w b t l) (hf : Frm S w w1) (hs : ¬ S b) : Wd w1 b t l := hf.blk h hs
theorem Wd.set (h : Wd w b t l) (k v : Nat) : Wd (w.setCell ⟨b, k, none⟩ (.int .u32 (v : Nat))) b t (l.set k v) := by
  have := Bk.set h k (.int .u32 (v : Nat))
  rwa [List.setIfInBounds_toArray, u32s_set] at this
end
theorem start_any (w : World) : Calls Try.prog 59 #[] w fun e w' => e = .returned (.agg (u32s V0).toArray) ∧ Frm0 w w' := by
  go_enter Try.func59, Try.ntmps59
  go_wp2
  go_returns
  exact ⟨rfl, (Frm.refl _ _).alloc _⟩
theorem iV : (Try.prog.info? 37).map (·.size) = some 8 := by kernel_rfl
theorem iW : (Try.prog.info? 38).map (·.size) = some 64 := by kernel_rfl
end Sh
end Go.Proofs.Ytmpbgnopejeelaa
