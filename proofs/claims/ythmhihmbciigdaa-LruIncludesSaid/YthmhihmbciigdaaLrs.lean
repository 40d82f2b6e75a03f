/- The walk of LruIncludes. -/
import Derived.Test.YthmhihmbciigdaaLrr
namespace Go.Proofs.Ythmhihmbciigdaa
open Go.RowKit Go.Maps Go.ChangeShapes Go.WideShapes
set_option linter.unusedVariables false
set_option linter.unusedSimpArgs false
set_option maxRecDepth 100000
namespace Lr
theorem u8mod5' {x : Int} (h : 0 ≤ x ∧ x ≤ 255) : IntKind.u8.wrap (x % 5) = x % 5 := by rw [IntKind.wrap_u8']; omega
theorem ca_put_ig {w : World} {m r c N : Nat} {n : Int} {ps : PP} {k : ByteArray} {U : Nat → Prop} (h : Ca w m r c n N ps U) (hk : k.size ≤ 30) (hN : N < 1000000) (hp : (ps.length : Int) ≤ n) (hn : n ≤ 100) (v : ByteArray) : Calls Try.prog 32 #[.pointer (some ⟨c, 0, none⟩), .string k, .string v] w fun e w' =>
    ∃ (s : ByteArray) (d : Bool), e = .returned (.tuple #[.string s, .bool d]) ∧ Ca w' m r c n (N + 1) (ptn n ps k v) (fun i => U i ∨ i = w.heap.size) ∧ Frm U w w' := by
  refine (ca_put h hk hN hp hn v).mono ?_
  unfold ptn
  rintro e w' ⟨⟨hc, he, hA⟩ | ⟨hc, p, z, hpz, he, hA⟩, hf⟩
  · rw [if_pos hc]; exact ⟨_, _, he, hA, hf⟩
  · rw [if_neg (by omega), hpz, List.dropLast_concat]; exact ⟨_, _, he, hA, hf⟩
set_option maxHeartbeats 16000000 in
theorem includes_walk (n more : Int) (v : Value) (l : List LDeed) (w : World) (hmr : 0 ≤ more ∧ more ≤ 255) (hs : Sl w v l.length (l.flatMap LDeed.cells)) (hg : ∀ a ∈ l, LDeed.Good a) :
    Calls Try.prog 9 #[.int .i64 n, .int .u8 more, v] w fun e w' => e = .returned (.bool true) ∧ Below w.heap.size w w' := by
  have hlen := hs.len
  have HSM := Lib.hid (fun w1 (hf : Frm0 w w1) => small_any v l w1 (hs.frm0 hf))
  obtain ⟨A, cp, rfl⟩ := hs.form
  have hcell : ∀ k (hk : k < l.length), ∃ b o, A = some ⟨b, o, none⟩ ∧ w.cell? ⟨b, o + k * 3, none⟩ = some (.int .u8 (l[k]).kind) ∧ w.cell? ⟨b, o + k * 3 + 1, none⟩ = some (.string (l[k]).key) ∧ w.cell? ⟨b, o + k * 3 + 2, none⟩ = some (.string (l[k]).val) ∧ (0 ≤ (l[k]).kind ∧ (l[k]).kind ≤ 255) := by
    intro k hk
    rcases hs with ⟨A', c', _, hn, _⟩ | ⟨b, o, c', he, h0, h1, h2, h3, h4⟩
    · omega
    · cases he
      obtain ⟨x0, x1, x2⟩ := ldeed_at h4 k hk
      exact ⟨b, o, rfl, x0, x1, x2, bounds_u8 (hg _ (List.getElem_mem hk)).kind⟩
  have HC := Lib.hid hcell
  have hmb := most_bd n
  clear hcell hs hg
  go_enter Try.func9, Try.ntmps9
  go_wp2_with fail
  refine (lawake _).mono ?_
  rintro e w1 ⟨rfl, hf1⟩
  go_wp2_with fail
  refine (HSM.out w1 hf1).mono ?_
  rintro e w2 ⟨bs, rfl, hsm, hf2⟩
  have hF2 := hf1.trans hf2
  clear hf1 hf2
  cases bs
  · go_wp2
    go_ret
    exact ⟨rfl, hF2.below (fun _ _ h => h)⟩
  have HSS := Lib.hid (hsm rfl)
  have h80 := (hsm rfl).1
  clear hsm
  go_wp2_with fail
  refine (most_any n _).mono ?_
  rintro e w2' ⟨rfl, rfl⟩
  obtain ⟨na, hna⟩ : ∃ na, mostI n = na := ⟨_, rfl⟩
  rw [hna] at hmb ⊢
  have hna2 : mostI na = na := by
    unfold mostI bring
    rw [if_neg (by omega), if_neg (by omega)]
  clear hna
  go_wp2_with fail
  refine (ca_new na _).mono ?_
  rw [hna2]
  rintro e w3 ⟨rfl, hA, hf3⟩
  have hwa : IntKind.i64.wrap (na + more) = na + more := IntWalk.i64_in _ (by omega)
  have hwm : IntKind.i64.wrap more = more := IntWalk.i64_in _ (by omega)
  go_wp2_with fail
  refine (ca_new (na + more) _).mono ?_
  rintro e w4 ⟨rfl, hB, hf4⟩
  obtain ⟨nb, hnb⟩ : ∃ nb, mostI (na + more) = nb := ⟨_, rfl⟩
  have hbb := most_bd (na + more)
  have hab : na ≤ mostI (na + more) := by
    unfold mostI bring
    rw [if_neg (by omega)]
    split <;> omega
  rw [hnb] at hB hbb hab
  have HMB := Lib.hid (And.intro hmb (And.intro hab hbb))
  have hF3 := hF2.trans hf3
  have hF4 := hF3.trans hf4
  have hs2 := hF2.size
  have hs3 := hf3.size
  have hs4 := hf4.size
  have hA := (hA.mono (V := fun j => w2.heap.size ≤ j ∧ j < w3.heap.size) (Nat.le_refl 0) (fun j h h' => ⟨h, h'⟩)).frm0 hf4
  have hB := hB.mono (V := fun j => w3.heap.size ≤ j ∧ j < w4.heap.size) (Nat.le_refl 0) (fun j h h' => ⟨h, h'⟩)
  obtain ⟨U1, hU1⟩ : ∃ U1 : Nat → Prop, U1 = fun j => w2.heap.size ≤ j ∧ j < w3.heap.size := ⟨_, rfl⟩
  obtain ⟨U2, hU2⟩ : ∃ U2 : Nat → Prop, U2 = fun j => w3.heap.size ≤ j ∧ j < w4.heap.size := ⟨_, rfl⟩
  rw [← hU1] at hA
  rw [← hU2] at hB
  have hd : ∀ j, U1 j → ¬ U2 j ∧ w.heap.size ≤ j ∧ j < w4.heap.size := by
    rw [hU1, hU2]
    rintro j ⟨h, h'⟩
    exact ⟨fun h2 => by have := h2.1; omega, by omega, by omega⟩
  have he : ∀ j, U2 j → w.heap.size ≤ j ∧ j < w4.heap.size := by
    rw [hU2]
    rintro j ⟨h, h'⟩
    exact ⟨by omega, h'⟩
  clear hU1 hU2 hF2 hF3 hf3 hf4 hs2 hs3 hs4 hnb hna2 hmb hab hbb
  generalize w2.heap.size + 2 = c1 at *
  generalize w2.heap.size + 1 = m1 at *
  generalize w2.heap.size = r1 at *
  generalize w3.heap.size + 2 = c2 at *
  generalize w3.heap.size + 1 = m2 at *
  generalize w3.heap.size = r2 at *
  go_wp2_with fail
  go_loopw [44] (fun i wr => ∃ (k : Nat) (pa pb : PP) (U1 U2 : Nat → Prop), k ≤ l.length ∧ i = .int .i64 k ∧ Ca wr m1 r1 c1 na k pa U1 ∧ Ca wr m2 r2 c2 nb k pb U2 ∧ (∀ j, U1 j → ¬ U2 j ∧ w.heap.size ≤ j ∧ j < wr.heap.size) ∧ (∀ j, U2 j → w.heap.size ≤ j ∧ j < wr.heap.size) ∧ Hid (Inc na pa pb) ∧ (pa.length : Int) ≤ na ∧ (pb.length : Int) ≤ nb ∧ Frm0 w wr) (fun i _ => l.length - (intOf i).toNat)
  case atStart => exact ⟨0, [], [], U1, U2, by omega, rfl, hA, hB, hd, he, (show Hid _ from ⟨List.Sublist.refl _, .inr rfl⟩), by have := HMB.out; simp; omega, by have := HMB.out; simp; omega, hF4⟩
  case round =>
    clear hA hB hF4 hd he
    obtain ⟨k, pa, pb, U1, U2, hk, rfl, hA, hB, hd, he, hi, hpa, hpb, hF⟩ := hrel
    by_cases hlt : k < l.length
    · obtain ⟨b, o, rfl, c0, c1_, c2_, hkd⟩ := HC.out k hlt
      have hsz := HSS.out.2 _ (List.getElem_mem hlt)
      have c0 := hF.cell c0 (fun h => h)
      have c1_ := hF.cell c1_ (fun h => h)
      have c2_ := hF.cell c2_ (fun h => h)
      generalize (l[k]).kind = kd at *
      generalize (l[k]).key = ky at *
      generalize (l[k]).val = vl at *
      obtain ⟨hk30, hvl⟩ := hsz
      have hmod := u8mod5' hkd
      have hal := (Frm.refl (fun _ => False) wr).alloc (.cells #[.int .u8 kd, .string ky, .string vl] 53)
      have hF1 := hF.alloc (.cells #[.int .u8 kd, .string ky, .string vl] 53)
      have HND := Lib.hid (And.intro hA.nodup hB.nodup)
      have HI := Lib.hid hi.out
      have hA1 := hA.frm0 hal
      have hB1 := hB.frm0 hal
      obtain ⟨x0, x1, x2⟩ := Bk.c3 (Bk.new wr (.cells #[.int .u8 kd, .string ky, .string vl] 53))
      have hsz1 : (wr.alloc (.cells #[.int .u8 kd, .string ky, .string vl] 53)).heap.size = wr.heap.size + 1 := by simp
      have HSA := Lib.hid (And.intro hF.size hsz1)
      clear hal hA hB hF hi
      obtain ⟨wA, hwA⟩ : ∃ wA, wA = wr.alloc (.cells #[.int .u8 kd, .string ky, .string vl] 53) := ⟨_, rfl⟩
      have HWA := Lib.hid hwA
      rw [← hwA] at hF1 hA1 hB1 x0 x1 x2 HSA
      clear hwA
      by_cases K2 : kd % 5 < 2
      ·
        have e2 : decide (kd % 5 < 2) = true := decide_eq_true K2
        go_wp2_with fail
        rw [← HWA.out]
        refine (ca_put_ig (N := k) hA1 hk30 (by omega) hpa (HMB.out).1.2 vl).mono ?_
        rintro e w2 ⟨s2, t2, rfl, hA2, hf2⟩
        have hF2 := hF1.then_ hf2 (fun i hi h => by have := (hd i h).2.1; omega)
        have hB2 := hB1.frm hf2 (fun j h h' => (hd j h').1 h)
        have x1 := hf2.cell x1 (fun h => by have := (hd _ h).2.2; simp at this)
        have x2 := hf2.cell x2 (fun h => by have := (hd _ h).2.2; simp at this)
        have hs2 := hf2.size
        have hA2 := hA2.mono (V := fun j => (U1 j ∨ j = wA.heap.size) ∧ j < w2.heap.size) (Nat.le_refl _) (fun j h h' => ⟨h, h'⟩)
        clear hA1 hB1 hF1 hf2
        go_wp2_with fail
        refine (ca_put_ig (N := k) hB2 hk30 (by omega) hpb (HMB.out).2.2.2 vl).mono ?_
        rintro e w3 ⟨s3, t3, rfl, hB3, hf3⟩
        have hF3 := hF2.then_ hf3 (fun i hi h => by have := (he i h).1; omega)
        have hA3 := hA2.frm hf3 (fun j h h' => h.1.elim (fun e => (hd j e).1 h') (fun e => by have := (he j h').2; have := HSA.out; omega))
        have hs3 := hf3.size
        have hB3 := hB3.mono (V := fun j => (U2 j ∨ j = w2.heap.size) ∧ j < w3.heap.size) (Nat.le_refl _) (fun j h h' => ⟨h, h'⟩)
        have hi3 := inc_put HI.out HMB.out.2.1 hpa hpb HND.out.1 ky vl
        have hla := ptn_len (k := ky) (v := vl) hpa HMB.out.1.1
        have hlb := ptn_len (k := ky) (v := vl) hpb HMB.out.2.2.1
        clear hA2 hB2 hF2 hf3
        obtain ⟨V1, hV1⟩ : ∃ V1 : Nat → Prop, V1 = fun j => (U1 j ∨ j = wA.heap.size) ∧ j < w2.heap.size := ⟨_, rfl⟩
        obtain ⟨V2, hV2⟩ : ∃ V2 : Nat → Prop, V2 = fun j => (U2 j ∨ j = w2.heap.size) ∧ j < w3.heap.size := ⟨_, rfl⟩
        rw [← hV1] at hA3
        rw [← hV2] at hB3
        have hd3 : ∀ j, V1 j → ¬ V2 j ∧ w.heap.size ≤ j ∧ j < w3.heap.size := by
          rw [hV1, hV2]
          rintro j ⟨h, h'⟩
          have := HSA.out
          rcases h with h | h
          · have := hd j h
            exact ⟨fun h2 => h2.1.elim (fun e => this.1 e) (fun e => by omega), by omega, by omega⟩
          · exact ⟨fun h2 => h2.1.elim (fun e => by have := he j e; omega) (fun e => by omega), by omega, by omega⟩
        have he3 : ∀ j, V2 j → w.heap.size ≤ j ∧ j < w3.heap.size := by
          rw [hV2]
          rintro j ⟨h, h'⟩
          have := HSA.out
          rcases h with h | h
          · have := he j h; exact ⟨by omega, by omega⟩
          · exact ⟨by omega, h'⟩
        clear hV1 hV2 hd he
        generalize hpa3 : ptn na pa ky vl = pa3 at *
        generalize hpb3 : ptn nb pb ky vl = pb3 at *
        clear hpa3 hpb3
        go_wp2_with fail
        
        have hla100 : pa3.length ≤ 100 := by have := HMB.out; omega
        have hnd := And.intro hA3.nodup hB3.nodup
        have h30 := hA3.keys30
        have HND3 := Lib.hid hnd
        have HI3 := Lib.hid hi3
        have H30 := Lib.hid h30
        clear hnd h30
        refine (ca_keys hA3 (by have := HMB.out; omega)).mono ?_
        rintro e w4 ⟨kv, rfl, hK4, hf4⟩
        have hA4 := hA3.frm0 hf4
        have hB4 := hB3.frm0 hf4
        have hF4 := hF3.trans hf4
        have hs4 := hf4.size
        obtain ⟨KA, kc, rfl⟩ := (Sl.of_own hK4).form
        clear hA3 hB3 hF3 hf4
        go_wp2_with fail
        have HA4 := Lib.hid hA4
        have HB4 := Lib.hid hB4
        have HK4 := Lib.hid hK4
        clear hA4 hB4 hK4
        go_loopw [91] (fun i wq => ∃ (j : Nat), j ≤ pa3.length ∧ i = .int .i64 j ∧ Frm0 w4 wq) (fun i _ => pa3.length - (intOf i).toNat)
        case atStart => exact ⟨0, by omega, rfl, Frm.refl _ _⟩
        case round =>
          obtain ⟨j, hj, rfl, hFq⟩ := hrel
          by_cases hjl : j < pa3.length
          · obtain ⟨g1, rfl, q1⟩ := str_key HK4.out j hjl
            have q1 := hFq.cell q1 (fun h => h)
            have hmem := List.getElem_mem hjl
            have hp1 := pk_yes (fnd_mem HND3.out.1 hmem)
            have hp2 := pk_yes (fnd_mem HND3.out.2 (HI3.out.1.subset hmem))
            have hk3 := H30.out _ hmem
            have HP1 := Lib.hid (ca_peek (HA4.out.frm0 hFq) hk3)
            have HP2 := Lib.hid (ca_peek (HB4.out.frm0 hFq) hk3)
            rw [hp1] at HP1
            rw [hp2] at HP2
            clear hp1 hp2 hmem hk3
            generalize (pa3[j]).1 = kj at *
            generalize (pa3[j]).2 = vj at *
            go_wp2_with fail
            refine HP1.out.mono ?_
            rintro e w5 ⟨rfl, rfl⟩
            go_wp2_with fail
            refine HP2.out.mono ?_
            rintro e w5 ⟨rfl, rfl⟩
            go_wp2
            go_roundw
            case rel => exact ⟨j + 1, by omega, by go_num, hFq⟩
            case measure => simp [intOf]; omega
          · obtain rfl : j = pa3.length := by omega
            have hq4 := hFq.size
            have hd4 : ∀ i, V1 i → ¬ V2 i ∧ w.heap.size ≤ i ∧ i < wr.heap.size := fun i hi => by have h5 := hd3 i hi; exact ⟨h5.1, h5.2.1, by omega⟩
            have he4 : ∀ i, V2 i → w.heap.size ≤ i ∧ i < wr.heap.size := fun i hi => by have h5 := he3 i hi; exact ⟨h5.1, by omega⟩
            go_wp2
            go_roundw
            case rel => exact ⟨k + 1, pa3, pb3, V1, V2, by omega, by go_num, HA4.out.frm0 hFq, HB4.out.frm0 hFq, hd4, he4, (show Hid _ from HI3.out), hla, hlb, hF4.trans hFq⟩
            case measure => simp [intOf]; omega
      have e2 : decide (kd % 5 < 2) = false := decide_eq_false K2
      have hgl := And.intro (gt_len HND.out.1 ky) (gt_len HND.out.2 ky)
      have HGA := Lib.hid (ca_get hA1 hk30)
      have HGB := Lib.hid (fun w2 (hf : Frm U1 wA w2) => ca_get (hB1.frm hf (fun j h h' => (hd j h').1 h)) hk30)
      have HAF := Lib.hid (fun (w2 w3 : World) (h : Ca w2 m1 r1 c1 na k (gt pa ky) U1) (hf : Frm U2 w2 w3) => h.frm hf (fun j h h' => (hd j h).1 h'))
      cases hfa : fnd pa ky with
      | some va =>
        have HQ1 := Lib.hid (pk_yes hfa)
        have HQ2 := Lib.hid (pk_yes (inc_fnd HI.out.1 HND.out.2 hfa))
        clear hfa
        go_wp2_with fail
        rw [← HWA.out]
        refine HGA.out.mono ?_
        rintro e w2 ⟨rfl, hA2, hf2⟩
        have hF2 := hF1.then_ hf2 (fun i hi h => by have := (hd i h).2.1; omega)
        have x1 := hf2.cell x1 (fun h => by have := (hd _ h).2.2; simp at this)
        have x2 := hf2.cell x2 (fun h => by have := (hd _ h).2.2; simp at this)
        have hs2 := hf2.size
        have HGB2 := Lib.hid (HGB.out w2 hf2)
        clear hA1 hB1 hF1 hf2
        rw [HQ1.out]
        go_wp2_with fail
        refine HGB2.out.mono ?_
        rintro e w3 ⟨rfl, hB3, hf3⟩
        have hF3 := hF2.then_ hf3 (fun i hi h => by have := (he i h).1; omega)
        have hA3 := (HAF.out w2 w3 hA2 hf3).mono (V := U1) (Nat.le_succ k) (fun _ h _ => h)
        have hB3 := hB3.mono (V := U2) (Nat.le_succ k) (fun _ h _ => h)
        have hs3 := hf3.size
        have hi3 := inc_get HI.out HND.out.1 HND.out.2 ky
        have hla : ((gt pa ky).length : Int) ≤ na := by omega
        have hlb : ((gt pb ky).length : Int) ≤ nb := by omega
        clear hA2 hF2 hf3
        obtain ⟨V1, hV1⟩ : ∃ V1 : Nat → Prop, V1 = U1 := ⟨_, rfl⟩
        obtain ⟨V2, hV2⟩ : ∃ V2 : Nat → Prop, V2 = U2 := ⟨_, rfl⟩
        rw [← hV1] at hA3
        rw [← hV2] at hB3
        have hd3 : ∀ j, V1 j → ¬ V2 j ∧ w.heap.size ≤ j ∧ j < w3.heap.size := by
          rw [hV1, hV2]
          intro j h
          have h5 := hd j h
          have := HSA.out
          exact ⟨h5.1, by omega, by omega⟩
        have he3 : ∀ j, V2 j → w.heap.size ≤ j ∧ j < w3.heap.size := by
          rw [hV2]
          intro j h
          have := he j h
          have := HSA.out
          exact ⟨by omega, by omega⟩
        clear hV1 hV2 hd he hgl
        obtain ⟨pa3, hpa3⟩ : ∃ pa3, gt pa ky = pa3 := ⟨_, rfl⟩
        obtain ⟨pb3, hpb3⟩ : ∃ pb3, gt pb ky = pb3 := ⟨_, rfl⟩
        rw [hpa3] at hA3 hi3 hla
        rw [hpb3] at hB3 hi3 hlb
        clear hpa3 hpb3
        rw [HQ2.out]
        go_wp2_with fail
        
        have hla100 : pa3.length ≤ 100 := by have := HMB.out; omega
        have hnd := And.intro hA3.nodup hB3.nodup
        have h30 := hA3.keys30
        have HND3 := Lib.hid hnd
        have HI3 := Lib.hid hi3
        have H30 := Lib.hid h30
        clear hnd h30
        refine (ca_keys hA3 (by have := HMB.out; omega)).mono ?_
        rintro e w4 ⟨kv, rfl, hK4, hf4⟩
        have hA4 := hA3.frm0 hf4
        have hB4 := hB3.frm0 hf4
        have hF4 := hF3.trans hf4
        have hs4 := hf4.size
        obtain ⟨KA, kc, rfl⟩ := (Sl.of_own hK4).form
        clear hA3 hB3 hF3 hf4
        go_wp2_with fail
        have HA4 := Lib.hid hA4
        have HB4 := Lib.hid hB4
        have HK4 := Lib.hid hK4
        clear hA4 hB4 hK4
        go_loopw [91] (fun i wq => ∃ (j : Nat), j ≤ pa3.length ∧ i = .int .i64 j ∧ Frm0 w4 wq) (fun i _ => pa3.length - (intOf i).toNat)
        case atStart => exact ⟨0, by omega, rfl, Frm.refl _ _⟩
        case round =>
          obtain ⟨j, hj, rfl, hFq⟩ := hrel
          by_cases hjl : j < pa3.length
          · obtain ⟨g1, rfl, q1⟩ := str_key HK4.out j hjl
            have q1 := hFq.cell q1 (fun h => h)
            have hmem := List.getElem_mem hjl
            have hp1 := pk_yes (fnd_mem HND3.out.1 hmem)
            have hp2 := pk_yes (fnd_mem HND3.out.2 (HI3.out.1.subset hmem))
            have hk3 := H30.out _ hmem
            have HP1 := Lib.hid (ca_peek (HA4.out.frm0 hFq) hk3)
            have HP2 := Lib.hid (ca_peek (HB4.out.frm0 hFq) hk3)
            rw [hp1] at HP1
            rw [hp2] at HP2
            clear hp1 hp2 hmem hk3
            generalize (pa3[j]).1 = kj at *
            generalize (pa3[j]).2 = vj at *
            go_wp2_with fail
            refine HP1.out.mono ?_
            rintro e w5 ⟨rfl, rfl⟩
            go_wp2_with fail
            refine HP2.out.mono ?_
            rintro e w5 ⟨rfl, rfl⟩
            go_wp2
            go_roundw
            case rel => exact ⟨j + 1, by omega, by go_num, hFq⟩
            case measure => simp [intOf]; omega
          · obtain rfl : j = pa3.length := by omega
            have hq4 := hFq.size
            have hd4 : ∀ i, V1 i → ¬ V2 i ∧ w.heap.size ≤ i ∧ i < wr.heap.size := fun i hi => by have h5 := hd3 i hi; exact ⟨h5.1, h5.2.1, by omega⟩
            have he4 : ∀ i, V2 i → w.heap.size ≤ i ∧ i < wr.heap.size := fun i hi => by have h5 := he3 i hi; exact ⟨h5.1, by omega⟩
            go_wp2
            go_roundw
            case rel => exact ⟨k + 1, pa3, pb3, V1, V2, by omega, by go_num, HA4.out.frm0 hFq, HB4.out.frm0 hFq, hd4, he4, (show Hid _ from HI3.out), hla, hlb, hF4.trans hFq⟩
            case measure => simp [intOf]; omega
      | none =>
        have HQ1 := Lib.hid (pk_no hfa)
        clear hfa
        go_wp2_with fail
        rw [← HWA.out]
        refine HGA.out.mono ?_
        rintro e w2 ⟨rfl, hA2, hf2⟩
        have hF2 := hF1.then_ hf2 (fun i hi h => by have := (hd i h).2.1; omega)
        have x1 := hf2.cell x1 (fun h => by have := (hd _ h).2.2; simp at this)
        have x2 := hf2.cell x2 (fun h => by have := (hd _ h).2.2; simp at this)
        have hs2 := hf2.size
        have HGB2 := Lib.hid (HGB.out w2 hf2)
        clear hA1 hB1 hF1 hf2
        rw [HQ1.out]
        go_wp2_with fail
        refine HGB2.out.mono ?_
        rintro e w3 ⟨rfl, hB3, hf3⟩
        have hF3 := hF2.then_ hf3 (fun i hi h => by have := (he i h).1; omega)
        have hA3 := (HAF.out w2 w3 hA2 hf3).mono (V := U1) (Nat.le_succ k) (fun _ h _ => h)
        have hB3 := hB3.mono (V := U2) (Nat.le_succ k) (fun _ h _ => h)
        have hs3 := hf3.size
        have hi3 := inc_get HI.out HND.out.1 HND.out.2 ky
        have hla : ((gt pa ky).length : Int) ≤ na := by omega
        have hlb : ((gt pb ky).length : Int) ≤ nb := by omega
        clear hA2 hF2 hf3
        obtain ⟨V1, hV1⟩ : ∃ V1 : Nat → Prop, V1 = U1 := ⟨_, rfl⟩
        obtain ⟨V2, hV2⟩ : ∃ V2 : Nat → Prop, V2 = U2 := ⟨_, rfl⟩
        rw [← hV1] at hA3
        rw [← hV2] at hB3
        have hd3 : ∀ j, V1 j → ¬ V2 j ∧ w.heap.size ≤ j ∧ j < w3.heap.size := by
          rw [hV1, hV2]
          intro j h
          have h5 := hd j h
          have := HSA.out
          exact ⟨h5.1, by omega, by omega⟩
        have he3 : ∀ j, V2 j → w.heap.size ≤ j ∧ j < w3.heap.size := by
          rw [hV2]
          intro j h
          have := he j h
          have := HSA.out
          exact ⟨by omega, by omega⟩
        clear hV1 hV2 hd he hgl
        obtain ⟨pa3, hpa3⟩ : ∃ pa3, gt pa ky = pa3 := ⟨_, rfl⟩
        obtain ⟨pb3, hpb3⟩ : ∃ pb3, gt pb ky = pb3 := ⟨_, rfl⟩
        rw [hpa3] at hA3 hi3 hla
        rw [hpb3] at hB3 hi3 hlb
        clear hpa3 hpb3
        generalize (pk pb ky).1 = sb
        generalize (pk pb ky).2 = tb
        go_wp2_with fail
        
        have hla100 : pa3.length ≤ 100 := by have := HMB.out; omega
        have hnd := And.intro hA3.nodup hB3.nodup
        have h30 := hA3.keys30
        have HND3 := Lib.hid hnd
        have HI3 := Lib.hid hi3
        have H30 := Lib.hid h30
        clear hnd h30
        refine (ca_keys hA3 (by have := HMB.out; omega)).mono ?_
        rintro e w4 ⟨kv, rfl, hK4, hf4⟩
        have hA4 := hA3.frm0 hf4
        have hB4 := hB3.frm0 hf4
        have hF4 := hF3.trans hf4
        have hs4 := hf4.size
        obtain ⟨KA, kc, rfl⟩ := (Sl.of_own hK4).form
        clear hA3 hB3 hF3 hf4
        go_wp2_with fail
        have HA4 := Lib.hid hA4
        have HB4 := Lib.hid hB4
        have HK4 := Lib.hid hK4
        clear hA4 hB4 hK4
        go_loopw [91] (fun i wq => ∃ (j : Nat), j ≤ pa3.length ∧ i = .int .i64 j ∧ Frm0 w4 wq) (fun i _ => pa3.length - (intOf i).toNat)
        case atStart => exact ⟨0, by omega, rfl, Frm.refl _ _⟩
        case round =>
          obtain ⟨j, hj, rfl, hFq⟩ := hrel
          by_cases hjl : j < pa3.length
          · obtain ⟨g1, rfl, q1⟩ := str_key HK4.out j hjl
            have q1 := hFq.cell q1 (fun h => h)
            have hmem := List.getElem_mem hjl
            have hp1 := pk_yes (fnd_mem HND3.out.1 hmem)
            have hp2 := pk_yes (fnd_mem HND3.out.2 (HI3.out.1.subset hmem))
            have hk3 := H30.out _ hmem
            have HP1 := Lib.hid (ca_peek (HA4.out.frm0 hFq) hk3)
            have HP2 := Lib.hid (ca_peek (HB4.out.frm0 hFq) hk3)
            rw [hp1] at HP1
            rw [hp2] at HP2
            clear hp1 hp2 hmem hk3
            generalize (pa3[j]).1 = kj at *
            generalize (pa3[j]).2 = vj at *
            go_wp2_with fail
            refine HP1.out.mono ?_
            rintro e w5 ⟨rfl, rfl⟩
            go_wp2_with fail
            refine HP2.out.mono ?_
            rintro e w5 ⟨rfl, rfl⟩
            go_wp2
            go_roundw
            case rel => exact ⟨j + 1, by omega, by go_num, hFq⟩
            case measure => simp [intOf]; omega
          · obtain rfl : j = pa3.length := by omega
            have hq4 := hFq.size
            have hd4 : ∀ i, V1 i → ¬ V2 i ∧ w.heap.size ≤ i ∧ i < wr.heap.size := fun i hi => by have h5 := hd3 i hi; exact ⟨h5.1, h5.2.1, by omega⟩
            have he4 : ∀ i, V2 i → w.heap.size ≤ i ∧ i < wr.heap.size := fun i hi => by have h5 := he3 i hi; exact ⟨h5.1, by omega⟩
            go_wp2
            go_roundw
            case rel => exact ⟨k + 1, pa3, pb3, V1, V2, by omega, by go_num, HA4.out.frm0 hFq, HB4.out.frm0 hFq, hd4, he4, (show Hid _ from HI3.out), hla, hlb, hF4.trans hFq⟩
            case measure => simp [intOf]; omega
    · obtain rfl : k = l.length := by omega
      go_wp2_with fail
      refine (put_nil _ _ _).mono ?_
      rintro e w5 ⟨rfl, rfl⟩
      go_wp2_with fail
      refine (get_of (find_nil _ _)).mono ?_
      rintro e w5 ⟨rfl, rfl⟩
      go_wp2_with fail
      refine (peek_of (find_nil _ _)).mono ?_
      rintro e w5 ⟨rfl, rfl⟩
      go_wp2_with fail
      refine (drop_of (find_nil _ _)).mono ?_
      rintro e w5 ⟨rfl, rfl⟩
      go_wp2_with fail
      refine (len_nil _).mono ?_
      rintro e w5 ⟨rfl, rfl⟩
      go_wp2_with fail
      refine (keys_nil _).mono ?_
      rintro e w5 ⟨rfl, rfl⟩
      go_wp2
      go_ret
      exact ⟨rfl, hF.below (fun _ _ h => h)⟩
end Lr
end Go.Proofs.Ythmhihmbciigdaa
