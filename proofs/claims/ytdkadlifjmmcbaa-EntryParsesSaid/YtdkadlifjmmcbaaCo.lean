/- The walks of entry.core and entry.Bytes for a header without tokens. -/
import Derived.Test.YtdkadlifjmmcbaaFo
import Derived.Test.YtdkadlifjmmcbaaEp
namespace Go.Proofs.Ytdkadlifjmmcbaa
open Go.RowKit

/-- a formed header's core -/
def coreB (h : Hdr) (toks : List (List UInt8)) : List UInt8 :=
  numB h.wr.toNat ++ numB h.sq ++ h.pv ++ numB h.ep.toNat ++ [if h.ct then 1 else 0] ++ numB h.tm ++ h.it ++ numB h.n ++ toks.flatten ++ (h.kn.map numB).flatten ++ h.sm ++ numB h.sz.toNat

set_option maxRecDepth 100000 in
set_option maxHeartbeats 400000 in
theorem sorted_empty (A : Option Addr) (c : Nat) (w : World) : Calls Try.prog 48 #[.slice A 0 c] w fun e w' => e = .returned (.bool true) ∧ Below w.heap.size w w' := by
  go_enter Try.func48, Try.ntmps48
  go_wp2
  refine wp_loop_rounds 2 ?_
  repeat any_goals (rw [rounds_succ]; go_wp2)
  all_goals (go_returns; exact ⟨rfl, Below.refl _ _⟩)

set_option maxRecDepth 100000 in
set_option maxHeartbeats 200000 in
theorem core0_any (h : Hdr) (o : h.ok) (w : World) (hw1 : 0 ≤ h.wr) (hw2 : h.wr ≤ 9223372036854775807) (he1 : 0 ≤ h.ep) (he2 : h.ep ≤ 9223372036854775807) (hz1 : 0 ≤ h.sz) (hz2 : h.sz ≤ 9223372036854775807) (hq : h.sq < 18446744073709551616) (ht : h.tm < 18446744073709551616)
    (hk : ∀ k ∈ h.kn, k < 18446744073709551616) (hn : h.n = 0) :
    Calls Try.prog 40 #[.agg h.arr] w (RetB (coreB h []) (fun v => v) w) := by
  have H := HAt.new w o
  obtain ⟨a, ha⟩ := Int.eq_ofNat_of_zero_le hw1
  obtain ⟨ep, hep⟩ := Int.eq_ofNat_of_zero_le he1
  obtain ⟨z, hz⟩ := Int.eq_ofNat_of_zero_le hz1
  have hcore : coreB h [] = numB a ++ numB h.sq ++ h.pv ++ numB ep ++ [if h.ct then 1 else 0] ++ numB h.tm ++ h.it ++ numB 0 ++ (h.kn.map numB).flatten ++ h.sm ++ numB z := by
    simp [coreB, ha, hep, hz, hn]
  generalize coreB h [] = C at *
  have HCO := Lib.hid hcore
  have ha1 : a ≤ 9223372036854775807 := by omega
  have he3 : ep ≤ 9223372036854775807 := by omega
  have hz3 : z ≤ 9223372036854775807 := by omega
  have HW3 := Lib.hid ha
  have HE3 := Lib.hid hep
  have HZ3 := Lib.hid hz
  have HK := Lib.hid hk
  have HH := Lib.hid H
  obtain ⟨k0, k1, k2, k3, k4, k5, hkn⟩ := list6 o.kn
  clear hk H hw1 hw2 he1 he2 hz1 hz2 ha hep hz hcore
  have hS0 : ∀ i, i < w.heap.size + 1 → i < (w.alloc (.cells h.arr 44)).heap.size := fun i hi => by simpa using hi
  have hout := OutIs.new (w.alloc (.cells h.arr 44)) (fun i => i < w.heap.size + 1) hS0
  simp only [World.size_alloc] at hout
  have HO := Lib.hid hout
  have hlt : w.heap.size < w.heap.size + 1 := by omega
  have l1 := numB_len64 (x := a) (by omega)
  have l2 := numB_len64 (x := h.sq) (by omega)
  have l3 := numB_len64 (x := ep) (by omega)
  have l4 := numB_len64 (x := h.tm) (by omega)
  have l5 := numB_len64 (x := z) (by omega)
  have l6 := numB_len64 (x := 0) (by omega)
  have g0 : k0 < 18446744073709551616 := HK.out k0 (by rw [hkn]; simp)
  have m0 := numB_len64 (x := k0) g0
  have g1 : k1 < 18446744073709551616 := HK.out k1 (by rw [hkn]; simp)
  have m1 := numB_len64 (x := k1) g1
  have g2 : k2 < 18446744073709551616 := HK.out k2 (by rw [hkn]; simp)
  have m2 := numB_len64 (x := k2) g2
  have g3 : k3 < 18446744073709551616 := HK.out k3 (by rw [hkn]; simp)
  have m3 := numB_len64 (x := k3) g3
  have g4 : k4 < 18446744073709551616 := HK.out k4 (by rw [hkn]; simp)
  have m4 := numB_len64 (x := k4) g4
  have g5 : k5 < 18446744073709551616 := HK.out k5 (by rw [hkn]; simp)
  have m5 := numB_len64 (x := k5) g5
  have r1 := o.pv
  have r2 := o.it
  have r3 := o.sm
  have q := HH.out.wr
  rw [HW3.out] at q
  have qa := (HH.out.blk.cell 0).symm.trans q
  have hkp := Keep.refl (fun i => i < w.heap.size + 1) (w.alloc (.cells h.arr 44))
  have HKP := Lib.hid hkp
  clear hout hkp hS0
  go_enter Try.func40, Try.ntmps40
  go_wp2_with fail
  refine (onum_any _ _ _ [] false HO.out a (by omega) (by simp)).mono ?_
  rintro e w1 ⟨rfl, out1, k1_⟩
  have hkp := ((HKP.out).alloc (.cells #[.slice none 0 0, .bool false] 52)).trans k1_
  clear q HKP k1_ HO
  have HKP := Lib.hid hkp
  have HC := HH.out.keep hkp hlt
  have q := HC.sq
  have HN := Lib.hid HC
  clear hkp HC
  clear HN
  go_wp2_with fail
  refine (onum_any _ _ _ _ _ out1 (h.sq) (by omega) (by simp; omega)).mono ?_
  rintro e w2 ⟨rfl, out2, k2_⟩
  have hkp := HKP.out.trans k2_
  clear q HKP k2_ out1
  have HKP := Lib.hid hkp
  have HC := HH.out.keep hkp hlt
  have q := HC.sq
  have HN := Lib.hid HC
  clear hkp HC
  go_wp2_with fail
  refine (oraw_any _ _ _ _ _ out2 _ _ _ h.pv r1 HN.out.rpv (by simp; omega)).mono ?_
  rintro e w3 ⟨rfl, out3, k3_⟩
  have hkp := HKP.out.trans k3_
  clear q HKP k3_ out2
  have HKP := Lib.hid hkp
  have HC := HH.out.keep hkp hlt
  have q := HC.ep
  rw [HE3.out] at q
  have HN := Lib.hid HC
  clear hkp HC
  clear HN
  go_wp2_with fail
  refine (onum_any _ _ _ _ _ out3 (ep) (by omega) (by simp; omega)).mono ?_
  rintro e w4 ⟨rfl, out4, k4_⟩
  have hkp := HKP.out.trans k4_
  clear q HKP k4_ out3
  have HKP := Lib.hid hkp
  have HC := HH.out.keep hkp hlt
  have q := HC.ct
  have HN := Lib.hid HC
  clear hkp HC
  clear HN
  go_wp2_with fail
  refine (oflag_any _ _ _ _ _ out4 h.ct (by simp; omega)).mono ?_
  rintro e w5 ⟨rfl, out5, k5_⟩
  have hkp := HKP.out.trans k5_
  clear q HKP k5_ out4
  have HKP := Lib.hid hkp
  have HC := HH.out.keep hkp hlt
  have q := HC.tm
  have HN := Lib.hid HC
  clear hkp HC
  clear HN
  go_wp2_with fail
  refine (onum_any _ _ _ _ _ out5 (h.tm) (by omega) (by simp; omega)).mono ?_
  rintro e w6 ⟨rfl, out6, k6_⟩
  have hkp := HKP.out.trans k6_
  clear q HKP k6_ out5
  have HKP := Lib.hid hkp
  have HC := HH.out.keep hkp hlt
  have q := HC.tm
  have HN := Lib.hid HC
  clear hkp HC
  go_wp2_with fail
  refine (oraw_any _ _ _ _ _ out6 _ _ _ h.it r2 HN.out.rit (by simp; omega)).mono ?_
  rintro e w7 ⟨rfl, out7, k7_⟩
  have hkp := HKP.out.trans k7_
  clear q HKP k7_ out6
  have HKP := Lib.hid hkp
  have HC := HH.out.keep hkp hlt
  have q := HC.toks
  have HN := Lib.hid HC
  clear hkp HC
  rw [hn] at q
  clear HN
  go_wp2_with fail
  refine (onum_any _ _ _ _ _ out7 0 (by omega) (by simp; omega)).mono ?_
  rintro e w8 ⟨rfl, out8, k8_⟩
  have hkp := HKP.out.trans k8_
  clear q HKP k8_ out7
  have HKP := Lib.hid hkp
  have HC := HH.out.keep hkp hlt
  have q := HC.toks
  have HN := Lib.hid HC
  clear hkp HC
  rw [hn] at q
  have c0 : w8.cell? ⟨w.heap.size, 54, none⟩ = some (.int .u64 (k0 : Int)) := by rw [HN.out.kn 0 (by omega), hkn]; rfl
  have c1 : w8.cell? ⟨w.heap.size, 55, none⟩ = some (.int .u64 (k1 : Int)) := by rw [HN.out.kn 1 (by omega), hkn]; rfl
  have c2 : w8.cell? ⟨w.heap.size, 56, none⟩ = some (.int .u64 (k2 : Int)) := by rw [HN.out.kn 2 (by omega), hkn]; rfl
  have c3 : w8.cell? ⟨w.heap.size, 57, none⟩ = some (.int .u64 (k3 : Int)) := by rw [HN.out.kn 3 (by omega), hkn]; rfl
  have c4 : w8.cell? ⟨w.heap.size, 58, none⟩ = some (.int .u64 (k4 : Int)) := by rw [HN.out.kn 4 (by omega), hkn]; rfl
  have c5 : w8.cell? ⟨w.heap.size, 59, none⟩ = some (.int .u64 (k5 : Int)) := by rw [HN.out.kn 5 (by omega), hkn]; rfl
  clear HN
  obtain ⟨iu, hiu, hius⟩ := info_size (P := Try.prog) (t := 36) (n := 1) (by kernel_rfl)
  have hix := fun (W : World) (j : Nat) (v : Value) (hj : j < 6) hv => run_index_arr (P := Try.prog) W 42 36 6 #[.int .u64 (k0 : Int), .int .u64 (k1 : Int), .int .u64 (k2 : Int), .int .u64 (k3 : Int), .int .u64 (k4 : Int), .int .u64 (k5 : Int)] .i64 .u64 j v iu Try.underlying42 hiu hius Try.underlying36 hj hv
  have hx0 := fun W => hix W 0 _ (by omega) rfl
  have hx1 := fun W => hix W 1 _ (by omega) rfl
  have hx2 := fun W => hix W 2 _ (by omega) rfl
  have hx3 := fun W => hix W 3 _ (by omega) rfl
  have hx4 := fun W => hix W 4 _ (by omega) rfl
  have hx5 := fun W => hix W 5 _ (by omega) rfl
  clear hix hiu hius
  simp only [Int.cast_ofNat_Int] at hx0 hx1 hx2 hx3 hx4 hx5
  go_wp2_with fail
  refine wp_loop_rounds 1 ?_
  rw [rounds_succ]
  go_wp2_with fail
  refine wp_loop_rounds 7 ?_
  rw [rounds_succ]
  go_wp2_with fail
  refine (onum_any _ _ _ _ _ out8 k0 g0 (by simp; omega)).mono ?_
  rintro e w9 ⟨rfl, out9, k9_⟩
  have hkp := HKP.out.trans k9_
  clear q HKP k9_ out8
  have HKP := Lib.hid hkp
  have HC := HH.out.keep hkp hlt
  have HN := Lib.hid HC
  clear hkp HC
  go_wp2_with fail
  clear hx0 c0 c1 c2 c3 c4 c5
  clear HN
  rw [rounds_succ]
  go_wp2_with fail
  refine (onum_any _ _ _ _ _ out9 k1 g1 (by simp; omega)).mono ?_
  rintro e w10 ⟨rfl, out10, k10_⟩
  have hkp := HKP.out.trans k10_
  clear HKP k10_ out9
  have HKP := Lib.hid hkp
  have HC := HH.out.keep hkp hlt
  have HN := Lib.hid HC
  clear hkp HC
  go_wp2_with fail
  clear hx1
  clear HN
  rw [rounds_succ]
  go_wp2_with fail
  refine (onum_any _ _ _ _ _ out10 k2 g2 (by simp; omega)).mono ?_
  rintro e w11 ⟨rfl, out11, k11_⟩
  have hkp := HKP.out.trans k11_
  clear HKP k11_ out10
  have HKP := Lib.hid hkp
  have HC := HH.out.keep hkp hlt
  have HN := Lib.hid HC
  clear hkp HC
  go_wp2_with fail
  clear hx2
  clear HN
  rw [rounds_succ]
  go_wp2_with fail
  refine (onum_any _ _ _ _ _ out11 k3 g3 (by simp; omega)).mono ?_
  rintro e w12 ⟨rfl, out12, k12_⟩
  have hkp := HKP.out.trans k12_
  clear HKP k12_ out11
  have HKP := Lib.hid hkp
  have HC := HH.out.keep hkp hlt
  have HN := Lib.hid HC
  clear hkp HC
  go_wp2_with fail
  clear hx3
  clear HN
  rw [rounds_succ]
  go_wp2_with fail
  refine (onum_any _ _ _ _ _ out12 k4 g4 (by simp; omega)).mono ?_
  rintro e w13 ⟨rfl, out13, k13_⟩
  have hkp := HKP.out.trans k13_
  clear HKP k13_ out12
  have HKP := Lib.hid hkp
  have HC := HH.out.keep hkp hlt
  have HN := Lib.hid HC
  clear hkp HC
  go_wp2_with fail
  clear hx4
  clear HN
  rw [rounds_succ]
  go_wp2_with fail
  refine (onum_any _ _ _ _ _ out13 k5 g5 (by simp; omega)).mono ?_
  rintro e w14 ⟨rfl, out14, k14_⟩
  have hkp := HKP.out.trans k14_
  clear HKP k14_ out13
  have HKP := Lib.hid hkp
  have HC := HH.out.keep hkp hlt
  have HN := Lib.hid HC
  clear hkp HC
  go_wp2_with fail
  clear hx5
  rw [rounds_succ]
  go_wp2_with fail
  refine (oraw_any _ _ _ _ _ out14 _ _ _ h.sm r3 HN.out.rsm (by simp; omega)).mono ?_
  rintro e w15 ⟨rfl, out15, k15_⟩
  have hkp := HKP.out.trans k15_
  clear HKP k15_ out14
  have HKP := Lib.hid hkp
  have HC := HH.out.keep hkp hlt
  have q := HC.sz
  rw [HZ3.out] at q
  have HN := Lib.hid HC
  clear hkp HC
  clear HN
  go_wp2_with fail
  refine (onum_any _ _ _ _ _ out15 z (by omega) (by simp; omega)).mono ?_
  rintro e w16 ⟨rfl, out16, k16_⟩
  have hkp := HKP.out.trans k16_
  clear q HKP k16_ out15
  have HKP := Lib.hid hkp
  have HC := HH.out.keep hkp hlt
  have HN := Lib.hid HC
  clear hkp HC
  clear HN
  go_wp2_with fail
  have outC : OutIs (fun i => i < w.heap.size + 1) w16 (w.heap.size + 1) C false := by
    rw [HCO.out, hkn]
    simpa using out16
  have hCl : C.length ≤ 16384 := by rw [HCO.out, hkn]; simp; omega
  have hsz0 := HKP.out.size
  have hblw : Below w.heap.size w (w.alloc (.cells h.arr 44)) := (Below.refl _ w).alloc (Nat.le_refl _) _
  have hblw2 := hblw.trans (HKP.out.below (B := w.heap.size) (fun i hi => Nat.lt_succ_of_lt hi) (by simp))
  simp only [World.size_alloc] at hsz0
  have HBW := Lib.hid hblw2
  clear out16 hblw hblw2
  refine (oend_any _ _ _ _ outC hCl).mono ?_
  rintro e wf ⟨A, cf, rfl, ownf, frf, belf⟩
  go_wp2
  go_returns
  exact ⟨A, cf, rfl, ownf, fun r hr => by have := frf r hr; omega, HBW.out.trans (belf.mono (by omega))⟩

end Go.Proofs.Ytdkadlifjmmcbaa
