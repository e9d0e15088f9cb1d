/- The walk of control.Parse. -/
import Derived.Test.YtdkadlifjmmcbaaDoorKm
import Derived.Laws.CopyOwn
namespace Go.Proofs.YtdkadlifjmmcbaaDoor
open Go.RowKit

def RetK (b : List UInt8) (e : Ending) (w' : World) : Prop :=
  if okK b then ∃ c : Ctl, e = .returned (.tuple #[.agg c.arr, .int .i64 0]) ∧ KReads w' c (parseK b).op (parseK b).me (parseK b).cut (parseK b).ts (parseK b).hd
  else e = .returned (.tuple #[.agg ctlZ.arr, .int .i64 2])

set_option maxRecDepth 100000 in
set_option maxHeartbeats 1000000 in
theorem kparse_any (A : Option Addr) (n c : Nat) (b : List UInt8) (w : World) (hl : b.length = n) (hr : RB w A b) (hb : n ≤ 100000000000000) :
    Calls Tryd.prog 11 #[.slice A n c] w fun e w' => RetK b e w' ∧ Below w.heap.size w w' := by
  subst hl
  have hrd := fun o => read_any (w.alloc o) A b.length c b rfl (hr.keep fun p hp => World.cell?_alloc_lt w _ p hp) (by omega)
  have HRd := Lib.hid hrd
  have hzv := ctl_zero
  have hszZ : (Tryd.prog.info? 35).map (·.size) = some ctlZ.arr.size := by kernel_rfl
  clear hrd hr
  go_enter Tryd.func11, Tryd.ntmps11
  go_wp2_with fail
  refine (HRd.out _).mono ?_
  rintro e w1 ⟨gi, R, rfl, hin1, hR1, bel1⟩
  have hgi := hR1 gi hin1.rg
  simp only [World.size_alloc] at hgi hR1 bel1
  have bel01 : Below (w.heap.size + 1) (w.alloc (.cells ctlZ.arr 35)) w1 := bel1
  have HN := Lib.hid hin1
  have HB := Lib.hid bel01
  have hrl1 : ∀ i, R i → i < w1.heap.size := fun i hi => (hR1 i hi).2
  have HRL := Lib.hid hrl1
  clear hin1 bel1 bel01 hrl1
  go_wp2_with fail
  refine (inum_in R _ gi b false HN.out 5 (by omega)).mono ?_
  rintro e w2 ⟨rfl, hin, hk⟩
  have bel := kbel HB.out (by have := HB.out.size; simp at this; omega) hk (fun i hi => by omega)
  have hrl : ∀ i, R i → i < w2.heap.size := fun i hi => Nat.lt_of_lt_of_le (HRL.out i hi) hk.size
  have hn0 := numT_le 5 b false
  have hl0 := numT_len 5 b false
  generalize e0 : numT 5 b false = r0 at *
  have E0 := Lib.hid e0
  clear HN HB HRL e0
  have HN := Lib.hid hin
  have HB := Lib.hid bel
  have HRL := Lib.hid hrl
  clear hin bel hrl hk
  go_wp2_with fail
  refine (inum_in R _ gi r0.2.1 r0.2.2 HN.out 6 (by omega)).mono ?_
  rintro e w3 ⟨rfl, hin, hk⟩
  have bel := kbel HB.out (by have := HB.out.size; simp at this; omega) hk (fun i hi => by omega)
  have hrl : ∀ i, R i → i < w3.heap.size := fun i hi => Nat.lt_of_lt_of_le (HRL.out i hi) hk.size
  have hn1 := numT_le 6 r0.2.1 r0.2.2
  have hl1 := numT_len 6 r0.2.1 r0.2.2
  generalize e1 : numT 6 r0.2.1 r0.2.2 = r1 at *
  have E1 := Lib.hid e1
  clear HN HB HRL e1
  have HN := Lib.hid hin
  have HB := Lib.hid bel
  have HRL := Lib.hid hrl
  clear hin bel hrl hk
  go_wp2_with fail
  refine (inum_in R _ gi r1.2.1 r1.2.2 HN.out 1048576 (by omega)).mono ?_
  rintro e w4 ⟨rfl, hin, hk⟩
  have bel := kbel HB.out (by have := HB.out.size; simp at this; omega) hk (fun i hi => by omega)
  have hrl : ∀ i, R i → i < w4.heap.size := fun i hi => Nat.lt_of_lt_of_le (HRL.out i hi) hk.size
  have hn2 := numT_le 1048576 r1.2.1 r1.2.2
  have hl2 := numT_len 1048576 r1.2.1 r1.2.2
  generalize e2 : numT 1048576 r1.2.1 r1.2.2 = r2 at *
  have E2 := Lib.hid e2
  clear HN HB HRL e2
  have HN := Lib.hid hin
  have HB := Lib.hid bel
  have HRL := Lib.hid hrl
  clear hin bel hrl hk
  have hnew := heap_alloc_new w4 (.cells ctlZ.arr 35)
  have hwr := World.setRow_alloc_new w4 ctlZ.arr (Ctl.arr ⟨(r0.1 : Int), (r1.1 : Int), r2.1, [slZ, slZ, slZ, slZ, slZ, slZ], slZ⟩) 35
  have hszc : (Tryd.prog.info? 35).map (·.size) = some (Ctl.arr ⟨(r0.1 : Int), (r1.1 : Int), r2.1, [slZ, slZ, slZ, slZ, slZ, slZ], slZ⟩).size := by kernel_rfl
  have hI : KInv (w.alloc (.cells ctlZ.arr 35)) (w.heap.size + 1) R gi w4.heap.size ⟨(r0.1 : Int), (r1.1 : Int), r2.1, [slZ, slZ, slZ, slZ, slZ, slZ], slZ⟩ [] r2.2.1 r2.2.2 (w4.alloc (.cells (Ctl.arr ⟨(r0.1 : Int), (r1.1 : Int), r2.1, [slZ, slZ, slZ, slZ, slZ, slZ], slZ⟩) 35)) :=
    ⟨HN.out.keep ((Keep.refl R w4).alloc _), CAt.new w4 rfl, (fun p hp => by cases hp), (fun h => by have := HRL.out _ h; omega), by have := HB.out.size; simp at this; omega, by omega, HB.out.alloc (by have := HB.out.size; simp at this; omega) _, by simp, fun i hi => by have := HRL.out i hi; simp; omega⟩
  have HI := Lib.hid hI
  have hgs := HB.out.size
  simp only [World.size_alloc] at hgs
  clear hI HN HB HRL
  have hszg : w4.heap.size = w4.heap.size := rfl
  clear hszg
  go_wp2_with (first | (refine wpList_store_row rfl 35 _ _ rfl w4.heap.size (Ctl.arr ⟨(r0.1 : Int), (r1.1 : Int), r2.1, [slZ, slZ, slZ, slZ, slZ, slZ], slZ⟩) rfl rfl 35 ctlZ.arr hnew hszc rfl (Ctl.one _) ?_; rw [hwr]) | fail)
  clear hwr hnew hszc
  refine wp_loop_rounds 7 ?_
  rw [rounds_succ]
  go_wp2_with fail
  refine (itext_in R _ gi r2.2.1 r2.2.2 HI.out.inn 48 (by omega) (by omega)).mono ?_
  rintro e w5 ⟨A0, c0, rfl, own, fr, hin, hk⟩
  have hI := HI.out.txt own fr hin hk
  have hl3 := textT_len 48 r2.2.1 r2.2.2
  generalize e3 : textT 48 r2.2.1 r2.2.2 = r3 at *
  have E3 := Lib.hid e3
  have hc : w5.cell? ⟨w4.heap.size, 3, none⟩ = some (.slice none 0 0) := by rw [hI.hat.at]; rfl
  have hf := hI.hat.blk.free 3
  have hlt := hI.hat.blk.lt
  have hJ : KInv (w.alloc (.cells ctlZ.arr 35)) (w.heap.size + 1) R gi w4.heap.size ⟨(r0.1 : Int), (r1.1 : Int), r2.1, [⟨A0, r3.1.length, c0⟩, slZ, slZ, slZ, slZ, slZ], slZ⟩ [(A0, r3.1)] r3.2.1 r3.2.2 (w5.setCell ⟨w4.heap.size, 3, none⟩ (.slice A0 r3.1.length c0)) := hI.put (i := 3) rfl rfl
  clear e3 own fr hin hk hI HI
  have HI := Lib.hid hJ
  clear hJ
  go_wp2_with fail
  rw [rounds_succ]
  go_wp2_with fail
  refine (itext_in R _ gi r3.2.1 r3.2.2 HI.out.inn 48 (by omega) (by omega)).mono ?_
  rintro e w6 ⟨A1, c1, rfl, own, fr, hin, hk⟩
  have hI := HI.out.txt own fr hin hk
  have hl4 := textT_len 48 r3.2.1 r3.2.2
  generalize e4 : textT 48 r3.2.1 r3.2.2 = r4 at *
  have E4 := Lib.hid e4
  have hc : w6.cell? ⟨w4.heap.size, 4, none⟩ = some (.slice none 0 0) := by rw [hI.hat.at]; rfl
  have hf := hI.hat.blk.free 4
  have hlt := hI.hat.blk.lt
  have hJ : KInv (w.alloc (.cells ctlZ.arr 35)) (w.heap.size + 1) R gi w4.heap.size ⟨(r0.1 : Int), (r1.1 : Int), r2.1, [⟨A0, r3.1.length, c0⟩, ⟨A1, r4.1.length, c1⟩, slZ, slZ, slZ, slZ], slZ⟩ [(A0, r3.1), (A1, r4.1)] r4.2.1 r4.2.2 (w6.setCell ⟨w4.heap.size, 4, none⟩ (.slice A1 r4.1.length c1)) := hI.put (i := 4) rfl rfl
  clear e4 own fr hin hk hI HI
  have HI := Lib.hid hJ
  clear hJ
  go_wp2_with fail
  rw [rounds_succ]
  go_wp2_with fail
  refine (itext_in R _ gi r4.2.1 r4.2.2 HI.out.inn 48 (by omega) (by omega)).mono ?_
  rintro e w7 ⟨A2, c2, rfl, own, fr, hin, hk⟩
  have hI := HI.out.txt own fr hin hk
  have hl5 := textT_len 48 r4.2.1 r4.2.2
  generalize e5 : textT 48 r4.2.1 r4.2.2 = r5 at *
  have E5 := Lib.hid e5
  have hc : w7.cell? ⟨w4.heap.size, 5, none⟩ = some (.slice none 0 0) := by rw [hI.hat.at]; rfl
  have hf := hI.hat.blk.free 5
  have hlt := hI.hat.blk.lt
  have hJ : KInv (w.alloc (.cells ctlZ.arr 35)) (w.heap.size + 1) R gi w4.heap.size ⟨(r0.1 : Int), (r1.1 : Int), r2.1, [⟨A0, r3.1.length, c0⟩, ⟨A1, r4.1.length, c1⟩, ⟨A2, r5.1.length, c2⟩, slZ, slZ, slZ], slZ⟩ [(A0, r3.1), (A1, r4.1), (A2, r5.1)] r5.2.1 r5.2.2 (w7.setCell ⟨w4.heap.size, 5, none⟩ (.slice A2 r5.1.length c2)) := hI.put (i := 5) rfl rfl
  clear e5 own fr hin hk hI HI
  have HI := Lib.hid hJ
  clear hJ
  go_wp2_with fail
  rw [rounds_succ]
  go_wp2_with fail
  refine (itext_in R _ gi r5.2.1 r5.2.2 HI.out.inn 48 (by omega) (by omega)).mono ?_
  rintro e w8 ⟨A3, c3, rfl, own, fr, hin, hk⟩
  have hI := HI.out.txt own fr hin hk
  have hl6 := textT_len 48 r5.2.1 r5.2.2
  generalize e6 : textT 48 r5.2.1 r5.2.2 = r6 at *
  have E6 := Lib.hid e6
  have hc : w8.cell? ⟨w4.heap.size, 6, none⟩ = some (.slice none 0 0) := by rw [hI.hat.at]; rfl
  have hf := hI.hat.blk.free 6
  have hlt := hI.hat.blk.lt
  have hJ : KInv (w.alloc (.cells ctlZ.arr 35)) (w.heap.size + 1) R gi w4.heap.size ⟨(r0.1 : Int), (r1.1 : Int), r2.1, [⟨A0, r3.1.length, c0⟩, ⟨A1, r4.1.length, c1⟩, ⟨A2, r5.1.length, c2⟩, ⟨A3, r6.1.length, c3⟩, slZ, slZ], slZ⟩ [(A0, r3.1), (A1, r4.1), (A2, r5.1), (A3, r6.1)] r6.2.1 r6.2.2 (w8.setCell ⟨w4.heap.size, 6, none⟩ (.slice A3 r6.1.length c3)) := hI.put (i := 6) rfl rfl
  clear e6 own fr hin hk hI HI
  have HI := Lib.hid hJ
  clear hJ
  go_wp2_with fail
  rw [rounds_succ]
  go_wp2_with fail
  refine (itext_in R _ gi r6.2.1 r6.2.2 HI.out.inn 48 (by omega) (by omega)).mono ?_
  rintro e w9 ⟨A4, c4, rfl, own, fr, hin, hk⟩
  have hI := HI.out.txt own fr hin hk
  have hl7 := textT_len 48 r6.2.1 r6.2.2
  generalize e7 : textT 48 r6.2.1 r6.2.2 = r7 at *
  have E7 := Lib.hid e7
  have hc : w9.cell? ⟨w4.heap.size, 7, none⟩ = some (.slice none 0 0) := by rw [hI.hat.at]; rfl
  have hf := hI.hat.blk.free 7
  have hlt := hI.hat.blk.lt
  have hJ : KInv (w.alloc (.cells ctlZ.arr 35)) (w.heap.size + 1) R gi w4.heap.size ⟨(r0.1 : Int), (r1.1 : Int), r2.1, [⟨A0, r3.1.length, c0⟩, ⟨A1, r4.1.length, c1⟩, ⟨A2, r5.1.length, c2⟩, ⟨A3, r6.1.length, c3⟩, ⟨A4, r7.1.length, c4⟩, slZ], slZ⟩ [(A0, r3.1), (A1, r4.1), (A2, r5.1), (A3, r6.1), (A4, r7.1)] r7.2.1 r7.2.2 (w9.setCell ⟨w4.heap.size, 7, none⟩ (.slice A4 r7.1.length c4)) := hI.put (i := 7) rfl rfl
  clear e7 own fr hin hk hI HI
  have HI := Lib.hid hJ
  clear hJ
  go_wp2_with fail
  rw [rounds_succ]
  go_wp2_with fail
  refine (itext_in R _ gi r7.2.1 r7.2.2 HI.out.inn 48 (by omega) (by omega)).mono ?_
  rintro e w10 ⟨A5, c5, rfl, own, fr, hin, hk⟩
  have hI := HI.out.txt own fr hin hk
  have hl8 := textT_len 48 r7.2.1 r7.2.2
  generalize e8 : textT 48 r7.2.1 r7.2.2 = r8 at *
  have E8 := Lib.hid e8
  have hc : w10.cell? ⟨w4.heap.size, 8, none⟩ = some (.slice none 0 0) := by rw [hI.hat.at]; rfl
  have hf := hI.hat.blk.free 8
  have hlt := hI.hat.blk.lt
  have hJ : KInv (w.alloc (.cells ctlZ.arr 35)) (w.heap.size + 1) R gi w4.heap.size ⟨(r0.1 : Int), (r1.1 : Int), r2.1, [⟨A0, r3.1.length, c0⟩, ⟨A1, r4.1.length, c1⟩, ⟨A2, r5.1.length, c2⟩, ⟨A3, r6.1.length, c3⟩, ⟨A4, r7.1.length, c4⟩, ⟨A5, r8.1.length, c5⟩], slZ⟩ [(A0, r3.1), (A1, r4.1), (A2, r5.1), (A3, r6.1), (A4, r7.1), (A5, r8.1)] r8.2.1 r8.2.2 (w10.setCell ⟨w4.heap.size, 8, none⟩ (.slice A5 r8.1.length c5)) := hI.put (i := 8) rfl rfl
  clear e8 own fr hin hk hI HI
  have HI := Lib.hid hJ
  clear hJ
  go_wp2_with fail
  rw [rounds_succ]
  go_wp2_with fail
  refine (itext_in R _ gi r8.2.1 r8.2.2 HI.out.inn 48 (by omega) (by omega)).mono ?_
  rintro e w11 ⟨A6, c6, rfl, own, fr, hin, hk⟩
  have hI := HI.out.txt own fr hin hk
  have hl9 := textT_len 48 r8.2.1 r8.2.2
  generalize e9 : textT 48 r8.2.1 r8.2.2 = r9 at *
  have E9 := Lib.hid e9
  have hc : w11.cell? ⟨w4.heap.size, 9, none⟩ = some (.slice none 0 0) := by rw [hI.hat.at]; rfl
  have hf := hI.hat.blk.free 9
  have hlt := hI.hat.blk.lt
  have hJ : KInv (w.alloc (.cells ctlZ.arr 35)) (w.heap.size + 1) R gi w4.heap.size ⟨(r0.1 : Int), (r1.1 : Int), r2.1, [⟨A0, r3.1.length, c0⟩, ⟨A1, r4.1.length, c1⟩, ⟨A2, r5.1.length, c2⟩, ⟨A3, r6.1.length, c3⟩, ⟨A4, r7.1.length, c4⟩, ⟨A5, r8.1.length, c5⟩], ⟨A6, r9.1.length, c6⟩⟩ [(A0, r3.1), (A1, r4.1), (A2, r5.1), (A3, r6.1), (A4, r7.1), (A5, r8.1), (A6, r9.1)] r9.2.1 r9.2.2 (w11.setCell ⟨w4.heap.size, 9, none⟩ (.slice A6 r9.1.length c6)) := hI.put (i := 9) rfl rfl
  clear e9 own fr hin hk hI HI
  have HI := Lib.hid hJ
  clear hJ
  go_wp2_with fail
  have hP : parseK b = ⟨r0.1, r1.1, r2.1, [r3.1, r4.1, r5.1, r6.1, r7.1, r8.1], r9.1, !r9.2.2 && r9.2.1.isEmpty⟩ := by
    simp only [parseK, textsTo, E0.out, E1.out, E2.out, E3.out, E4.out, E5.out, E6.out, E7.out, E8.out, E9.out, List.nil_append, List.cons_append]
  have hlt := HI.out.hat.blk.lt
  have hrds : KReads (w11.setCell ⟨w4.heap.size, 9, none⟩ (.slice A6 r9.1.length c6)) ⟨(r0.1 : Int), (r1.1 : Int), r2.1, [⟨A0, r3.1.length, c0⟩, ⟨A1, r4.1.length, c1⟩, ⟨A2, r5.1.length, c2⟩, ⟨A3, r6.1.length, c3⟩, ⟨A4, r7.1.length, c4⟩, ⟨A5, r8.1.length, c5⟩], ⟨A6, r9.1.length, c6⟩⟩ (r0.1 : Int) (r1.1 : Int) r2.1 [r3.1, r4.1, r5.1, r6.1, r7.1, r8.1] r9.1 := by
    have ht := HI.out.tx
    refine ⟨rfl, rfl, rfl, rfl, rfl, ?_, rfl, (ht (A6, r9.1) (by simp)).1⟩
    intro j h1 h2
    match j, h1, h2 with
    | 0, _, _ => exact ⟨rfl, (ht (A0, r3.1) (by simp)).1⟩
    | 1, _, _ => exact ⟨rfl, (ht (A1, r4.1) (by simp)).1⟩
    | 2, _, _ => exact ⟨rfl, (ht (A2, r5.1) (by simp)).1⟩
    | 3, _, _ => exact ⟨rfl, (ht (A3, r6.1) (by simp)).1⟩
    | 4, _, _ => exact ⟨rfl, (ht (A4, r7.1) (by simp)).1⟩
    | 5, _, _ => exact ⟨rfl, (ht (A5, r8.1) (by simp)).1⟩
    | j + 6, h1, _ => exact absurd h1 (by simp)
  have hO : okK b = ((!r9.2.2 && r9.2.1.isEmpty) && Ctl.formed ⟨(r0.1 : Int), (r1.1 : Int), r2.1, [⟨A0, r3.1.length, c0⟩, ⟨A1, r4.1.length, c1⟩, ⟨A2, r5.1.length, c2⟩, ⟨A3, r6.1.length, c3⟩, ⟨A4, r7.1.length, c4⟩, ⟨A5, r8.1.length, c5⟩], ⟨A6, r9.1.length, c6⟩⟩) := by
    unfold okK
    rw [hP, hrds.formed]
    rfl
  have hRH : ∀ (x : Bool) (e : Ending) (w' : World), okK b = x → (if x = true then ∃ c : Ctl, e = .returned (.tuple #[.agg c.arr, .int .i64 0]) ∧ KReads w' c (parseK b).op (parseK b).me (parseK b).cut (parseK b).ts (parseK b).hd else e = .returned (.tuple #[.agg ctlZ.arr, .int .i64 2])) → RetK b e w' := by
    rintro x e w' rfl h
    exact h
  have hres := (Blk.new w 35 ctlZ.arr).below HI.out.bel (Nat.lt_succ_self _)
  have HRH := Lib.hid hRH
  have HO := Lib.hid hO
  have HPP := Lib.hid hP
  have HRD := Lib.hid hrds
  clear hP hO hRH hrds E0 E1 E2 E3 E4 E5 E6 E7 E8 E9
  have hszg : (Tryd.prog.info? 35).map (·.size) = some (Ctl.arr ⟨(r0.1 : Int), (r1.1 : Int), r2.1, [⟨A0, r3.1.length, c0⟩, ⟨A1, r4.1.length, c1⟩, ⟨A2, r5.1.length, c2⟩, ⟨A3, r6.1.length, c3⟩, ⟨A4, r7.1.length, c4⟩, ⟨A5, r8.1.length, c5⟩], ⟨A6, r9.1.length, c6⟩⟩).size := by rw [Ctl.size HI.out.hat.ok]; kernel_rfl
  have hszl : (Tryd.prog.info? 35).map (·.size) = some (Ctl.cells ⟨(r0.1 : Int), (r1.1 : Int), r2.1, [⟨A0, r3.1.length, c0⟩, ⟨A1, r4.1.length, c1⟩, ⟨A2, r5.1.length, c2⟩, ⟨A3, r6.1.length, c3⟩, ⟨A4, r7.1.length, c4⟩, ⟨A5, r8.1.length, c5⟩], ⟨A6, r9.1.length, c6⟩⟩).length := by rw [Ctl.len HI.out.hat.ok]; kernel_rfl
  have hra : (w11.setCell ⟨w4.heap.size, 9, none⟩ (.slice A6 r9.1.length c6)).rangeAt w4.heap.size 0 (Ctl.cells ⟨(r0.1 : Int), (r1.1 : Int), r2.1, [⟨A0, r3.1.length, c0⟩, ⟨A1, r4.1.length, c1⟩, ⟨A2, r5.1.length, c2⟩, ⟨A3, r6.1.length, c3⟩, ⟨A4, r7.1.length, c4⟩, ⟨A5, r8.1.length, c5⟩], ⟨A6, r9.1.length, c6⟩⟩) := fun j v hv => by rw [Nat.zero_add, HI.out.hat.at, hv]
  have HRA := Lib.hid hra
  have hfo := cformed_any ⟨(r0.1 : Int), (r1.1 : Int), r2.1, [⟨A0, r3.1.length, c0⟩, ⟨A1, r4.1.length, c1⟩, ⟨A2, r5.1.length, c2⟩, ⟨A3, r6.1.length, c3⟩, ⟨A4, r7.1.length, c4⟩, ⟨A5, r8.1.length, c5⟩], ⟨A6, r9.1.length, c6⟩⟩ rfl (w11.setCell ⟨w4.heap.size, 9, none⟩ (.slice A6 r9.1.length c6))
  generalize hfb : Ctl.formed ⟨(r0.1 : Int), (r1.1 : Int), r2.1, [⟨A0, r3.1.length, c0⟩, ⟨A1, r4.1.length, c1⟩, ⟨A2, r5.1.length, c2⟩, ⟨A3, r6.1.length, c3⟩, ⟨A4, r7.1.length, c4⟩, ⟨A5, r8.1.length, c5⟩], ⟨A6, r9.1.length, c6⟩⟩ = fb at *
  have HFO := Lib.hid hfo
  clear hra hfo
  unfold Blk at hres
  cases hov : (!r9.2.2 && r9.2.1.isEmpty)
  · go_wp2_with fail
    refine (over_in R _ gi r9.2.1 r9.2.2 HI.out.inn).mono ?_
    rintro e w' ⟨rfl, rfl⟩
    rw [hov]
    go_wp2_with (refine wpList_store_row rfl 35 _ _ rfl w.heap.size ctlZ.arr rfl rfl 35 ctlZ.arr hres hszZ rfl (Ctl.one _) ?_)
    refine bodyPost_ret (results_cell_row2 Tryd.results11 _ _ w.heap.size 35 ctlZ.arr (0, 0) _ rfl (setRow_heap _ _ ctlZ.arr _ _ (0, 0) hres) Tryd.underlying35 rfl hszZ) rfl ?_
    refine ⟨HRH.out false _ _ (by rw [HO.out, hov]; rfl) rfl, ?_⟩
    exact below_setRow (((Below.refl w.heap.size w).alloc (Nat.le_refl _) _).trans (HI.out.bel.mono (Nat.le_succ _))) (Nat.le_refl _) _
  cases fb
  · go_wp2_with fail
    refine (over_in R _ gi r9.2.1 r9.2.2 HI.out.inn).mono ?_
    rintro e w' ⟨rfl, rfl⟩
    rw [hov]
    go_wp2_with (first | ((with_reducible refine wpList_load_midS w4.heap.size 0 (Ctl.cells ⟨(r0.1 : Int), (r1.1 : Int), r2.1, [⟨A0, r3.1.length, c0⟩, ⟨A1, r4.1.length, c1⟩, ⟨A2, r5.1.length, c2⟩, ⟨A3, r6.1.length, c3⟩, ⟨A4, r7.1.length, c4⟩, ⟨A5, r8.1.length, c5⟩], ⟨A6, r9.1.length, c6⟩⟩) _ HRA.out Tryd.underlying35 ?_ hszl ?_ ?_ ?_); rfl; rfl; rfl) | fail)
    refine HFO.out.mono ?_
    rintro e w19 ⟨rfl, bel19⟩
    have hres9 := Blk.next (t := 35) (cs := ctlZ.arr) hres bel19
    have hblk9 := (HI.out.hat.next bel19).blk
    have hb9 := (((Below.refl w.heap.size w).alloc (Nat.le_refl _) _).trans (HI.out.bel.mono (Nat.le_succ _))).trans (bel19.mono (by have := HI.out.hat.blk.lt; have := HI.out.bg; omega))
    unfold Blk at hblk9 hres9
    have hO2 := HO.out
    rw [hov] at hO2
    go_wp2_with (refine wpList_store_row rfl 35 _ _ rfl w.heap.size ctlZ.arr rfl rfl 35 ctlZ.arr hres9 hszZ rfl (Ctl.one _) ?_)
    refine bodyPost_ret (results_cell_row2 Tryd.results11 _ _ w.heap.size 35 ctlZ.arr (0, 0) _ rfl (setRow_heap _ _ ctlZ.arr _ _ (0, 0) hres9) Tryd.underlying35 rfl hszZ) rfl ?_
    exact ⟨HRH.out false _ _ hO2 rfl, below_setRow hb9 (Nat.le_refl _) _⟩
  · go_wp2_with fail
    refine (over_in R _ gi r9.2.1 r9.2.2 HI.out.inn).mono ?_
    rintro e w' ⟨rfl, rfl⟩
    rw [hov]
    go_wp2_with (first | ((with_reducible refine wpList_load_midS w4.heap.size 0 (Ctl.cells ⟨(r0.1 : Int), (r1.1 : Int), r2.1, [⟨A0, r3.1.length, c0⟩, ⟨A1, r4.1.length, c1⟩, ⟨A2, r5.1.length, c2⟩, ⟨A3, r6.1.length, c3⟩, ⟨A4, r7.1.length, c4⟩, ⟨A5, r8.1.length, c5⟩], ⟨A6, r9.1.length, c6⟩⟩) _ HRA.out Tryd.underlying35 ?_ hszl ?_ ?_ ?_); rfl; rfl; rfl) | fail)
    refine HFO.out.mono ?_
    rintro e w19 ⟨rfl, bel19⟩
    have hres9 := Blk.next (t := 35) (cs := ctlZ.arr) hres bel19
    have hblk9 := (HI.out.hat.next bel19).blk
    have hb9 := (((Below.refl w.heap.size w).alloc (Nat.le_refl _) _).trans (HI.out.bel.mono (Nat.le_succ _))).trans (bel19.mono (by have := HI.out.hat.blk.lt; have := HI.out.bg; omega))
    unfold Blk at hblk9 hres9
    have hO2 := HO.out
    rw [hov] at hO2
    have hrd9 := HRD.out.below bel19
    have HRD9 := Lib.hid hrd9
    have htx9 := HI.out.tx
    have HTX := Lib.hid htx9
    clear hrd9 htx9
    go_wp2_with (first | (refine wpList_load_row rfl 35 _ rfl w4.heap.size rfl 35 _ (0, 0) _ hblk9 Tryd.underlying35 rfl hszg ?_) | (refine wpList_store_row rfl 35 _ _ rfl w.heap.size (Ctl.arr ⟨(r0.1 : Int), (r1.1 : Int), r2.1, [⟨A0, r3.1.length, c0⟩, ⟨A1, r4.1.length, c1⟩, ⟨A2, r5.1.length, c2⟩, ⟨A3, r6.1.length, c3⟩, ⟨A4, r7.1.length, c4⟩, ⟨A5, r8.1.length, c5⟩], ⟨A6, r9.1.length, c6⟩⟩) rfl rfl 35 ctlZ.arr hres9 hszg rfl (Ctl.one _) ?_))
    refine bodyPost_ret (results_cell_row2 Tryd.results11 _ _ w.heap.size 35 (Ctl.arr ⟨(r0.1 : Int), (r1.1 : Int), r2.1, [⟨A0, r3.1.length, c0⟩, ⟨A1, r4.1.length, c1⟩, ⟨A2, r5.1.length, c2⟩, ⟨A3, r6.1.length, c3⟩, ⟨A4, r7.1.length, c4⟩, ⟨A5, r8.1.length, c5⟩], ⟨A6, r9.1.length, c6⟩⟩) (0, 0) _ rfl (setRow_heap _ _ ctlZ.arr _ _ (0, 0) hres9) Tryd.underlying35 rfl hszg) rfl ?_
    refine ⟨HRH.out true _ _ hO2 ?_, below_setRow hb9 (Nat.le_refl _) _⟩
    rw [if_pos rfl, HPP.out]
    refine ⟨⟨(r0.1 : Int), (r1.1 : Int), r2.1, [⟨A0, r3.1.length, c0⟩, ⟨A1, r4.1.length, c1⟩, ⟨A2, r5.1.length, c2⟩, ⟨A3, r6.1.length, c3⟩, ⟨A4, r7.1.length, c4⟩, ⟨A5, r8.1.length, c5⟩], ⟨A6, r9.1.length, c6⟩⟩, rfl, ?_⟩
    have key : ∀ p ∈ [(A0, r3.1), (A1, r4.1), (A2, r5.1), (A3, r6.1), (A4, r7.1), (A5, r8.1), (A6, r9.1)], RB (w19.setRow w.heap.size (Ctl.arr ⟨(r0.1 : Int), (r1.1 : Int), r2.1, [⟨A0, r3.1.length, c0⟩, ⟨A1, r4.1.length, c1⟩, ⟨A2, r5.1.length, c2⟩, ⟨A3, r6.1.length, c3⟩, ⟨A4, r7.1.length, c4⟩, ⟨A5, r8.1.length, c5⟩], ⟨A6, r9.1.length, c6⟩⟩)) p.1 p.2 := by
      intro p hp
      obtain ⟨q1, q2⟩ := HTX.out p hp
      have q3 := q1.below bel19
      intro j hj
      obtain ⟨bb, oo, e1, e2⟩ := q3 j hj
      refine ⟨bb, oo, e1, ?_⟩
      rw [← e2]
      exact cell_setRow_other _ _ _ _ (by have := (q2 bb (by rw [e1]; rfl)).2.2; show bb ≠ w.heap.size; omega)
    refine ⟨rfl, rfl, rfl, rfl, rfl, ?_, rfl, key (A6, r9.1) (by simp)⟩
    intro j h1 h2
    match j, h1, h2 with
    | 0, _, _ => exact ⟨rfl, key (A0, r3.1) (by simp)⟩
    | 1, _, _ => exact ⟨rfl, key (A1, r4.1) (by simp)⟩
    | 2, _, _ => exact ⟨rfl, key (A2, r5.1) (by simp)⟩
    | 3, _, _ => exact ⟨rfl, key (A3, r6.1) (by simp)⟩
    | 4, _, _ => exact ⟨rfl, key (A4, r7.1) (by simp)⟩
    | 5, _, _ => exact ⟨rfl, key (A5, r8.1) (by simp)⟩
    | j + 6, h1, _ => exact absurd h1 (by simp)

end Go.Proofs.YtdkadlifjmmcbaaDoor
