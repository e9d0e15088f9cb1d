/- The walk of the reference's Mac. -/
import Derived.Test.YtdkadlifjmmcbaaDoorRj
import Derived.Test.YtdkadlifjmmcbaaDoorSr
namespace Go.Proofs.YtdkadlifjmmcbaaDoor
open Go.RowKit
set_option linter.unusedSimpArgs false
set_option linter.unusedVariables false

theorem z32_zero (W : World) : (zeroValue 22).run Tryd.prog W = .ok (.agg (bytesL (zeros 32)).toArray) W := by
  rw [zeros32]
  exact run_zero_at (by kernel_rfl) W
theorem b32_size {k : List UInt8} (hk : k.length = 32) : (Tryd.prog.info? 22).map (·.size) = some (bytesL k).toArray.size := by
  rw [List.size_toArray, bytesL_len, hk]; kernel_rfl

set_option maxRecDepth 100000 in
set_option maxHeartbeats 2000000 in
theorem rmac_any (Kp : Option Addr) (ck : Nat) (k : List UInt8) (At : Option Addr) (nt ct : Nat) (t : List UInt8) (w : World) (hk : k.length = 32) (hr : RB w Kp k) (hl : t.length = nt) (ht : RB w At t) (hnt : nt ≤ 100000) (hT : RTabOK w) :
    Calls Tryd.prog 75 #[.slice Kp 32 ck, .slice At nt ct] w fun e w' => e = .returned (.agg (bytesL (macB k t)).toArray) ∧ Below w.heap.size w w' := by
  have hzv := z32_zero
  have HK := Lib.hid hk
  have HR := Lib.hid hr
  have HL := Lib.hid hl
  have HTX := Lib.hid ht
  have HT := Lib.hid hT
  have R0 := Lib.hid (Blk.new w 22 (bytesL (zeros 32)).toArray)
  have C0 := Lib.hid (show O2 (w.heap.size + 1) (w.alloc (.cells (bytesL (zeros 32)).toArray 22)) none none 0 0 0 0 [] [] (w.alloc (.cells (bytesL (zeros 32)).toArray 22)) from ⟨⟨OwnB.nil _, Fresh.none _, Below.refl _ _, by simp⟩, ⟨OwnB.nil _, Fresh.none _, Below.refl _ _, by simp⟩, fun r h => by cases h⟩)
  have BA := Lib.hid ((Below.refl _ w).alloc (Nat.le_refl _) (.cells (bytesL (zeros 32)).toArray 22))
  clear hk hr hl ht hT
  go_enter Tryd.func75, Tryd.ntmps75
  go_wp2_with fail
  go_loopw [7, 8, 9] (fun v1 v2 i wr => ∃ (j : Nat) (A1 A2 : Option Addr) (c1 c2 : Nat), j ≤ 64 ∧ i = .int .i64 (j : Int) ∧ v1 = .slice A1 j c1 ∧ v2 = .slice A2 j c2 ∧ O2 (w.heap.size + 1) (w.alloc (.cells (bytesL (zeros 32)).toArray 22)) A1 A2 j c1 j c2 ((padK k 54).take j) ((padK k 92).take j) wr) (fun _ _ i _ => 64 - (intOf i).toNat)
  case atStart => exact ⟨0, none, none, 0, 0, by omega, rfl, rfl, rfl, by simpa using C0.out⟩
  case round =>
    obtain ⟨j, A1, A2, c1, c2, hj, rfl, rfl, rfl, hC⟩ := hrel
    by_cases hlt : j < 64
    · have p54 := padK_take k 54 j hlt
      have p92 := padK_take k 92 j hlt
      have HC := Lib.hid hC
      by_cases hlt2 : j < 32
      · have hjk : j < k.length := by rw [HK.out]; exact hlt2
        have hbel : Below w.heap.size w wr := BA.out.trans (hC.o1.bel.mono (by omega))
        obtain ⟨b, o, hKp, hcx⟩ := HR.out.below hbel j hjk
        have hg : k[j] = k.getD j 0 := by simp [hjk]
        rw [hg] at hcx
        subst hKp
        have x54 : bits .xor .u8 ((k.getD j 0).toNat : Int) 54 = ((k.getD j 0 ^^^ 54).toNat : Int) := xor_u8 (k.getD j 0) 54 54 rfl
        have x92 : bits .xor .u8 ((k.getD j 0).toNat : Int) 92 = ((k.getD j 0 ^^^ 92).toNat : Int) := xor_u8 (k.getD j 0) 92 92 rfl
        have u := UInt8.toNat_lt (k.getD j 0)
        obtain ⟨y54, hy54⟩ : ∃ y, y = k.getD j 0 ^^^ 54 := ⟨_, rfl⟩
        obtain ⟨y92, hy92⟩ : ∃ y, y = k.getD j 0 ^^^ 92 := ⟨_, rfl⟩
        rw [← hy54] at x54 p54
        rw [← hy92] at x92 p92
        have P54 := Lib.hid p54
        have P92 := Lib.hid p92
        generalize (k.getD j 0).toNat = q at *
        clear hy54 hy92 p54 p92 hC hbel hg
        go_wp2_with (first | (at_builtin; refine wpList_app rfl (.tmp 31) (.tmp 34) rfl _ A1 _ c1 _ rfl (HC.out.alloc _).o1.own (some ⟨wr.heap.size, 0, none⟩) 1 1 [y54] rfl rfl (rb_byte wr y54 _ rfl) (by omega) ?_; intro B1 d1 w1 ho hg hb; have D1 := Lib.hid ((HC.out.alloc _).app ho hg hb); clear ho hg hb) | (at_builtin; refine wpList_app rfl (.tmp 36) (.tmp 39) rfl _ A2 _ c2 _ rfl (D1.out.alloc _).o2.own (some ⟨w1.heap.size, 0, none⟩) 1 1 [y92] rfl rfl (rb_byte w1 y92 _ rfl) (by omega) ?_; intro B2 d2 w2 ho hg hb; have D2 := Lib.hid ((D1.out.alloc _).symm.app ho hg hb); clear ho hg hb) | fail)
        refine ⟨⟨j + 1, B1, B2, d1, d2, by omega, by go_num, rfl, rfl, ?_⟩, by simp [intOf]; omega⟩
        rw [P54.out, P92.out]
        exact D2.out.symm
      · have hg : k.getD j 0 = 0 := by rw [List.getD_eq_getElem?_getD, List.getElem?_eq_none (by rw [HK.out]; omega)]; rfl
        rw [hg] at p54 p92
        have e54 : (0 : UInt8) ^^^ 54 = 54 := by decide
        have e92 : (0 : UInt8) ^^^ 92 = 92 := by decide
        rw [e54] at p54
        rw [e92] at p92
        have x54 : bits .xor .u8 0 54 = 54 := by decide
        have x92 : bits .xor .u8 0 92 = 92 := by decide
        have P54 := Lib.hid p54
        have P92 := Lib.hid p92
        have hf : decide ((j : Int) < 32) = false := by simp; omega
        clear e54 e92 p54 p92 hC hg
        go_wp2_with (first | (at_builtin; refine wpList_app rfl (.tmp 31) (.tmp 34) rfl _ A1 _ c1 _ rfl (HC.out.alloc _).o1.own (some ⟨wr.heap.size, 0, none⟩) 1 1 [54] rfl rfl (rb_byte wr 54 _ rfl) (by omega) ?_; intro B1 d1 w1 ho hg hb; have D1 := Lib.hid ((HC.out.alloc _).app ho hg hb); clear ho hg hb) | (at_builtin; refine wpList_app rfl (.tmp 36) (.tmp 39) rfl _ A2 _ c2 _ rfl (D1.out.alloc _).o2.own (some ⟨w1.heap.size, 0, none⟩) 1 1 [92] rfl rfl (rb_byte w1 92 _ rfl) (by omega) ?_; intro B2 d2 w2 ho hg hb; have D2 := Lib.hid ((D1.out.alloc _).symm.app ho hg hb); clear ho hg hb) | fail)
        refine ⟨⟨j + 1, B1, B2, d1, d2, by omega, by go_num, rfl, rfl, ?_⟩, by simp [intOf]; omega⟩
        rw [P54.out, P92.out]
        exact D2.out.symm
    · have h64 : j = 64 := by omega
      have e1 : (padK k 54).take j = padK k 54 := by rw [h64, List.take_of_length_le (by rw [padK_len]; omega)]
      have e2 : (padK k 92).take j = padK k 92 := by rw [h64, List.take_of_length_le (by rw [padK_len]; omega)]
      rw [e1, e2] at hC
      have hf : decide ((j : Int) < 64) = false := by simp; omega
      have HJ := Lib.hid h64
      have HC := Lib.hid hC
      have hbel := Lib.hid (BA.out.trans (hC.o1.bel.mono (by omega)))
      have M0 := Lib.hid (R0.out.below hC.o1.bel (by omega))
      clear e1 e2 h64 hC hlt hj C0 R0
      as_aux_lemma =>
        have hb1 := hbel.out.alloc hbel.out.size (.cells #[.slice A1 j c1, .slice At nt ct] 31)
        have hs1 : SlicesAt (wr.alloc (.cells #[.slice A1 j c1, .slice At nt ct] 31)) wr.heap.size 0 [padK k 54, t] := by
          have hn := Blk.new wr 31 #[.slice A1 j c1, .slice At nt ct]
          intro i hi
          rw [Nat.zero_add]
          rcases i with _ | _ | i
          · exact ⟨A1, c1, by rw [hn.cell, HJ.out]; simp [padK_len], (HC.out.alloc _).o1.own.rb⟩
          · exact ⟨At, ct, by rw [hn.cell, ← HL.out]; rfl, HTX.out.below hb1⟩
          · simp at hi; omega
        have hfl : [padK k 54, t].flatten = padK k 54 ++ t := by simp
        have hll : (padK k 54 ++ t).length = 64 + nt := by rw [List.length_append, padK_len, HL.out]
        have hj1 := joined_any wr.heap.size 0 2 2 [padK k 54, t] _ rfl hs1 (by omega) (by omega) (by rw [hfl, hll]; omega)
        rw [hfl, hll] at hj1
        have hfin : ∀ x, x = shaB (padK k 54 ++ t) → macB k t = shaB (padK k 92 ++ x) := by rintro x rfl; rfl
        have hIl := shaB_len (padK k 54 ++ t)
        have hfin2 := hfin _ rfl
        have hsum := fun A c W (hr : RB W A (padK k 54 ++ t)) (hT : RTabOK W) => rsum_any A (64 + nt) c (padK k 54 ++ t) W hll hr (by omega) hT
        obtain ⟨I, hI⟩ : ∃ x, x = shaB (padK k 54 ++ t) := ⟨_, rfl⟩
        obtain ⟨mk, hmk⟩ : ∃ x, x = macB k t := ⟨_, rfl⟩
        rw [← hI] at hIl hfin2
        simp only [← hI] at hsum
        rw [← hmk] at hfin2
        have hml : mk.length = 32 := by rw [hmk]; exact macB_len k t
        have HMK := Lib.hid hmk
        have HJ1 := Lib.hid hj1
        have HS := Lib.hid hsum
        have HI := Lib.hid hIl
        have HF := Lib.hid hfin2
        have HML := Lib.hid hml
        have HB1 := Lib.hid hb1
        have N0 := Lib.hid (M0.out.alloc (.cells #[.slice A1 j c1, .slice At nt ct] 31))
        have NC := Lib.hid (HC.out.alloc (.cells #[.slice A1 j c1, .slice At nt ct] 31))
        clear hb1 hs1 hfl hll hj1 hfin hIl hfin2 hsum hI hmk hml
        go_wp2_with fail
        refine HJ1.out.mono ?_
        rintro e w1 ⟨A3, c3, rfl, hr3, bel1⟩
        have HB2 := Lib.hid (HB1.out.trans (bel1.mono HB1.out.size))
        have P0 := Lib.hid (N0.out.next bel1)
        have PC := Lib.hid (NC.out.o2.own.keep fun r hr => bel1.block r (NC.out.o2.own.lt hr))
        have hs2 := HS.out A3 c3 w1 hr3 (HT.out.below HB2.out)
        have HS2 := Lib.hid hs2
        clear hr3 bel1 hs2
        go_wp2_with fail
        refine HS2.out.mono ?_
        rintro e w2 ⟨rfl, bel2⟩
        have hb3 := HB2.out.trans (bel2.mono HB2.out.size)
        have Q0 := Lib.hid ((P0.out.next bel2).alloc (.cells (bytesL I).toArray 22))
        have QC := Lib.hid ((PC.out.keep fun r hr => bel2.block r (PC.out.lt hr)).alloc (.cells (bytesL I).toArray 22))
        have QI := Lib.hid (Blk.new w2 22 (bytesL I).toArray)
        have HB3 := Lib.hid (hb3.alloc hb3.size (.cells (bytesL I).toArray 22))
        have HNW := Lib.hid (heap_alloc_new w2 (.cells (bytesL (zeros 32)).toArray 22))
        have HWR := Lib.hid (World.setRow_alloc_new w2 (bytesL (zeros 32)).toArray (bytesL I).toArray 22)
        have HSH := Lib.hid (b32_size HI.out)
        have HSZ := Lib.hid (show (bytesL (zeros 32)).toArray.size = (bytesL I).toArray.size by rw [List.size_toArray, List.size_toArray, bytesL_len, bytesL_len, HI.out, zeros_len])
        clear bel2 hb3
        go_wp2_with (first | (refine wpList_store_row rfl 22 _ _ rfl w2.heap.size (bytesL I).toArray rfl rfl 22 _ HNW.out HSH.out HSZ.out (bytesL_one I) ?_; rw [HWR.out]) | fail)
        have hb4 := HB3.out.alloc HB3.out.size (.cells #[.slice A2 j c2, .slice (some ⟨w2.heap.size, 0, none⟩) 32 32] 31)
        have hs4 : SlicesAt ((w2.alloc (.cells (bytesL I).toArray 22)).alloc (.cells #[.slice A2 j c2, .slice (some ⟨w2.heap.size, 0, none⟩) 32 32] 31)) (w2.heap.size + 1) 0 [padK k 92, I] := by
          have hn := Blk.new (w2.alloc (.cells (bytesL I).toArray 22)) 31 #[.slice A2 j c2, .slice (some ⟨w2.heap.size, 0, none⟩) 32 32]
          rw [World.size_alloc] at hn
          intro i hi
          rw [Nat.zero_add]
          rcases i with _ | _ | i
          · exact ⟨A2, c2, by rw [hn.cell, HJ.out]; simp [padK_len], (QC.out.alloc _).rb⟩
          · exact ⟨some ⟨w2.heap.size, 0, none⟩, 32, by rw [hn.cell]; simp [HI.out], rb_blk (QI.out.alloc _)⟩
          · simp at hi; omega
        have hfl : [padK k 92, I].flatten = padK k 92 ++ I := by simp
        have hll : (padK k 92 ++ I).length = 96 := by rw [List.length_append, padK_len, HI.out]
        have hj4 := joined_any (w2.heap.size + 1) 0 2 2 [padK k 92, I] _ rfl hs4 (by omega) (by omega) (by rw [hfl, hll]; omega)
        rw [hfl, hll] at hj4
        have hsum := fun A c W (hr : RB W A (padK k 92 ++ I)) (hT : RTabOK W) => rsum_any A 96 c (padK k 92 ++ I) W hll hr (by omega) hT
        rw [← HF.out] at hsum
        have HJ4 := Lib.hid hj4
        have HS4 := Lib.hid hsum
        have HB4 := Lib.hid hb4
        have T0 := Lib.hid (Q0.out.alloc (.cells #[.slice A2 j c2, .slice (some ⟨w2.heap.size, 0, none⟩) 32 32] 31))
        clear hb4 hs4 hfl hll hj4 hsum
        refine HJ4.out.mono ?_
        rintro e w5 ⟨A5, c5, rfl, hr5, bel5⟩
        have HB5 := Lib.hid (HB4.out.trans (bel5.mono HB4.out.size))
        have U0 := Lib.hid (T0.out.next bel5)
        have HS5 := Lib.hid (HS4.out A5 c5 w5 hr5 (HT.out.below HB5.out))
        clear hr5 bel5
        go_wp2_with fail
        refine HS5.out.mono ?_
        rintro e w6 ⟨rfl, bel6⟩
        have HB6 := Lib.hid (HB5.out.trans (bel6.mono HB5.out.size))
        have V0 := U0.out.next bel6
        unfold Blk at V0
        have HV := Lib.hid V0
        have HSM := Lib.hid (b32_size HML.out)
        have HSY := Lib.hid (show (bytesL (zeros 32)).toArray.size = (bytesL mk).toArray.size by rw [List.size_toArray, List.size_toArray, bytesL_len, bytesL_len, HML.out, zeros_len])
        clear bel6 V0
        go_wp2_with (first | (refine wpList_store_row rfl 22 _ _ rfl w.heap.size (bytesL mk).toArray rfl rfl 22 (bytesL (zeros 32)).toArray HV.out HSM.out HSY.out (bytesL_one mk) ?_) | fail)
        refine bodyPost_ret (results_cell_row Tryd.results75 _ _ w.heap.size 22 (bytesL mk).toArray (0, 0) _ rfl (setRow_heap _ _ (bytesL (zeros 32)).toArray _ _ (0, 0) HV.out) Tryd.underlying22 rfl HSM.out) rfl ?_
        exact ⟨by rw [HMK.out], below_setRow HB6.out (Nat.le_refl _) _⟩
end Go.Proofs.YtdkadlifjmmcbaaDoor
