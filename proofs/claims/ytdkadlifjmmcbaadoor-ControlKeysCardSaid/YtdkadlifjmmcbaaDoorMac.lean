/- The walk of hash.Mac. -/
import Derived.Test.YtdkadlifjmmcbaaDoorMa0
namespace Go.Proofs.YtdkadlifjmmcbaaDoor
open Go.RowKit
set_option linter.unusedSimpArgs false
set_option linter.unusedVariables false

set_option maxRecDepth 100000 in
set_option maxHeartbeats 2000000 in
theorem mac_any (Kp : Option Addr) (ck : Nat) (k : List UInt8) (b o n c : Nat) (vs : List Value) (ls : List (List UInt8)) (w : World) (hk : k.length = 32) (hr : RB w Kp k) (hn : ls.length = n) (h1 : 1 ≤ n) (h100 : n ≤ 100) (hP : Lib.PartsAt w ⟨b, o, none⟩ vs ls) (hcap : n ≤ c) (hlen : ls.flatten.length ≤ 1000000) (hT : TabOK w) :
    Calls Tryd.prog 74 #[.slice Kp 32 ck, .slice (some ⟨b, o, none⟩) n c] w fun e w' => e = .returned (.agg (bytesL (macB k ls.flatten)).toArray) ∧ Below w.heap.size w w' := by
  have hz64 : ∀ W, (zeroValue 122).run Tryd.prog W = .ok (.agg (bytesL (zeros 64)).toArray) W := fun W => run_zero_at (by kernel_rfl) W
  have hzH := hash_zero
  have g0 := ((Blk.new w 23 (bytesL (zeros 32)).toArray).alloc (.cells (bytesL (zeros 64)).toArray 122)).alloc (.cells (bytesL (zeros 64)).toArray 122)
  have g1 := (Blk.new (w.alloc (.cells (bytesL (zeros 32)).toArray 23)) 122 (bytesL (zeros 64)).toArray).alloc (.cells (bytesL (zeros 64)).toArray 122)
  have g2 := Blk.new ((w.alloc (.cells (bytesL (zeros 32)).toArray 23)).alloc (.cells (bytesL (zeros 64)).toArray 122)) 122 (bytesL (zeros 64)).toArray
  have hb0 := (((Below.refl _ w).alloc (Nat.le_refl _) (.cells (bytesL (zeros 32)).toArray 23)).alloc (by simp) (.cells (bytesL (zeros 64)).toArray 122)).alloc (by simp; omega) (.cells (bytesL (zeros 64)).toArray 122)
  simp only [World.size_alloc] at g1 g2
  have G0 := Lib.hid g0
  have G1 := Lib.hid g1
  have G2 := Lib.hid g2
  have HB0 := Lib.hid hb0
  have HR := Lib.hid hr
  have HP := Lib.hid hP
  have HT := Lib.hid hT
  have HK := Lib.hid hk
  have HN := Lib.hid hn
  clear g0 g1 g2 hb0 hr hP hT hk hn
  go_enter Tryd.func74, Tryd.ntmps74
  have hgg : w.heap.size + 1 + 1 ≠ w.heap.size + 1 := by omega
  have HGG := Lib.hid hgg
  clear hgg
  go_wp2_with (first | (refine wpList_copy_key rfl (.tmp 17) (.tmp 18) rfl (w.heap.size + 1) Kp ck k rfl rfl 122 G1.out (HR.out.below HB0.out) HK.out ?_; intro w1 hx1 hkp1; have X1 := Lib.hid hx1; have KP1 := Lib.hid hkp1; clear hx1 hkp1; have XB1 := Lib.hid (HB0.out.trans (KP1.out.below (B := w.heap.size) (fun i hi => by show i ≠ w.heap.size + 1; omega) (by simp; omega))); have X2 := Lib.hid (KP1.out.blk G2.out HGG.out)) | (refine wpList_copy_key rfl (.tmp 20) (.tmp 21) rfl (w.heap.size + 1 + 1) Kp ck k rfl rfl 122 X2.out (HR.out.below XB1.out) HK.out ?_; intro w2 hx2 hkp2; have Y2 := Lib.hid hx2; have KP2 := Lib.hid hkp2; clear hx2 hkp2) | fail)
  have hp54 : (bytesL (k ++ zeros 32)).toArray = (bytesL (padJ k 54 0)).toArray := by rw [padJ_0 k 54 HK.out]
  have hp92 : (bytesL (k ++ zeros 32)).toArray = (bytesL (padJ k 92 0)).toArray := by rw [padJ_0 k 92 HK.out]
  have Z1 := Lib.hid (hp54 ▸ KP2.out.blk X1.out (show w.heap.size + 1 ≠ w.heap.size + 1 + 1 by omega))
  have Z2 := Lib.hid (hp92 ▸ Y2.out)
  have Z0 := Lib.hid (KP2.out.blk (KP1.out.blk G0.out (show w.heap.size ≠ w.heap.size + 1 by omega)) (show w.heap.size ≠ w.heap.size + 1 + 1 by omega))
  have ZB := Lib.hid (XB1.out.trans (KP2.out.below (B := w.heap.size) (fun i hi => by show i ≠ w.heap.size + 1 + 1; omega) XB1.out.size))
  have hgi : w.heap.size < w.heap.size + 1 := by omega
  have hgo : w.heap.size + 1 < w.heap.size + 1 + 1 := by omega
  clear hp54 hp92 KP1 KP2 X1 X2 XB1 Y2 G0 G1 G2 HB0 HGG
  generalize w.heap.size + 1 + 1 = gb at *
  generalize w.heap.size + 1 = ga at *
  have hne1 : (ga = gb) = False := by simp; omega
  have hne2 : (gb = ga) = False := by simp; omega
  go_loopw [23] (fun i wr => ∃ j : Nat, j ≤ 64 ∧ i = .int .i64 (j : Int) ∧ Blk wr ga 122 (bytesL (padJ k 54 j)).toArray ∧ Blk wr gb 122 (bytesL (padJ k 92 j)).toArray ∧ Blk wr w.heap.size 23 (bytesL (zeros 32)).toArray ∧ Below w.heap.size w wr) (fun i _ => 64 - (intOf i).toNat)
  case atStart => exact ⟨0, by omega, rfl, Z1.out, Z2.out, Z0.out, ZB.out⟩
  case round =>
    obtain ⟨j, hj, rfl, m1, m2, m0, mb⟩ := hrel
    by_cases hlt : j < 64
    · have ca := m1.cell j
      rw [padJ_get k 54 j hlt] at ca
      have cb := m2.cell j
      rw [padJ_get k 92 j hlt] at cb
      have fa := m1.free j
      have fb := m2.free j
      have sa := padJ_set k 54 j hlt
      have sb := padJ_set k 92 j hlt
      have x54 : bits .xor .u8 ((k.getD j 0).toNat : Int) 54 = ((k.getD j 0 ^^^ 54).toNat : Int) := xor_u8 (k.getD j 0) 54 54 rfl
      have x92 : bits .xor .u8 ((k.getD j 0).toNat : Int) 92 = ((k.getD j 0 ^^^ 92).toNat : Int) := xor_u8 (k.getD j 0) 92 92 rfl
      have u := UInt8.toNat_lt (k.getD j 0)
      have u54 := UInt8.toNat_lt (k.getD j 0 ^^^ 54)
      have u92 := UInt8.toNat_lt (k.getD j 0 ^^^ 92)
      generalize (k.getD j 0 ^^^ 54).toNat = q54 at *
      generalize (k.getD j 0 ^^^ 92).toNat = q92 at *
      generalize (k.getD j 0).toNat = q at *
      have SA := Lib.hid sa
      have SB := Lib.hid sb
      have M1 := Lib.hid m1
      have M2 := Lib.hid m2
      have M0 := Lib.hid m0
      have MB := Lib.hid mb
      clear sa sb m1 m2 m0 mb
      go_wp2_with fail
      refine ⟨⟨j + 1, by omega, by go_num, ?_, ?_, ?_, ?_⟩, by simp [intOf]; omega⟩
      · rw [← SA.out]
        exact ((M1.out.set j _).far (p := ⟨gb, j, none⟩) (Nat.ne_of_lt hgo) _)
      · rw [← SB.out]
        exact (M2.out.far (p := ⟨ga, j, none⟩) (Nat.ne_of_gt hgo) _).set j _
      · exact (M0.out.far (p := ⟨ga, j, none⟩) (Nat.ne_of_lt hgi) _).far (p := ⟨gb, j, none⟩) (Nat.ne_of_lt (Nat.lt_trans hgi hgo)) _
      · exact (MB.out.setCell (p := ⟨ga, j, none⟩) (Nat.le_of_lt hgi) _).setCell (p := ⟨gb, j, none⟩) (Nat.le_of_lt (Nat.lt_trans hgi hgo)) _
    · have h64 : j = 64 := by omega
      have e1 : padJ k 54 j = padK k 54 := by rw [h64, padJ_64]
      have e2 : padJ k 92 j = padK k 92 := by rw [h64, padJ_64]
      rw [e1] at m1
      rw [e2] at m2
      have hf : decide ((j : Int) < 64) = false := by simp; omega
      clear e1 e2 h64 hlt hj
      have M1 := Lib.hid m1
      have M2 := Lib.hid m2
      have M0 := Lib.hid m0
      have MB := Lib.hid mb
      clear m1 m2 m0 mb
      have hc0 := (Blk.new wr 31 #[.slice (some ⟨ga, 0, none⟩) 64 64]).cell 0
      have hb1 := MB.out.alloc MB.out.size (.cells #[.slice (some ⟨ga, 0, none⟩) 64 64] 31)
      have hp1 := parts_below HP.out hb1
      have hvl : vs.length = n := by rw [HP.out.1]; exact HN.out
      have hvo : ∀ u ∈ vs, u.oneCell' = true := fun u hu => by
        obtain ⟨i, hi, rfl⟩ := List.getElem_of_mem hu
        exact holds_one (HP.out.2.2 i _ (ls[i]'(by rw [← HP.out.1]; exact hi)) (List.getElem?_eq_getElem hi) (List.getElem?_eq_getElem _))
      have HC0 := Lib.hid hc0
      have HB1 := Lib.hid hb1
      have HP1 := Lib.hid hp1
      have HVL := Lib.hid hvl
      have HVO := Lib.hid hvo
      have N1 := Lib.hid (M1.out.alloc (.cells #[.slice (some ⟨ga, 0, none⟩) 64 64] 31))
      have N2 := Lib.hid (M2.out.alloc (.cells #[.slice (some ⟨ga, 0, none⟩) 64 64] 31))
      have N0 := Lib.hid (M0.out.alloc (.cells #[.slice (some ⟨ga, 0, none⟩) 64 64] 31))
      clear hc0 hb1 hp1 hvl hvo
      go_wp2_with (first | (refine wpList_append_parts rfl (.tmp 38) (.tmp 39) rfl wr.heap.size (.slice (some ⟨ga, 0, none⟩) 64 64) rfl HC0.out b o n c vs rfl HVL.out HP1.out.2.1 HVO.out h1 (by omega) ?_; intro gq cap w2 hcap hgq hcell hgr; have GQ := Lib.hid hcell; have GR := Lib.hid hgr; clear hcell hgr) | fail)
      have hb2 := grown_below GR.out
      have q1 := N1.out.next hb2
      have q2 := N2.out.next hb2
      have q0 := N0.out.next hb2
      have hB2 := HB1.out.trans (hb2.mono HB1.out.size)
      have hpa := parts_cons (ls := ls) (l0 := padK k 54) GQ.out (holds_blk q1 (padK_len k 54) 64) (HVL.out.trans HN.out.symm) (fun i v l hv hl => holds_below (HP1.out.2.2 i v l hv hl) hb2)
      have hfl : (padK k 54 :: ls).flatten = padK k 54 ++ ls.flatten := rfl
      have hs := sum_any gq 0 (1 + n) cap (.slice (some ⟨ga, 0, none⟩) 64 64 :: vs) (padK k 54 :: ls) w2 (by rw [List.length_cons, HN.out]; omega) (by omega) (fun W hW => parts_below hpa hW) hcap (by omega) (by rw [hfl, List.length_append, padK_len]; omega) (HT.out.below hB2)
      rw [hfl] at hs
      have hfin : ∀ x, x = shaB (padK k 54 ++ ls.flatten) → macB k ls.flatten = shaB (padK k 92 ++ x) := by rintro x rfl; rfl
      have hIl := shaB_len (padK k 54 ++ ls.flatten)
      generalize hI : shaB (padK k 54 ++ ls.flatten) = I at *
      have hfin2 := hfin I rfl
      have hml := macB_len k ls.flatten
      obtain ⟨mk, hmk⟩ : ∃ x, x = macB k ls.flatten := ⟨_, rfl⟩
      rw [← hmk] at hml hfin2
      have HMK := Lib.hid hmk
      clear hmk
      have HML := Lib.hid hml
      clear hml
      have HS := Lib.hid hs
      have HI := Lib.hid hIl
      have HF := Lib.hid hfin2
      have HB2 := Lib.hid hB2
      have Q2 := Lib.hid q2
      have Q0 := Lib.hid q0
      clear hb2 q1 q2 q0 hB2 hpa hfl hs hI hfin hIl hfin2 GR GQ N0 N1 N2 HB1 HP1
      go_wp2_with fail
      refine HS.out.mono ?_
      rintro e w3 ⟨rfl, bel3⟩
      have hB3 := HB2.out.trans (bel3.mono HB2.out.size)
      have u2 := Q2.out.next bel3
      have u0 := Q0.out.next bel3
      have hnew := heap_alloc_new w3 (.cells (bytesL (zeros 32)).toArray 23)
      have hwr := World.setRow_alloc_new w3 (bytesL (zeros 32)).toArray (bytesL I).toArray 23
      have hszH := hash_size HI.out
      have hszZ : (bytesL (zeros 32)).toArray.size = (bytesL I).toArray.size := by rw [List.size_toArray, List.size_toArray, bytesL_len, bytesL_len, HI.out, zeros_len]
      have v2 := u2.alloc (.cells (bytesL I).toArray 23)
      have v0 := u0.alloc (.cells (bytesL I).toArray 23)
      have vI := Blk.new w3 23 (bytesL I).toArray
      have hB4 := hB3.alloc hB3.size (.cells (bytesL I).toArray 23)
      have V2 := Lib.hid v2
      have V0 := Lib.hid v0
      have VI := Lib.hid vI
      have HB4 := Lib.hid hB4
      have HNEW := Lib.hid hnew
      have HWR := Lib.hid hwr
      have HSH := Lib.hid hszH
      have HSZ := Lib.hid hszZ
      clear bel3 hB3 u2 u0 v2 v0 vI hB4 hnew hwr hszH hszZ
      go_wp2_with (first | (refine wpList_store_row rfl 23 _ _ rfl w3.heap.size (bytesL I).toArray rfl rfl 23 _ HNEW.out HSH.out HSZ.out (bytesL_one I) ?_; rw [HWR.out]) | fail)
      generalize hW4 : w3.alloc (.cells (bytesL I).toArray 23) = w4 at *
      go_still_tail 2, (by kernel_rfl)
      change wpList _ _ _ _ _ w4.drew
      have hb5 : Below w.heap.size w (w4.drew.alloc (.cells #[.slice (some ⟨gb, 0, none⟩) 64 64, .slice (some ⟨w3.heap.size, 0, none⟩) 32 32] 31)) := (bel_drewN HB4.out 1).alloc HB4.out.size _
      have r2 := Blk.alloc (w := w4.drew) V2.out (.cells #[.slice (some ⟨gb, 0, none⟩) 64 64, .slice (some ⟨w3.heap.size, 0, none⟩) 32 32] 31)
      have rI := Blk.alloc (w := w4.drew) VI.out (.cells #[.slice (some ⟨gb, 0, none⟩) 64 64, .slice (some ⟨w3.heap.size, 0, none⟩) 32 32] 31)
      have r0 := Blk.alloc (w := w4.drew) V0.out (.cells #[.slice (some ⟨gb, 0, none⟩) 64 64, .slice (some ⟨w3.heap.size, 0, none⟩) 32 32] 31)
      have rn := Blk.new w4.drew 31 #[.slice (some ⟨gb, 0, none⟩) 64 64, .slice (some ⟨w3.heap.size, 0, none⟩) 32 32]
      have hpa : Lib.PartsAt (w4.drew.alloc (.cells #[.slice (some ⟨gb, 0, none⟩) 64 64, .slice (some ⟨w3.heap.size, 0, none⟩) 32 32] 31)) ⟨w4.heap.size, 0, none⟩ [.slice (some ⟨gb, 0, none⟩) 64 64, .slice (some ⟨w3.heap.size, 0, none⟩) 32 32] [padK k 92, I] := by
        refine parts_cons (fun j u hj => ?_) (holds_blk r2 (padK_len k 92) 64) rfl (fun i v l hv hl => ?_)
        · rw [Addr.add_lit, Nat.zero_add]
          exact (rn.cell j).trans (by simpa using hj)
        · rcases i with _ | i
          · simp only [List.getElem?_cons_zero] at hv hl
            cases hv
            cases hl
            exact holds_blk rI HI.out 32
          · simp at hv
      have hfl : [padK k 92, I].flatten = padK k 92 ++ I := by simp
      have hs := sum_any w4.heap.size 0 2 2 [.slice (some ⟨gb, 0, none⟩) 64 64, .slice (some ⟨w3.heap.size, 0, none⟩) 32 32] [padK k 92, I] _ rfl (by omega) (fun W hW => parts_below hpa hW) (by omega) (by omega) (by rw [hfl, List.length_append, padK_len, HI.out]; omega) (HT.out.below hb5)
      rw [hfl, ← HF.out] at hs
      have HS5 := Lib.hid hs
      have HB5 := Lib.hid hb5
      have R0 := Lib.hid r0
      clear hb5 r2 rI r0 rn hpa hfl hs
      go_wp2_with fail
      refine HS5.out.mono ?_
      rintro e w5 ⟨rfl, bel5⟩
      have hB6 := HB5.out.trans (bel5.mono HB5.out.size)
      have hr0 := R0.out.next bel5
      have hszM := hash_size HML.out
      have hszY : (bytesL (zeros 32)).toArray.size = (bytesL mk).toArray.size := by rw [List.size_toArray, List.size_toArray, bytesL_len, bytesL_len, HML.out, zeros_len]
      have HB6 := Lib.hid hB6
      have HSM := Lib.hid hszM
      have HSY := Lib.hid hszY
      clear bel5 hB6 hszM hszY
      unfold Blk at hr0
      have HR0 := Lib.hid hr0
      go_wp2_with (first | (refine wpList_store_row rfl 23 _ _ rfl w.heap.size (bytesL mk).toArray rfl rfl 23 (bytesL (zeros 32)).toArray HR0.out HSM.out HSY.out (bytesL_one mk) ?_) | fail)
      refine bodyPost_ret (results_cell_row Tryd.results74 _ _ w.heap.size 23 (bytesL mk).toArray (0, 0) _ rfl (setRow_heap _ _ (bytesL (zeros 32)).toArray _ _ (0, 0) HR0.out) Tryd.underlying23 rfl HSM.out) rfl ?_
      exact ⟨by rw [HMK.out], below_setRow HB6.out (Nat.le_refl _) _⟩
end Go.Proofs.YtdkadlifjmmcbaaDoor
