/- The walks of the reference's Derive and Key. -/
import Derived.Test.YtdkadlifjmmcbaaDoorRe
import Derived.Test.YtdkadlifjmmcbaaDoorBa
namespace Go.Proofs.YtdkadlifjmmcbaaDoor
open Go.RowKit
set_option linter.unusedSimpArgs false
set_option linter.unusedVariables false

set_option maxRecDepth 100000 in
set_option maxHeartbeats 2000000 in
theorem rderive_any (k : List UInt8) (s : ByteArray) (w : World) (hk : k.length = 32) (hs : s.size ≤ 1000) (hT : RTabOK w) :
    Calls Tryd.prog 29 #[.agg (bytesL k).toArray, .string s] w fun e w' => e = .returned (.agg (bytesL (macB k (sB s ++ [1]))).toArray) ∧ Below w.heap.size w w' := by
  have HK := Lib.hid hk
  have HT := Lib.hid hT
  have hzH := hash_zero
  have hn1 := ((Blk.new w 23 (bytesL k).toArray).alloc (.cells (bytesL (zeros 32)).toArray 23)).alloc (.cells (bytesL (zeros 32)).toArray 23)
  unfold Blk at hn1
  have hsz := hash_size hk
  have hn2 := (Blk.new (w.alloc (.cells (bytesL k).toArray 23)) 23 (bytesL (zeros 32)).toArray).alloc (.cells (bytesL (zeros 32)).toArray 23)
  have hn3 := Blk.new ((w.alloc (.cells (bytesL k).toArray 23)).alloc (.cells (bytesL (zeros 32)).toArray 23)) 23 (bytesL (zeros 32)).toArray
  rw [World.size_alloc] at hn2
  rw [World.size_alloc, World.size_alloc] at hn3
  have HN2 := Lib.hid (hn2.next (bw_below _ s))
  have HN3 := Lib.hid (hn3.next (bw_below _ s))
  have hb := (((Below.refl _ w).alloc (Nat.le_refl _) (.cells (bytesL k).toArray 23)).alloc (by simp) (.cells (bytesL (zeros 32)).toArray 23)).alloc (by simp; omega) (.cells (bytesL (zeros 32)).toArray 23)
  have HB := Lib.hid (hb.trans ((bw_below _ s).mono hb.size))
  have hrb := bw_rb (((w.alloc (.cells (bytesL k).toArray 23)).alloc (.cells (bytesL (zeros 32)).toArray 23)).alloc (.cells (bytesL (zeros 32)).toArray 23)) s
  simp only [World.size_alloc] at hrb
  have HRB := Lib.hid hrb
  have hml := macB_len k (sB s ++ [1])
  obtain ⟨mk, hmk⟩ : ∃ x, x = macB k (sB s ++ [1]) := ⟨_, rfl⟩
  rw [← hmk] at hml
  have HML := Lib.hid hml
  have HMK := Lib.hid hmk
  clear hk hT hn2 hn3 hb hrb hml hmk
  go_enter Tryd.func29, Tryd.ntmps29
  go_wp2_with (first | (refine wpList_load_row rfl 23 _ rfl w.heap.size rfl 23 _ (0, 0) _ hn1 Tryd.underlying23 rfl hsz ?_) | fail)
  have HX := Lib.hid (rexpand_any k (some ⟨w.heap.size + 1 + 1 + 1, 0, none⟩) s.size (grownCap (((w.alloc (.cells (bytesL k).toArray 23)).alloc (.cells (bytesL (zeros 32)).toArray 23)).alloc (.cells (bytesL (zeros 32)).toArray 23)) s.size 0 5) (sB s) _ HK.out (sB_len s) HRB.out hs (HT.out.below HB.out))
  have M2 := HN2.out
  have M3 := HN3.out
  have MB := HB.out
  have MX := HX.out
  clear HN2 HN3 HB HX HRB
  have hszWl : w.heap.size + 1 + 1 < (Lib.bytesWorld (((w.alloc (.cells (bytesL k).toArray 23)).alloc (.cells (bytesL (zeros 32)).toArray 23)).alloc (.cells (bytesL (zeros 32)).toArray 23)) 5 s).heap.size := by rw [bw_size]; simp only [World.size_alloc]; omega
  generalize Lib.bytesWorld (((w.alloc (.cells (bytesL k).toArray 23)).alloc (.cells (bytesL (zeros 32)).toArray 23)).alloc (.cells (bytesL (zeros 32)).toArray 23)) 5 s = W at *
  refine MX.mono ?_
  rintro e w1 ⟨A, cA, rfl, hr1, bel1, fr1⟩

  rw [← HMK.out] at hr1
  have N2 := Lib.hid (M2.next bel1)
  have N3 := Lib.hid (show Blk w1 (w.heap.size + 1 + 1) 23 (bytesL (mk.take 0 ++ zeros (32 - 0))).toArray from M3.next bel1)
  have NB := Lib.hid (MB.trans (bel1.mono MB.size))
  have NR := Lib.hid hr1
  have NFR := Lib.hid (show ∀ r, blkOf A = some r → w.heap.size + 1 + 1 < r from fun r hr => Nat.lt_of_lt_of_le hszWl (fr1 r hr))
  clear M2 M3 MB MX hr1 bel1 hn1 fr1 hszWl
  go_wp2_with fail
  go_loopw [7] (fun i wr => ∃ j : Nat, j ≤ 32 ∧ i = .int .i64 (j : Int) ∧ Blk wr (w.heap.size + 1 + 1) 23 (bytesL (mk.take j ++ zeros (32 - j))).toArray ∧ Blk wr (w.heap.size + 1) 23 (bytesL (zeros 32)).toArray ∧ Keep (· ≠ w.heap.size + 1 + 1) w1 wr) (fun i _ => 32 - (intOf i).toNat)
  case atStart => exact ⟨0, by omega, rfl, N3.out, N2.out, Keep.refl _ _⟩
  case round =>
    obtain ⟨j, hj, rfl, m3, m2, mk1⟩ := hrel
    by_cases hlt : j < 32
    · have hjm : j < mk.length := by rw [HML.out]; exact hlt
      obtain ⟨bA, oA, hA, hcx⟩ := NR.out j hjm
      have hneA : bA ≠ w.heap.size + 1 + 1 := by
        have := NFR.out bA (by rw [hA]; rfl)
        omega
      have hcw := (mk1.cell (p := ⟨bA, oA + j, none⟩) hneA (cell_lt hcx)).trans hcx
      have hsv := fill_set mk j HML.out hlt (.int .u8 (mk[j].toNat : Int)) (by simp [hjm])
      have fz := m3.free j
      have hcz : ∃ v, wr.cell? ⟨w.heap.size + 1 + 1, j, none⟩ = some v := by
        rw [m3.cell]
        have hl : j < (bytesL (mk.take j ++ zeros (32 - j))).toArray.size := by rw [List.size_toArray, bytesL_len]; simp [zeros_len, HML.out]; omega
        exact ⟨_, Array.getElem?_eq_getElem hl⟩
      obtain ⟨vz, hcz⟩ := hcz
      subst hA
      have u := UInt8.toNat_lt mk[j]
      generalize mk[j].toNat = q at *
      have SV := Lib.hid hsv
      have M3 := Lib.hid m3
      have M2 := Lib.hid m2
      have MK := Lib.hid mk1
      clear hsv m3 m2 mk1 hcx
      go_wp2_with fail
      refine ⟨⟨j + 1, by omega, by go_num, ?_, ?_, ?_⟩, by simp [intOf]; omega⟩
      · rw [← SV.out]
        exact M3.out.set j _
      · exact M2.out.far (p := ⟨w.heap.size + 1 + 1, j, none⟩) (show w.heap.size + 1 ≠ w.heap.size + 1 + 1 by omega) _
      · exact MK.out.setCell (p := ⟨w.heap.size + 1 + 1, j, none⟩) (fun h => h rfl) _
    · have hj32 : j = 32 := by omega
      have e : (bytesL (mk.take j ++ zeros (32 - j))).toArray = (bytesL mk).toArray := by rw [hj32, List.take_of_length_le (by rw [HML.out]; omega)]; simp [zeros]
      rw [e] at m3
      have hf : decide ((j : Int) < 32) = false := by simp; omega
      have hszM := hash_size HML.out
      have hszY : (bytesL (zeros 32)).toArray.size = (bytesL mk).toArray.size := by rw [List.size_toArray, List.size_toArray, bytesL_len, bytesL_len, HML.out, zeros_len]
      have HBE := Lib.hid (NB.out.trans (mk1.below (B := w.heap.size) (fun i hi => by show i ≠ w.heap.size + 1 + 1; omega) NB.out.size))
      unfold Blk at m3 m2
      clear e hj32 mk1 hlt hj
      go_wp2_with (first | (refine wpList_load_row rfl 23 _ rfl (w.heap.size + 1 + 1) rfl 23 _ (0, 0) _ m3 Tryd.underlying23 rfl hszM ?_) | (refine wpList_store_row rfl 23 _ _ rfl (w.heap.size + 1) (bytesL mk).toArray rfl rfl 23 (bytesL (zeros 32)).toArray m2 hszM hszY (bytesL_one mk) ?_) | fail)
      refine bodyPost_ret (results_cell_row Tryd.results29 _ _ (w.heap.size + 1) 23 (bytesL mk).toArray (0, 0) _ rfl (setRow_heap _ _ (bytesL (zeros 32)).toArray _ _ (0, 0) m2) Tryd.underlying23 rfl hszM) rfl ?_
      exact ⟨by rw [HMK.out], below_setRow HBE.out (by omega) _⟩
end Go.Proofs.YtdkadlifjmmcbaaDoor
