/- The walk of the reference's Key. -/
import Derived.Test.YtdkadlifjmmcbaaDoorRd2
namespace Go.Proofs.YtdkadlifjmmcbaaDoor
open Go.RowKit
set_option linter.unusedSimpArgs false
set_option linter.unusedVariables false

set_option maxRecDepth 100000 in
set_option maxHeartbeats 2000000 in
theorem rkey_any (k : List UInt8) (a : Nat) (w : World) (hk : k.length = 32) (ha : a ≤ 255) (hT : RTabOK w) :
    Calls Tryd.prog 10 #[.agg (bytesL k).toArray, .int .i64 (a : Int)] w fun e w' => e = .returned (.agg (bytesL (iterD (255 - a) k)).toArray) ∧ Below w.heap.size w w' := by
  have hzH := hash_zero
  have HK := Lib.hid hk
  have HT := Lib.hid hT
  have hsz := hash_size hk
  have hszz : (bytesL (zeros 32)).toArray.size = (bytesL k).toArray.size := by rw [List.size_toArray, List.size_toArray, bytesL_len, bytesL_len, hk, zeros_len]
  have hn0 := (Blk.new w 23 (bytesL k).toArray).alloc (.cells (bytesL (zeros 32)).toArray 23)
  unfold Blk at hn0
  have hn1 := Blk.new (w.alloc (.cells (bytesL k).toArray 23)) 23 (bytesL (zeros 32)).toArray
  rw [World.size_alloc] at hn1
  have N1 := Lib.hid (hn1.alloc (.cells (bytesL k).toArray 23))
  have hn2 := Blk.new ((w.alloc (.cells (bytesL k).toArray 23)).alloc (.cells (bytesL (zeros 32)).toArray 23)) 23 (bytesL k).toArray
  rw [World.size_alloc, World.size_alloc] at hn2
  have N2 := Lib.hid hn2
  have hnew := heap_alloc_new ((w.alloc (.cells (bytesL k).toArray 23)).alloc (.cells (bytesL (zeros 32)).toArray 23)) (.cells (bytesL (zeros 32)).toArray 23)
  have hwr := World.setRow_alloc_new ((w.alloc (.cells (bytesL k).toArray 23)).alloc (.cells (bytesL (zeros 32)).toArray 23)) (bytesL (zeros 32)).toArray (bytesL k).toArray 23
  rw [World.size_alloc, World.size_alloc] at hnew hwr
  have HNW := Lib.hid hnew
  have HWR := Lib.hid hwr
  have HB := Lib.hid ((((Below.refl _ w).alloc (Nat.le_refl _) (.cells (bytesL k).toArray 23)).alloc (by simp) (.cells (bytesL (zeros 32)).toArray 23)).alloc (by simp; omega) (.cells (bytesL k).toArray 23))
  clear hk hT hn1 hn2 hnew hwr
  go_enter Tryd.func10, Tryd.ntmps10
  go_wp2_with (first | (refine wpList_load_row rfl 23 _ rfl w.heap.size rfl 23 _ (0, 0) _ hn0 Tryd.underlying23 rfl hsz ?_) | (refine wpList_store_row rfl 23 _ _ rfl (w.heap.size + 1 + 1) (bytesL k).toArray rfl rfl 23 _ HNW.out hsz hszz (bytesL_one k) ?_; rw [HWR.out]) | fail)
  clear hn0 hsz hszz
  go_loopw [6] (fun i wr => ∃ j e : Nat, j + e = 255 ∧ a ≤ e ∧ i = .int .i64 (e : Int) ∧ Blk wr (w.heap.size + 1 + 1) 23 (bytesL (iterD j k)).toArray ∧ Blk wr (w.heap.size + 1) 23 (bytesL (zeros 32)).toArray ∧ Below w.heap.size w wr) (fun i _ => (intOf i).toNat)
  case atStart => exact ⟨0, 255, by omega, by omega, rfl, N2.out, N1.out, HB.out⟩
  case round =>
    obtain ⟨j, e, hje, hae, rfl, m0, m1, mb⟩ := hrel
    have hil := iterD_len j k HK.out
    by_cases hlt : a < e
    · have hnx : iterD (j + 1) k = derB (iterD j k) := rfl
      have hder := rderive_any (iterD j k) labS wr hil (by rw [labS_size]; omega) (HT.out.below mb)
      rw [labS_B] at hder
      have hde : macB (iterD j k) (labB ++ [1]) = derB (iterD j k) := rfl
      rw [hde, ← hnx] at hder
      have hil2 := iterD_len (j + 1) k HK.out
      obtain ⟨k2, hk2⟩ : ∃ x, x = iterD (j + 1) k := ⟨_, rfl⟩
      rw [← hk2] at hder hil2
      have HK2 := Lib.hid hk2.symm
      generalize iterD j k = kj at *
      have HD := Lib.hid hder
      have HSJ := Lib.hid (hash_size hil)
      have HSK := Lib.hid (hash_size hil2)
      have HSZ := Lib.hid (show (bytesL kj).toArray.size = (bytesL k2).toArray.size by rw [List.size_toArray, List.size_toArray, bytesL_len, bytesL_len, hil, hil2])
      have M0 := Lib.hid m0
      have M1 := Lib.hid m1
      have MB := Lib.hid mb
      obtain ⟨e2, he2⟩ : ∃ e2, e = e2 + 1 := ⟨e - 1, by omega⟩
      have hw1 : (e : Int) - 1 = (e2 : Int) := by omega
      have HE := Lib.hid he2
      unfold Blk at m0
      clear hk2 hder hde hil hil2 hnx m1 mb he2
      go_wp2_with (first | (refine wpList_load_row rfl 23 _ rfl (w.heap.size + 1 + 1) rfl 23 _ (0, 0) _ m0 Tryd.underlying23 rfl HSJ.out ?_) | fail)
      refine HD.out.mono ?_
      rintro e w1 ⟨rfl, bel1⟩
      have n0 := M0.out.next bel1
      have N1 := Lib.hid (M1.out.next bel1)
      have NB := Lib.hid (MB.out.trans (bel1.mono MB.out.size))
      unfold Blk at n0
      have N0 := Lib.hid n0
      clear bel1 n0
      go_wp2_with (first | (refine wpList_store_row rfl 23 _ _ rfl (w.heap.size + 1 + 1) (bytesL k2).toArray rfl rfl 23 (bytesL kj).toArray N0.out HSK.out HSZ.out (bytesL_one k2) ?_) | fail)
      refine ⟨⟨j + 1, e2, by have := HE.out; omega, by have := HE.out; omega, rfl, ?_, ?_, ?_⟩, by have := HE.out; simp [intOf]; omega⟩
      · rw [HK2.out]
        exact setRow_heap _ _ _ _ _ _ N0.out
      · exact (setRow_other _ _ _ _ (by omega)).trans N1.out
      · exact below_setRow NB.out (by omega) _
    · have hjd : j = 255 - a := by omega
      rw [hjd] at hil m0
      have hf2 : decide ((a : Int) < (e : Int)) = false := by simp; omega
      have hf3 : decide (a < e) = false := by simp; omega
      have hsz := hash_size hil
      have hszz : (bytesL (zeros 32)).toArray.size = (bytesL (iterD (255 - a) k)).toArray.size := by rw [List.size_toArray, List.size_toArray, bytesL_len, bytesL_len, hil, zeros_len]
      obtain ⟨kd, hkd⟩ : ∃ x, x = iterD (255 - a) k := ⟨_, rfl⟩
      rw [← hkd] at hil m0 hsz hszz
      have HKD := Lib.hid hkd
      have MB := Lib.hid mb
      unfold Blk at m0 m1
      clear hkd hjd hlt mb
      go_wp2_with (first | (refine wpList_load_row rfl 23 _ rfl (w.heap.size + 1 + 1) rfl 23 _ (0, 0) _ m0 Tryd.underlying23 rfl hsz ?_) | (refine wpList_store_row rfl 23 _ _ rfl (w.heap.size + 1) (bytesL kd).toArray rfl rfl 23 (bytesL (zeros 32)).toArray m1 hsz hszz (bytesL_one kd) ?_) | fail)
      refine bodyPost_ret (results_cell_row Tryd.results10 _ _ (w.heap.size + 1) 23 (bytesL kd).toArray (0, 0) _ rfl (setRow_heap _ _ (bytesL (zeros 32)).toArray _ _ (0, 0) m1) Tryd.underlying23 rfl hsz) rfl ?_
      exact ⟨by rw [← HKD.out], below_setRow MB.out (by omega) _⟩
end Go.Proofs.YtdkadlifjmmcbaaDoor
