/- The walks of control.Back and control.Key in general. -/
import Derived.Test.YtdkadlifjmmcbaaDoorDe
import Derived.Test.YtdkadlifjmmcbaaDoorKaw
namespace Go.Proofs.YtdkadlifjmmcbaaDoor
open Go.RowKit
set_option linter.unusedSimpArgs false
set_option linter.unusedVariables false

/-- the label as the program's text bears it -/
def labS : ByteArray := { data := #[106, 97, 108, 111, 117, 115, 105, 101, 32, 98, 97, 99, 107] }
theorem labS_B : sB labS = labB := rfl
theorem labS_size : labS.size = 13 := rfl

set_option maxRecDepth 100000 in
set_option maxHeartbeats 2000000 in
theorem back_bad (k : List UInt8) (f t : Int) (w : World) (hk : k.length = 32) (h : t < 0 ∨ f < t) :
    Calls Tryd.prog 9 #[.agg (bytesL k).toArray, .int .i64 f, .int .i64 t] w fun e w' => e = .returned (.tuple #[.agg (bytesL (zeros 32)).toArray, .int .i64 1]) ∧ Below w.heap.size w w' := by
  have hzv := hash_zero
  have hsz := hash_size hk
  have hszz := hash_size (zeros_len 32)
  have hb2 := Blk.new (w.alloc (.cells (bytesL k).toArray 23)) 23 (bytesL (zeros 32)).toArray
  rw [World.size_alloc] at hb2
  unfold Blk at hb2
  have HB := Lib.hid (((Below.refl _ w).alloc (Nat.le_refl _) (.cells (bytesL k).toArray 23)).alloc (by simp) (.cells (bytesL (zeros 32)).toArray 23))
  by_cases h0 : t < 0
  · clear h
    go_enter Tryd.func9, Tryd.ntmps9
    go_wp2_with (first | (refine wpList_store_row rfl 23 _ _ rfl (w.heap.size + 1) (bytesL (zeros 32)).toArray rfl rfl 23 (bytesL (zeros 32)).toArray hb2 hszz rfl (bytesL_one _) ?_) | fail)
    refine bodyPost_ret (results_cell_row2 Tryd.results9 _ _ (w.heap.size + 1) 23 (bytesL (zeros 32)).toArray (0, 0) _ rfl (setRow_heap _ _ (bytesL (zeros 32)).toArray _ _ (0, 0) hb2) Tryd.underlying23 rfl hszz) rfl ?_
    exact ⟨rfl, below_setRow HB.out (by omega) _⟩
  · have h1 : f < t := by omega
    have h2 : 0 ≤ t := by omega
    clear h h0
    go_enter Tryd.func9, Tryd.ntmps9
    go_wp2_with (first | (refine wpList_store_row rfl 23 _ _ rfl (w.heap.size + 1) (bytesL (zeros 32)).toArray rfl rfl 23 (bytesL (zeros 32)).toArray hb2 hszz rfl (bytesL_one _) ?_) | fail)
    refine bodyPost_ret (results_cell_row2 Tryd.results9 _ _ (w.heap.size + 1) 23 (bytesL (zeros 32)).toArray (0, 0) _ rfl (setRow_heap _ _ (bytesL (zeros 32)).toArray _ _ (0, 0) hb2) Tryd.underlying23 rfl hszz) rfl ?_
    exact ⟨rfl, below_setRow HB.out (by omega) _⟩

set_option maxRecDepth 100000 in
set_option maxHeartbeats 2000000 in
theorem back_ok (k : List UInt8) (f t : Nat) (w : World) (hk : k.length = 32) (h : t ≤ f) (hf : f ≤ 255) (hT : TabOK w) :
    Calls Tryd.prog 9 #[.agg (bytesL k).toArray, .int .i64 (f : Int), .int .i64 (t : Int)] w fun e w' => e = .returned (.tuple #[.agg (bytesL (iterD (f - t) k)).toArray, .int .i64 0]) ∧ Below w.heap.size w w' := by
  have hzv := hash_zero
  have K0 := Lib.hid ((Blk.new w 23 (bytesL k).toArray).alloc (.cells (bytesL (zeros 32)).toArray 23))
  have hb2 := Blk.new (w.alloc (.cells (bytesL k).toArray 23)) 23 (bytesL (zeros 32)).toArray
  rw [World.size_alloc] at hb2
  have K1 := Lib.hid hb2
  have HB := Lib.hid (((Below.refl _ w).alloc (Nat.le_refl _) (.cells (bytesL k).toArray 23)).alloc (by simp) (.cells (bytesL (zeros 32)).toArray 23))
  have HK := Lib.hid hk
  have HT := Lib.hid hT
  obtain ⟨d, hd⟩ : ∃ d, d = f - t := ⟨_, rfl⟩
  have hdi : (f : Int) - (t : Int) = (d : Int) := by omega
  have hdb : d ≤ 255 := by omega
  have g0 : decide ((t : Int) < 0) = false := by simp
  have g1 : decide ((f : Int) < (t : Int)) = false := by simp; omega
  have g3 : decide (f < t) = false := by simp; omega
  have g2 : decide ((255 : Int) < (f : Int)) = false := by simp; omega
  rw [← hd]
  clear hb2 hk hT hd
  go_enter Tryd.func9, Tryd.ntmps9
  go_wp2_with fail
  go_loopw [23] (fun i wr => ∃ j : Nat, j ≤ d ∧ i = .int .i64 (j : Int) ∧ Blk wr w.heap.size 23 (bytesL (iterD j k)).toArray ∧ Blk wr (w.heap.size + 1) 23 (bytesL (zeros 32)).toArray ∧ Below w.heap.size w wr) (fun i _ => d - (intOf i).toNat)
  case atStart => exact ⟨0, by omega, rfl, K0.out, K1.out, HB.out⟩
  case round =>
    obtain ⟨j, hj, rfl, m0, m1, mb⟩ := hrel
    have hil := iterD_len j k HK.out
    by_cases hlt : j < d
    · have hnx : iterD (j + 1) k = derB (iterD j k) := rfl
      have hder := derive_any (iterD j k) labS wr hil (by rw [labS_size]; omega) (HT.out.below mb)
      rw [labS_B] at hder
      have hde : macB (iterD j k) (labB ++ [1]) = derB (iterD j k) := rfl
      rw [hde, ← hnx] at hder
      have hil2 := iterD_len (j + 1) k HK.out
      obtain ⟨k2, hk2⟩ : ∃ x, x = iterD (j + 1) k := ⟨_, rfl⟩
      rw [← hk2] at hder hil2
      have HK2 := Lib.hid hk2.symm
      generalize iterD j k = kj at *
      have HD := Lib.hid hder
      have HSJ := Lib.hid (hash_size hil)
      have HSK := Lib.hid (hash_size hil2)
      have HSZ := Lib.hid (show (bytesL kj).toArray.size = (bytesL k2).toArray.size by rw [List.size_toArray, List.size_toArray, bytesL_len, bytesL_len, hil, hil2])
      have M0 := Lib.hid m0
      have M1 := Lib.hid m1
      have MB := Lib.hid mb
      unfold Blk at m0
      clear hk2 hder hde hil hil2 hnx m1 mb
      go_wp2_with (first | (refine wpList_load_row rfl 23 _ rfl w.heap.size rfl 23 _ (0, 0) _ m0 Tryd.underlying23 rfl HSJ.out ?_) | fail)
      refine HD.out.mono ?_
      rintro e w1 ⟨rfl, bel1⟩
      have n0 := M0.out.next bel1
      have N1 := Lib.hid (M1.out.next bel1)
      have NB := Lib.hid (MB.out.trans (bel1.mono MB.out.size))
      unfold Blk at n0
      have N0 := Lib.hid n0
      clear bel1 n0
      go_wp2_with (first | (refine wpList_store_row rfl 23 _ _ rfl w.heap.size (bytesL k2).toArray rfl rfl 23 (bytesL kj).toArray N0.out HSK.out HSZ.out (bytesL_one k2) ?_) | fail)
      refine ⟨⟨j + 1, by omega, by go_num, ?_, ?_, ?_⟩, by simp [intOf]; omega⟩
      · rw [HK2.out]
        exact setRow_heap _ _ _ _ _ _ N0.out
      · exact (setRow_other _ _ _ _ (by omega)).trans N1.out
      · exact below_setRow NB.out (Nat.le_refl _) _
    · have hjd : j = d := by omega
      rw [hjd] at hil m0
      have hf2 : decide ((j : Int) < (d : Int)) = false := by simp; omega
      have hf3 : decide (j < d) = false := by simp; omega
      have hsz := hash_size hil
      have hszz : (bytesL (zeros 32)).toArray.size = (bytesL (iterD d k)).toArray.size := by rw [List.size_toArray, List.size_toArray, bytesL_len, bytesL_len, hil, zeros_len]
      obtain ⟨kd, hkd⟩ : ∃ x, x = iterD d k := ⟨_, rfl⟩
      rw [← hkd] at hil m0 hsz hszz
      have HKD := Lib.hid hkd
      have MB := Lib.hid mb
      unfold Blk at m0 m1
      clear hkd hjd hj hlt mb
      go_wp2_with (first | (refine wpList_load_row rfl 23 _ rfl w.heap.size rfl 23 _ (0, 0) _ m0 Tryd.underlying23 rfl hsz ?_) | (refine wpList_store_row rfl 23 _ _ rfl (w.heap.size + 1) (bytesL kd).toArray rfl rfl 23 (bytesL (zeros 32)).toArray m1 hsz hszz (bytesL_one kd) ?_) | fail)
      refine bodyPost_ret (results_cell_row2 Tryd.results9 _ _ (w.heap.size + 1) 23 (bytesL kd).toArray (0, 0) _ rfl (setRow_heap _ _ (bytesL (zeros 32)).toArray _ _ (0, 0) m1) Tryd.underlying23 rfl hsz) rfl ?_
      exact ⟨by rw [← HKD.out]; rfl, below_setRow MB.out (by omega) _⟩

/-- what control.Key answers -/
def keyB (k : List UInt8) (a : Int) : List UInt8 × Int := if 0 ≤ a ∧ a ≤ 255 then (iterD (255 - a.toNat) k, 0) else (zeros 32, 1)
theorem keyB_len (k : List UInt8) (a : Int) (h : k.length = 32) : (keyB k a).1.length = 32 := by
  unfold keyB
  split
  · exact iterD_len _ _ h
  · exact zeros_len 32
theorem back255 (k : List UInt8) (a : Int) (w : World) (hk : k.length = 32) (hT : TabOK w) :
    Calls Tryd.prog 9 #[.agg (bytesL k).toArray, .int .i64 255, .int .i64 a] w fun e w' => e = .returned (.tuple #[.agg (bytesL (keyB k a).1).toArray, .int .i64 (keyB k a).2]) ∧ Below w.heap.size w w' := by
  unfold keyB
  split
  · next h =>
    obtain ⟨n, rfl⟩ : ∃ n : Nat, a = n := ⟨a.toNat, by omega⟩
    exact back_ok k 255 n w hk (by omega) (by omega) hT
  · next h => exact back_bad k 255 a w hk (by omega)

set_option maxRecDepth 100000 in
set_option maxHeartbeats 2000000 in
theorem ckey_any (k : List UInt8) (a : Int) (w : World) (hk : k.length = 32) (hT : TabOK w) :
    Calls Tryd.prog 7 #[.agg (bytesL k).toArray, .int .i64 a] w fun e w' => e = .returned (.tuple #[.agg (bytesL (keyB k a).1).toArray, .int .i64 (keyB k a).2]) ∧ Below w.heap.size w w' := by
  have hzv := hash_zero
  have hsz := hash_size hk
  have hkl := keyB_len k a hk
  have HT := Lib.hid hT
  have hb1 := (Blk.new w 23 (bytesL k).toArray).alloc (.cells (bytesL (zeros 32)).toArray 23)
  have hb2 := Blk.new (w.alloc (.cells (bytesL k).toArray 23)) 23 (bytesL (zeros 32)).toArray
  rw [World.size_alloc] at hb2
  have HB2 := Lib.hid hb2
  have HB := Lib.hid (((Below.refl _ w).alloc (Nat.le_refl _) (.cells (bytesL k).toArray 23)).alloc (by simp) (.cells (bytesL (zeros 32)).toArray 23))
  have hback := back255 k a _ hk (HT.out.below HB.out)
  have HBK := Lib.hid hback
  generalize (keyB k a).1 = kr at *
  generalize (keyB k a).2 = er at *
  have hszr := hash_size hkl
  have hszz : (bytesL (zeros 32)).toArray.size = (bytesL kr).toArray.size := by rw [List.size_toArray, List.size_toArray, bytesL_len, bytesL_len, hkl, zeros_len]
  unfold Blk at hb1
  clear hback hT
  go_enter Tryd.func7, Tryd.ntmps7
  go_wp2_with (first | (refine wpList_load_row rfl 23 _ rfl w.heap.size rfl 23 _ (0, 0) _ hb1 Tryd.underlying23 rfl hsz ?_) | fail)
  refine HBK.out.mono ?_
  rintro e w1 ⟨rfl, bel1⟩
  have hb3 := HB2.out.next bel1
  have HB3 := Lib.hid (HB.out.trans (bel1.mono HB.out.size))
  unfold Blk at hb3
  clear bel1
  go_wp2_with (first | (refine wpList_store_row rfl 23 _ _ rfl (w.heap.size + 1) (bytesL kr).toArray rfl rfl 23 (bytesL (zeros 32)).toArray hb3 hszr hszz (bytesL_one kr) ?_) | fail)
  refine bodyPost_ret (results_cell_row2 Tryd.results7 _ _ (w.heap.size + 1) 23 (bytesL kr).toArray (0, 0) _ rfl (setRow_heap _ _ (bytesL (zeros 32)).toArray _ _ (0, 0) hb3) Tryd.underlying23 rfl hszr) rfl ?_
  exact ⟨rfl, below_setRow HB3.out (by omega) _⟩
end Go.Proofs.YtdkadlifjmmcbaaDoor
