/- The walks of control.Back and control.Key for the last epoch, and of the layer's 'awake'. -/
import Derived.Test.YtdkadlifjmmcbaaDoorHr
import Derived.Laws.CopyOwn
import Derived.Deep.WholeRow
namespace Go.Proofs.YtdkadlifjmmcbaaDoor
open Go.RowKit

theorem run_zero_at {P : Program} {t : TypeId} {v : Value} (h : (P.info? t).map (·.zero) = some (some v)) (W : World) : (zeroValue t).run P W = .ok v W := by
  cases hq : P.info? t with
  | none => simp [hq] at h
  | some i =>
    have hz : i.zero = some v := by simpa [hq] using h
    simp [zeroValue, typeInfo, hq, hz]
theorem hash_zero (W : World) : (zeroValue 23).run Tryd.prog W = .ok (.agg (bytesL (zeros 32)).toArray) W := by
  rw [zeros32]
  exact run_zero_at (by kernel_rfl) W
theorem bytesL_one (l : List UInt8) : (bytesL l).toArray.all (·.oneCell') = true := by
  refine all_oneCell_toArray fun v hv => ?_
  simp only [bytesL, List.mem_map] at hv
  obtain ⟨x, _, rfl⟩ := hv
  rfl
theorem hash_size {k : List UInt8} (hk : k.length = 32) : (Tryd.prog.info? 23).map (·.size) = some (bytesL k).toArray.size := by
  rw [List.size_toArray, bytesL_len, hk]; kernel_rfl

set_option maxRecDepth 100000 in
set_option maxHeartbeats 1000000 in
theorem back255_any (k : List UInt8) (hk : k.length = 32) (w : World) :
    Calls Tryd.prog 9 #[.agg (bytesL k).toArray, .int .i64 255, .int .i64 255] w fun e w' => e = .returned (.tuple #[.agg (bytesL k).toArray, .int .i64 0]) ∧ Below w.heap.size w w' := by
  have hzv := hash_zero
  have hsz := hash_size hk
  have hszz : (bytesL (zeros 32)).toArray.size = (bytesL k).toArray.size := by rw [List.size_toArray, List.size_toArray, bytesL_len, bytesL_len, hk, zeros_len]
  have hb1 := (Blk.new w 23 (bytesL k).toArray).alloc (.cells (bytesL (zeros 32)).toArray 23)
  have hb2 := Blk.new (w.alloc (.cells (bytesL k).toArray 23)) 23 (bytesL (zeros 32)).toArray
  rw [World.size_alloc] at hb2
  unfold Blk at hb1 hb2
  go_enter Tryd.func9, Tryd.ntmps9
  go_wp2_with fail
  refine wp_loop_rounds 1 ?_
  rw [rounds_succ]
  go_wp2_with (first | (refine wpList_load_row rfl 23 _ rfl w.heap.size rfl 23 _ (0, 0) _ hb1 Tryd.underlying23 rfl hsz ?_) | (refine wpList_store_row rfl 23 _ _ rfl (w.heap.size + 1) (bytesL k).toArray rfl rfl 23 (bytesL (zeros 32)).toArray hb2 hsz hszz (bytesL_one k) ?_) | fail)
  refine bodyPost_ret (results_cell_row2 Tryd.results9 _ _ (w.heap.size + 1) 23 (bytesL k).toArray (0, 0) _ rfl (setRow_heap _ _ (bytesL (zeros 32)).toArray _ _ (0, 0) hb2) Tryd.underlying23 rfl hsz) rfl ?_
  exact ⟨rfl, below_setRow (by go_grown) (by omega) _⟩

set_option maxRecDepth 100000 in
set_option maxHeartbeats 1000000 in
theorem key255_any (k : List UInt8) (hk : k.length = 32) (w : World) :
    Calls Tryd.prog 7 #[.agg (bytesL k).toArray, .int .i64 255] w fun e w' => e = .returned (.tuple #[.agg (bytesL k).toArray, .int .i64 0]) ∧ Below w.heap.size w w' := by
  have hzv := hash_zero
  have hsz := hash_size hk
  have hszz : (bytesL (zeros 32)).toArray.size = (bytesL k).toArray.size := by rw [List.size_toArray, List.size_toArray, bytesL_len, bytesL_len, hk, zeros_len]
  have hb1 := (Blk.new w 23 (bytesL k).toArray).alloc (.cells (bytesL (zeros 32)).toArray 23)
  have hb2 := Blk.new (w.alloc (.cells (bytesL k).toArray 23)) 23 (bytesL (zeros 32)).toArray
  rw [World.size_alloc] at hb2
  have HB2 := Lib.hid hb2
  have hback := back255_any k hk
  have HBK := Lib.hid hback
  unfold Blk at hb1
  clear hback
  go_enter Tryd.func7, Tryd.ntmps7
  go_wp2_with (first | (refine wpList_load_row rfl 23 _ rfl w.heap.size rfl 23 _ (0, 0) _ hb1 Tryd.underlying23 rfl hsz ?_) | fail)
  refine (HBK.out _).mono ?_
  rintro e w1 ⟨rfl, bel1⟩
  have hb3 := HB2.out.next bel1
  unfold Blk at hb3
  go_wp2_with (first | (refine wpList_store_row rfl 23 _ _ rfl (w.heap.size + 1) (bytesL k).toArray rfl rfl 23 (bytesL (zeros 32)).toArray hb3 hsz hszz (bytesL_one k) ?_) | fail)
  refine bodyPost_ret (results_cell_row2 Tryd.results7 _ _ (w.heap.size + 1) 23 (bytesL k).toArray (0, 0) _ rfl (setRow_heap _ _ (bytesL (zeros 32)).toArray _ _ (0, 0) hb3) Tryd.underlying23 rfl hsz) rfl ?_
  exact ⟨rfl, below_setRow (Below.trans (by go_grown) (bel1.mono (by simp; omega))) (by omega) _⟩

/-- the key that 'awake' asks with -/
def key7 : List UInt8 := 7 :: zeros 31
theorem key7_len : key7.length = 32 := rfl

set_option maxRecDepth 100000 in
set_option maxHeartbeats 1000000 in
theorem cawake_any (w : World) : Calls Tryd.prog 8 #[] w fun e w' => e = .returned (.bool true) ∧ Below w.heap.size w w' := by
  have hk := key255_any key7 key7_len
  have e7 : (bytesL key7).toArray = #[.int .u8 7, .int .u8 0, .int .u8 0, .int .u8 0, .int .u8 0, .int .u8 0, .int .u8 0, .int .u8 0, .int .u8 0, .int .u8 0, .int .u8 0, .int .u8 0, .int .u8 0, .int .u8 0, .int .u8 0, .int .u8 0, .int .u8 0, .int .u8 0, .int .u8 0, .int .u8 0, .int .u8 0, .int .u8 0, .int .u8 0, .int .u8 0, .int .u8 0, .int .u8 0, .int .u8 0, .int .u8 0, .int .u8 0, .int .u8 0, .int .u8 0, .int .u8 0] := rfl
  have hzv := hash_zero
  have heq := eqin_bytes (P := Tryd.prog) (t := 23) (e := 5) Tryd.underlying23 (by kernel_rfl) Tryd.underlying5 key7 key7 key7_len key7_len
  have hkk : (key7 == key7) = true := by simp
  simp only [hkk] at heq
  have hsz := hash_size key7_len
  have hszz : (bytesL (zeros 32)).toArray.size = (bytesL key7).toArray.size := rfl
  simp only [e7] at hk heq hsz hszz
  simp only [zeros32] at hzv hszz
  have HK := Lib.hid hk
  have hone := bytesL_one key7
  rw [e7] at hone
  clear hk hkk e7
  go_enter Tryd.func8, Tryd.ntmps8
  go_wp2_with fail
  refine (HK.out _).mono ?_
  rintro e w1 ⟨rfl, bel1⟩
  have hnew := heap_alloc_new w1 (.cells (bytesL (zeros 32)).toArray 23)
  rw [zeros32] at hnew
  have hwr := World.setRow_alloc_new w1 (bytesL (zeros 32)).toArray #[.int .u8 7, .int .u8 0, .int .u8 0, .int .u8 0, .int .u8 0, .int .u8 0, .int .u8 0, .int .u8 0, .int .u8 0, .int .u8 0, .int .u8 0, .int .u8 0, .int .u8 0, .int .u8 0, .int .u8 0, .int .u8 0, .int .u8 0, .int .u8 0, .int .u8 0, .int .u8 0, .int .u8 0, .int .u8 0, .int .u8 0, .int .u8 0, .int .u8 0, .int .u8 0, .int .u8 0, .int .u8 0, .int .u8 0, .int .u8 0, .int .u8 0, .int .u8 0] 23
  rw [zeros32] at hwr
  have hrg : (w1.alloc (.cells #[.int .u8 7, .int .u8 0, .int .u8 0, .int .u8 0, .int .u8 0, .int .u8 0, .int .u8 0, .int .u8 0, .int .u8 0, .int .u8 0, .int .u8 0, .int .u8 0, .int .u8 0, .int .u8 0, .int .u8 0, .int .u8 0, .int .u8 0, .int .u8 0, .int .u8 0, .int .u8 0, .int .u8 0, .int .u8 0, .int .u8 0, .int .u8 0, .int .u8 0, .int .u8 0, .int .u8 0, .int .u8 0, .int .u8 0, .int .u8 0, .int .u8 0, .int .u8 0] 23)).rangeAt w1.heap.size 0 [.int .u8 7, .int .u8 0, .int .u8 0, .int .u8 0, .int .u8 0, .int .u8 0, .int .u8 0, .int .u8 0, .int .u8 0, .int .u8 0, .int .u8 0, .int .u8 0, .int .u8 0, .int .u8 0, .int .u8 0, .int .u8 0, .int .u8 0, .int .u8 0, .int .u8 0, .int .u8 0, .int .u8 0, .int .u8 0, .int .u8 0, .int .u8 0, .int .u8 0, .int .u8 0, .int .u8 0, .int .u8 0, .int .u8 0, .int .u8 0, .int .u8 0, .int .u8 0] := fun j v hv => by rw [Nat.zero_add, cell_of_row _ _ _ _ _ _ (heap_alloc_new w1 _)]; simpa using hv
  have HRG := Lib.hid hrg
  clear hrg
  go_wp2_with (first | (refine wpList_store_row rfl 23 _ _ rfl w1.heap.size _ rfl rfl 23 _ hnew hsz hszz hone ?_; rw [hwr]) | (refine wpList_load_midG (by rfl) 23 _ rfl w1.heap.size 0 rfl [.int .u8 7, .int .u8 0, .int .u8 0, .int .u8 0, .int .u8 0, .int .u8 0, .int .u8 0, .int .u8 0, .int .u8 0, .int .u8 0, .int .u8 0, .int .u8 0, .int .u8 0, .int .u8 0, .int .u8 0, .int .u8 0, .int .u8 0, .int .u8 0, .int .u8 0, .int .u8 0, .int .u8 0, .int .u8 0, .int .u8 0, .int .u8 0, .int .u8 0, .int .u8 0, .int .u8 0, .int .u8 0, .int .u8 0, .int .u8 0, .int .u8 0, .int .u8 0] _ HRG.out Tryd.underlying23 rfl (by kernel_rfl) ?_) | fail)
  go_returns
  exact ⟨rfl, bel1.alloc bel1.size _⟩

end Go.Proofs.YtdkadlifjmmcbaaDoor
