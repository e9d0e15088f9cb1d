/- The walk of hash.spread. -/
import Derived.Test.YtdkadlifjmmcbaaDoorSh2
import Derived.Deep.RegionHeldLaw
import Derived.Laws.CopyOwn
namespace Go.Proofs.YtdkadlifjmmcbaaDoor
open Go.RowKit
set_option linter.unusedSimpArgs false
set_option linter.unusedVariables false

def wvN (x : UInt32) : Value := .int .u32 (wN x : Int)
/-- words, and noughts behind them -/
def cellsW (l : List UInt32) (n : Nat) : List Value := l.map wvN ++ List.replicate (n - l.length) (.int .u32 0)
theorem cellsW_len (l : List UInt32) (n : Nat) (h : l.length ≤ n) : (cellsW l n).length = n := by simp [cellsW]; omega
theorem cellsW_get (l : List UInt32) (n j : Nat) (h : j < l.length) : (cellsW l n)[j]? = some (.int .u32 (wN (l.getD j 0) : Int)) := by
  unfold cellsW
  rw [List.getElem?_append_left (by simpa using h)]
  simp [h, wvN]
theorem cellsW_zero (l : List UInt32) (n j : Nat) (h : l.length ≤ j) (h2 : j < n) : (cellsW l n)[j]? = some (.int .u32 0) := by
  unfold cellsW
  rw [List.getElem?_append_right (by simpa using h), List.getElem?_replicate, if_pos (by simp; omega)]
theorem cellsW_set (l : List UInt32) (n : Nat) (x : UInt32) (h : l.length < n) : (cellsW l n).set l.length (wvN x) = cellsW (l ++ [x]) n := by
  unfold cellsW
  obtain ⟨m, hm⟩ : ∃ m, n - l.length = m + 1 := ⟨n - l.length - 1, by omega⟩
  have hm2 : n - (l ++ [x]).length = m := by simp; omega
  rw [hm, hm2, List.set_append_right _ _ (by simp)]
  simp [List.replicate_succ]
theorem cellsW_one (l : List UInt32) (n : Nat) : (cellsW l n).toArray.all (·.oneCell') = true := by
  refine all_oneCell_toArray fun v hv => ?_
  simp only [cellsW, List.mem_append, List.mem_map, List.mem_replicate] at hv
  rcases hv with ⟨x, _, rfl⟩ | ⟨_, rfl⟩ <;> rfl
theorem words_zero (W : World) : (zeroValue 82).run Tryd.prog W = .ok (.agg (cellsW [] 64).toArray) W := run_zero_at (by kernel_rfl) W
theorem blk_set {w : World} {g k : Nat} {l : List UInt32} {t : TypeId} {x : UInt32} (h : Blk w g t (cellsW l 64).toArray) (hk : l.length = k) (h2 : k < 64) : Blk (w.setCell ⟨g, k, none⟩ (.int .u32 (wN x : Int))) g t (cellsW (l ++ [x]) 64).toArray := by
  have hs := h.set k (wvN x)
  have e : (cellsW l 64).toArray.setIfInBounds k (wvN x) = (cellsW (l ++ [x]) 64).toArray := by
    rw [List.setIfInBounds_toArray, ← hk, cellsW_set _ _ _ (by omega)]
  rw [e] at hs
  exact hs
theorem cell_set_ne {w : World} {g i j : Nat} {t : TypeId} {cs : Array Value} (h : Blk w g t cs) (hne : i ≠ j) (v : Value) : (w.setCell ⟨g, i, none⟩ v).cell? ⟨g, j, none⟩ = w.cell? ⟨g, j, none⟩ := by
  rw [(h.set i v).cell, h.cell]
  simp [hne]
theorem rb_sub {w : World} {bb oo : Nat} {b : List UInt8} (hr : RB w (some ⟨bb, oo, none⟩) b) (i n : Nat) : RB w (some ⟨bb, oo + i, none⟩) ((b.drop i).take n) := by
  intro j hj
  simp only [List.length_take, List.length_drop] at hj
  obtain ⟨b2, o2, e, hc⟩ := hr (i + j) (by omega)
  cases e
  refine ⟨_, _, rfl, ?_⟩
  rw [Nat.add_assoc, hc]
  simp
theorem sched_lo (b : List UInt8) (k : Nat) (h : k < 16) : sched b (k + 1) = sched b k ++ [be32 b (4 * k)] := by rw [sched, if_pos h]
theorem sched_hi (b : List UInt8) (m : Nat) : sched b (m + 16 + 1) = sched b (m + 16) ++ [(sched b (m + 16)).getD m 0 + sg0 ((sched b (m + 16)).getD (m + 1) 0) + (sched b (m + 16)).getD (m + 9) 0 + sg1 ((sched b (m + 16)).getD (m + 14) 0)] := by
  rw [sched, if_neg (by omega), show m + 16 - 16 = m from by omega, show m + 16 - 15 = m + 1 from by omega, show m + 16 - 7 = m + 9 from by omega, show m + 16 - 2 = m + 14 from by omega]

set_option maxRecDepth 100000 in
set_option maxHeartbeats 1000000 in
theorem spread_any (bb oo c : Nat) (b : List UInt8) (w : World) (hl : b.length = 64) (hr : RB w (some ⟨bb, oo, none⟩) b) (hc : 64 ≤ c) (hc2 : c ≤ 9223372036854775807) :
    Calls Tryd.prog 82 #[.slice (some ⟨bb, oo, none⟩) 64 c] w fun e w' => e = .returned (.agg (cellsW (sched b 64) 64).toArray) ∧ Below w.heap.size w w' := by
  have HL := Lib.hid hl
  have HR := Lib.hid hr
  have hzv := words_zero
  have hsz : (Tryd.prog.info? 82).map (·.size) = some (cellsW (sched b 64) 64).toArray.size := by rw [List.size_toArray, cellsW_len _ _ (by rw [sched_len]; omega)]; kernel_rfl
  have hb2 := (Blk.new w 82 (cellsW [] 64).toArray).alloc (.cells (cellsW [] 64).toArray 82)
  have hb3 := Blk.new (w.alloc (.cells (cellsW [] 64).toArray 82)) 82 (cellsW [] 64).toArray
  rw [World.size_alloc] at hb3
  have HB2 := Lib.hid hb2
  have HB3 := Lib.hid hb3
  have HSZ := Lib.hid hsz
  clear hl hr hb2 hb3 hsz
  go_enter Tryd.func82, Tryd.ntmps82
  go_wp2_with fail
  go_loopw [10] (fun i wr => ∃ k : Nat, k ≤ 16 ∧ i = .int .i64 (k : Int) ∧ Blk wr (w.heap.size + 1) 82 (cellsW (sched b k) 64).toArray ∧ Blk wr w.heap.size 82 (cellsW [] 64).toArray ∧ Below w.heap.size w wr) (fun i _ => 16 - (intOf i).toNat)
  case atStart => exact ⟨0, by omega, rfl, HB3.out, HB2.out, by go_grown⟩
  case round =>
    obtain ⟨k, hk, rfl, h3, h2, hbw⟩ := hrel
    have HN3 := Lib.hid h3
    have HN2 := Lib.hid h2
    have HBW := Lib.hid hbw
    have hrw := HR.out.below hbw
    have HRW := Lib.hid hrw
    clear h3 h2 hbw hrw HB2 HB3
    by_cases hlt : k < 16
    · have hsub := rb_sub HRW.out (4 * k) 4
      have hbe := beN_be32 b (4 * k) (by rw [HL.out]; omega)
      have HBE := Lib.hid hbe
      have HSUB := Lib.hid hsub
      have hs := sched_lo b k hlt
      have HS := Lib.hid hs
      have hwl := wN_lt (be32 b (4 * k))
      have hcc := HN3.out.cell k
      rw [List.getElem?_toArray, cellsW_zero _ _ _ (by rw [sched_len]; omega) (by omega)] at hcc
      have hfr := HN3.out.free k
      clear hsub hbe hs
      go_wp2_with fail
      refine (big4_any (some ⟨bb, oo + 4 * k, none⟩) _ ((b.drop (4 * k)).take 4) _ (by have := HL.out; simp; omega) HSUB.out).mono ?_
      rintro e w2 ⟨rfl, rfl⟩
      rw [HBE.out]
      generalize be32 b (4 * k) = x at *
      go_wp2
      refine ⟨⟨k + 1, by omega, by go_num, ?_, HN2.out.far (by simp) _, HBW.out.setCell (by simp) _⟩, by simp [intOf]; omega⟩
      rw [HS.out]
      exact blk_set HN3.out (sched_len _ _) (by omega)
    · have h16 : k = 16 := by omega
      have h3 := HN3.out
      rw [h16] at h3
      have HM3 := Lib.hid h3
      have hk16 : (16 : Int) ≤ (k : Int) := by omega
      clear h3 h16 HN3
      go_wp2_with fail
      go_loopw [5] (fun i wr => ∃ m : Nat, m ≤ 48 ∧ i = .int .i64 ((m : Int) + 16) ∧ Blk wr (w.heap.size + 1) 82 (cellsW (sched b (m + 16)) 64).toArray ∧ Blk wr w.heap.size 82 (cellsW [] 64).toArray ∧ Below w.heap.size w wr) (fun i _ => 64 - (intOf i).toNat)
      case atStart => exact ⟨0, by omega, rfl, HM3.out, HN2.out, HBW.out⟩
      case round =>
        obtain ⟨m, hm, rfl, h3, h2, hbw⟩ := hrel
        have HP3 := Lib.hid h3
        have HP2 := Lib.hid h2
        have HPW := Lib.hid hbw
        clear h3 h2 hbw HM3 HN2 HBW HRW
        by_cases hlt2 : m < 48
        · have hs := sched_hi b m
          have HS := Lib.hid hs
          have hcell : ∀ j, j < m + 16 → wr.cell? ⟨w.heap.size + 1, j, none⟩ = some (.int .u32 (wN ((sched b (m + 16)).getD j 0) : Int)) := by
            intro j hj
            rw [HP3.out.cell, List.getElem?_toArray, cellsW_get _ _ _ (by rw [sched_len]; exact hj)]
          have c0 := hcell m (by omega)
          have c1 := hcell (m + 1) (by omega)
          have c9 := hcell (m + 9) (by omega)
          have c14 := hcell (m + 14) (by omega)
          have cz := HP3.out.cell (m + 16)
          rw [List.getElem?_toArray, cellsW_zero _ _ _ (by rw [sched_len]; omega) (by omega)] at cz
          have hfr := HP3.out.free (m + 16)
          generalize (sched b (m + 16)).getD m 0 = x0 at *
          generalize (sched b (m + 16)).getD (m + 1) 0 = x1 at *
          generalize (sched b (m + 16)).getD (m + 9) 0 = x9 at *
          generalize (sched b (m + 16)).getD (m + 14) 0 = x14 at *
          have HC0 := Lib.hid c0
          have HC9 := Lib.hid c9
          have HCZ := Lib.hid cz
          have HFR := Lib.hid hfr
          have hxor := r_xor
          have hs8 := r_sh8
          have hs10 := r_sh1024
          clear hs hcell
          go_wp2_with fail
          go_quiet (fail)

          go_wp2_with fail
          refine (rot_c x1 7 (-7) rfl (by omega) _).mono ?_
          rintro e w' ⟨rfl, rfl⟩
          go_wp2_with fail
          refine (rot_c x1 18 (-18) rfl (by omega) _).mono ?_
          rintro e w' ⟨rfl, rfl⟩
          go_wp2_with fail
          refine (rot_c x14 17 (-17) rfl (by omega) _).mono ?_
          rintro e w' ⟨rfl, rfl⟩
          go_wp2_with fail
          refine (rot_c x14 19 (-19) rfl (by omega) _).mono ?_
          rintro e w' ⟨rfl, rfl⟩
          go_wp2_with fail
          clear c0 c1 c9 c14 cz hfr hs8 hs10 hxor
          have hadd := r_addw
          refine wp_region_held_drew (S := fun W => W.cell? ⟨w.heap.size + 1, m, none⟩ = some (.int .u32 (wN x0 : Int)) ∧ W.cell? ⟨w.heap.size + 1, m + 9, none⟩ = some (.int .u32 (wN x9 : Int))) (by kernel_rfl) ⟨by simpa using HC0.out, by simpa using HC9.out⟩ (fun hHeld => ?_)
          refine wpAnyH_take (i := 0) (v := .int .i64 ((m : Int) + 16)) rfl (by kernel_rfl) (by kernel_rfl) (by kernel_rfl) (fun _ _ _ h => h) (Or.inl ⟨by rfl, fun W hW => ?_⟩) hHeld ?_
          · rfl
          try simp only [Act.put, List.getElem_toArray, List.getElem_cons_succ, List.getElem_cons_zero, List.setIfInBounds_toArray, List.set_cons_succ, List.set_cons_zero]
          refine wpAnyH_take (i := 1) (v := .int .i64 ((m : Int) + 16)) rfl (by kernel_rfl) (by kernel_rfl) (by kernel_rfl) (fun _ _ _ h => h) (Or.inl ⟨by rfl, fun W hW => ?_⟩) hHeld ?_
          · rfl
          try simp only [Act.put, List.getElem_toArray, List.getElem_cons_succ, List.getElem_cons_zero, List.setIfInBounds_toArray, List.set_cons_succ, List.set_cons_zero]
          refine wpAnyH_take (i := 2) (v := .int .i64 (m : Int)) rfl (by kernel_rfl) (by kernel_rfl) (by kernel_rfl) (fun _ _ _ h => h) (Or.inl ⟨by rfl, fun W hW => ?_⟩) hHeld ?_
          · (go_simp; go_arith)
          try simp only [Act.put, List.getElem_toArray, List.getElem_cons_succ, List.getElem_cons_zero, List.setIfInBounds_toArray, List.set_cons_succ, List.set_cons_zero]
          refine wpAnyH_take (i := 3) (v := .pointer (some ⟨w.heap.size + 1, m, none⟩)) rfl (by kernel_rfl) (by kernel_rfl) (by kernel_rfl) (fun _ _ _ h => h) (Or.inl ⟨by rfl, fun W hW => ?_⟩) hHeld ?_
          · (go_simp; try omega)
          try simp only [Act.put, List.getElem_toArray, List.getElem_cons_succ, List.getElem_cons_zero, List.setIfInBounds_toArray, List.set_cons_succ, List.set_cons_zero]
          refine wpAnyH_take (i := 4) (v := .int .u32 (wN (x0) : Int)) rfl (by kernel_rfl) (by kernel_rfl) (by kernel_rfl) (fun _ _ _ h => h) (Or.inl ⟨by rfl, fun W hW => ?_⟩) hHeld ?_
          · (have hW1 := hW.1; go_simp)
          try simp only [Act.put, List.getElem_toArray, List.getElem_cons_succ, List.getElem_cons_zero, List.setIfInBounds_toArray, List.set_cons_succ, List.set_cons_zero]
          refine wpAnyH_take (i := 5) (v := .int .u32 (wN (sg0 x1) : Int)) rfl (by kernel_rfl) (by kernel_rfl) (by kernel_rfl) (fun _ _ _ h => h) (Or.inl ⟨by rfl, fun W hW => ?_⟩) hHeld ?_
          · rfl
          try simp only [Act.put, List.getElem_toArray, List.getElem_cons_succ, List.getElem_cons_zero, List.setIfInBounds_toArray, List.set_cons_succ, List.set_cons_zero]
          refine wpAnyH_take (i := 6) (v := .int .u32 (wN (x0 + sg0 x1) : Int)) rfl (by kernel_rfl) (by kernel_rfl) (by kernel_rfl) (fun _ _ _ h => h) (Or.inl ⟨by rfl, fun W hW => ?_⟩) hHeld ?_
          · go_simp
          try simp only [Act.put, List.getElem_toArray, List.getElem_cons_succ, List.getElem_cons_zero, List.setIfInBounds_toArray, List.set_cons_succ, List.set_cons_zero]
          refine wpAnyH_take (i := 7) (v := .int .i64 ((m : Int) + 16)) rfl (by kernel_rfl) (by kernel_rfl) (by kernel_rfl) (fun _ _ _ h => h) (Or.inl ⟨by rfl, fun W hW => ?_⟩) hHeld ?_
          · rfl
          try simp only [Act.put, List.getElem_toArray, List.getElem_cons_succ, List.getElem_cons_zero, List.setIfInBounds_toArray, List.set_cons_succ, List.set_cons_zero]
          refine wpAnyH_take (i := 8) (v := .int .i64 ((m : Int) + 9)) rfl (by kernel_rfl) (by kernel_rfl) (by kernel_rfl) (fun _ _ _ h => h) (Or.inl ⟨by rfl, fun W hW => ?_⟩) hHeld ?_
          · (go_simp; go_arith)
          try simp only [Act.put, List.getElem_toArray, List.getElem_cons_succ, List.getElem_cons_zero, List.setIfInBounds_toArray, List.set_cons_succ, List.set_cons_zero]
          refine wpAnyH_take (i := 9) (v := .pointer (some ⟨w.heap.size + 1, m + 9, none⟩)) rfl (by kernel_rfl) (by kernel_rfl) (by kernel_rfl) (fun _ _ _ h => h) (Or.inl ⟨by rfl, fun W hW => ?_⟩) hHeld ?_
          · (have i1 : (0 : Int) ≤ (m : Int) + 9 := (by omega); have i2 : (m : Int) + 9 < 64 := (by omega); go_simp; try omega)
          try simp only [Act.put, List.getElem_toArray, List.getElem_cons_succ, List.getElem_cons_zero, List.setIfInBounds_toArray, List.set_cons_succ, List.set_cons_zero]
          refine wpAnyH_take (i := 10) (v := .int .u32 (wN (x9) : Int)) rfl (by kernel_rfl) (by kernel_rfl) (by kernel_rfl) (fun _ _ _ h => h) (Or.inl ⟨by rfl, fun W hW => ?_⟩) hHeld ?_
          · (have hW1 := hW.2; go_simp)
          try simp only [Act.put, List.getElem_toArray, List.getElem_cons_succ, List.getElem_cons_zero, List.setIfInBounds_toArray, List.set_cons_succ, List.set_cons_zero]
          refine wpAnyH_take (i := 11) (v := .int .u32 (wN (x0 + sg0 x1 + x9) : Int)) rfl (by kernel_rfl) (by kernel_rfl) (by kernel_rfl) (fun _ _ _ h => h) (Or.inl ⟨by rfl, fun W hW => ?_⟩) hHeld ?_
          · go_simp
          try simp only [Act.put, List.getElem_toArray, List.getElem_cons_succ, List.getElem_cons_zero, List.setIfInBounds_toArray, List.set_cons_succ, List.set_cons_zero]
          refine wpAnyH_take (i := 12) (v := .int .u32 (wN (sg1 x14) : Int)) rfl (by kernel_rfl) (by kernel_rfl) (by kernel_rfl) (fun _ _ _ h => h) (Or.inl ⟨by rfl, fun W hW => ?_⟩) hHeld ?_
          · rfl
          try simp only [Act.put, List.getElem_toArray, List.getElem_cons_succ, List.getElem_cons_zero, List.setIfInBounds_toArray, List.set_cons_succ, List.set_cons_zero]
          refine wpAnyH_take (i := 13) (v := .int .u32 (wN (x0 + sg0 x1 + x9 + sg1 x14) : Int)) rfl (by kernel_rfl) (by kernel_rfl) (by kernel_rfl) (fun _ _ _ h => h) (Or.inl ⟨by rfl, fun W hW => ?_⟩) hHeld ?_
          · go_simp
          try simp only [Act.put, List.getElem_toArray, List.getElem_cons_succ, List.getElem_cons_zero, List.setIfInBounds_toArray, List.set_cons_succ, List.set_cons_zero]
          refine wpAnyH_take (i := 14) (v := .pointer (some ⟨w.heap.size + 1, m + 16, none⟩)) rfl (by kernel_rfl) (by kernel_rfl) (by kernel_rfl) (fun _ _ _ h => h) (Or.inl ⟨by rfl, fun W hW => ?_⟩) hHeld ?_
          · (have i1 : (0 : Int) ≤ (m : Int) + 16 := (by omega); have i2 : (m : Int) + 16 < 64 := (by omega); go_simp; try omega)
          try simp only [Act.put, List.getElem_toArray, List.getElem_cons_succ, List.getElem_cons_zero, List.setIfInBounds_toArray, List.set_cons_succ, List.set_cons_zero]
          refine wpAnyH_ready (rs := [15]) (by kernel_rfl) (by simp) ?_
          refine AllReadyH.cons rfl (fun K hK => ?_) AllReadyH.nil
          have hczd := HCZ.out
          have hfrd := HFR.out
          go_simp
          refine hK.out _ _ ⟨(cell_set_ne (w := wr.drewN (nq + 1)) HP3.out (by omega) _).trans HC0.out, (cell_set_ne (w := wr.drewN (nq + 1)) HP3.out (by omega) _).trans HC9.out⟩ (fun hHeld2 => ?_)
          clear hK K hHeld
          try simp only [Act.put, List.getElem_toArray, List.getElem_cons_succ, List.getElem_cons_zero, List.setIfInBounds_toArray, List.set_cons_succ, List.set_cons_zero]
          refine wpAnyH_done (by kernel_rfl) ?_ _
          clear hHeld2
          go_wp2
          refine ⟨⟨m + 1, by omega, by go_num, ?_, ?_, ?_⟩, by simp [intOf]; omega⟩
          · have e := HS.out
            rw [show m + 1 + 16 = m + 16 + 1 from by omega, e]
            exact blk_set (w := wr.drewN (nq + 1)) HP3.out (sched_len _ _) (by omega)
          · exact Blk.far (w := wr.drewN (nq + 1)) (p := ⟨w.heap.size + 1, m + 16, none⟩) HP2.out (show w.heap.size ≠ w.heap.size + 1 by omega) _
          · exact (bel_drewN HPW.out (nq + 1)).setCell (by simp) _
        · obtain rfl : m = 48 := by omega
          have h3 := HP3.out
          have h2 := HP2.out
          unfold Blk at h3 h2
          go_wp2_with (first | (refine wpList_load_row rfl 82 _ rfl (w.heap.size + 1) rfl 82 _ (0, 0) _ h3 Tryd.underlying82 rfl HSZ.out ?_) | (refine wpList_store_row rfl 82 _ _ rfl w.heap.size (cellsW (sched b 64) 64).toArray rfl rfl 82 (cellsW [] 64).toArray h2 HSZ.out (by simp [cellsW_len, sched_len]) (cellsW_one _ _) ?_) | fail)
          refine bodyPost_ret (results_cell_row Tryd.results82 _ _ w.heap.size 82 (cellsW (sched b 64) 64).toArray (0, 0) _ rfl (setRow_heap _ _ (cellsW [] 64).toArray _ _ (0, 0) h2) Tryd.underlying82 rfl HSZ.out) rfl ?_
          exact ⟨rfl, below_setRow HPW.out (Nat.le_refl _) _⟩

end Go.Proofs.YtdkadlifjmmcbaaDoor
