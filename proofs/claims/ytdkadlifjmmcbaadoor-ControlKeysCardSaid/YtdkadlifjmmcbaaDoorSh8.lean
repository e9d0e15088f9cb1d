/- The walk of hash.Sum: it is SHA-256 of its parts, one behind the other. -/
import Derived.Test.YtdkadlifjmmcbaaDoorSh7
namespace Go.Proofs.YtdkadlifjmmcbaaDoor
open Go.RowKit
set_option linter.unusedSimpArgs false
set_option linter.unusedVariables false

theorem blocks_succ (v : St) (m : List UInt8) (k : Nat) : v.blocks m (k + 1) = (v.blocks m k).mix ((m.drop (64 * k)).take 64) := rfl

/-- SHA-256's table as it lies -/
def TabOK (w : World) : Prop := ∀ j, j < 64 → w.cell? ⟨1, j, none⟩ = some (.int .u32 (wN (shaK.getD j 0) : Int))
theorem TabOK.below {w w' : World} (h : TabOK w) (hb : Below w.heap.size w w') : TabOK w' := fun j hj => (hb.cell (cell_lt (h j hj))).trans (h j hj)

set_option maxRecDepth 100000 in
set_option maxHeartbeats 2000000 in
theorem sum_any (b o n c : Nat) (vs : List Value) (ls : List (List UInt8)) (w : World) (hn : ls.length = n) (h2 : 2 ≤ n) (hP : ∀ W, Below w.heap.size w W → Lib.PartsAt W ⟨b, o, none⟩ vs ls) (hcap : n ≤ c) (hn2 : n ≤ 1000) (hlen : ls.flatten.length ≤ 1048576) (hT : TabOK w) :
    Calls Tryd.prog 48 #[.slice (some ⟨b, o, none⟩) n c] w fun e w' => e = .returned (.agg (bytesL (shaB ls.flatten)).toArray) ∧ Below w.heap.size w w' := by
  have hjoin := fun W hW => join_any b o n c vs ls W hn h2 (hP W hW) hcap (by omega) (by omega)
  have hpl := padM_len ls.flatten
  have hp64 := padM_64 ls.flatten
  have hzb : padZ ls.flatten.length < 64 := by unfold padZ; omega
  have hpad := fun A c' W hr => padded_any A ls.flatten.length c' ls.flatten W rfl hr (by omega)
  have hfin : ∀ s, s = St.start.blocks (padM ls.flatten) ((padM ls.flatten).length / 64) → shaB ls.flatten = (s.list.map bytes4).flatten := by rintro s rfl; rfl
  have hHl := shaB_len ls.flatten
  have hst0 : St.start.blocks (padM ls.flatten) 0 = St.start := rfl
  have hstep := fun k => blocks_succ St.start (padM ls.flatten) k
  generalize shaB ls.flatten = H at *
  generalize padM ls.flatten = pm at *
  generalize ls.flatten = m at *
  generalize hS0 : St.start = S0 at *
  have hsta := fun W => start_any W
  rw [hS0] at hsta
  have HJ := Lib.hid hjoin
  have HPD := Lib.hid hpad
  have HFIN := Lib.hid hfin
  have HST0 := Lib.hid hst0
  have HSTEP := Lib.hid hstep
  have HTT := Lib.hid hT
  have HSTA := Lib.hid hsta
  have hzv := hash_zero
  have hzs := st_zero
  have hszS : ∀ s : St, (Tryd.prog.info? 108).map (·.size) = some (stA s).size := fun s => by kernel_rfl
  have hszH : (Tryd.prog.info? 23).map (·.size) = some (bytesL H).toArray.size := hash_size hHl
  have hszHZ : (bytesL (zeros 32)).toArray.size = (bytesL H).toArray.size := by rw [List.size_toArray, List.size_toArray, bytesL_len, bytesL_len, hHl, zeros_len]
  have HSZ := Lib.hid hszS
  clear hjoin hpad hfin hst0 hstep hT hsta hP hS0 hszS
  go_enter Tryd.func48, Tryd.ntmps48
  go_wp2_with fail
  refine (HSTA.out _).mono ?_
  rintro e w1 ⟨rfl, bel1⟩
  have hb1 : Below w.heap.size w w1 := ((Below.refl _ w).alloc (Nat.le_refl _) _).trans (bel1.mono (by simp))
  have hres := (Blk.new w 23 (bytesL (zeros 32)).toArray).next bel1
  have hnew := heap_alloc_new w1 (.cells #[.int .u32 0, .int .u32 0, .int .u32 0, .int .u32 0, .int .u32 0, .int .u32 0, .int .u32 0, .int .u32 0] 108)
  have hwr := World.setRow_alloc_new w1 #[.int .u32 0, .int .u32 0, .int .u32 0, .int .u32 0, .int .u32 0, .int .u32 0, .int .u32 0, .int .u32 0] (stA S0) 108
  have hszS0 := HSZ.out S0
  have hst := Blk.new w1 108 (stA S0)
  have hb2 := hb1.alloc hb1.size (.cells (stA S0) 108)
  have hres2 := hres.alloc (.cells (stA S0) 108)
  have HB2 := Lib.hid hb2
  have HRS := Lib.hid hres2
  have HSB := Lib.hid hst
  have hw1 : w.heap.size + 1 ≤ w1.heap.size := by have := bel1.size; simpa using this
  clear bel1 hb1 hres hst hb2 hres2
  go_wp2_with (first | (refine wpList_store_row rfl 108 _ _ rfl w1.heap.size (stA S0) rfl rfl 108 _ hnew hszS0 rfl (stA_one S0) ?_; rw [hwr]) | fail)
  clear hnew hwr
  refine (HJ.out _ HB2.out).mono ?_
  rintro e w2 ⟨A2, c2, rfl, hr2, bel2⟩
  have hb3 := HB2.out.trans (bel2.mono HB2.out.size)
  have HB3 := Lib.hid hb3
  have HRS3 := Lib.hid (HRS.out.next bel2)
  have HSB3 := Lib.hid (HSB.out.next bel2)
  have HR2 := Lib.hid hr2
  clear hb3 hr2 bel2 HRS HSB HB2
  go_wp2_with fail
  refine (HPD.out A2 c2 _ HR2.out).mono ?_
  rintro e w3 ⟨A3, c3, rfl, own3, fr3, bel3⟩
  have hb4 := HB3.out.trans (bel3.mono HB3.out.size)
  obtain ⟨gp, op, rfl, hgl, _⟩ := own3.rb.head (by omega)
  have hcp := own3.cap
  have hcm : c3 ≤ maxLen := by
    rcases own3.2.2 with ⟨e, _⟩ | ⟨g2, cap, cur, e, _, _, _, hm, _⟩
    · cases e
    · injection e with _ _ e; omega
  have hgp : gp ≠ w1.heap.size := by
    have h1 := fr3 gp rfl
    have h2 := HSB3.out.lt
    omega
  have HR3 := Lib.hid own3.rb
  have HB4 := Lib.hid hb4
  have HRS4 := Lib.hid (HRS3.out.next bel3)
  have HSB4 := Lib.hid (HSB3.out.next bel3)
  have HF3 := Lib.hid (fr3 gp rfl)
  simp only [maxLen] at hcm
  clear hb4 bel3 own3 fr3 HB3 HRS3 HSB3 HR2
  go_wp2_with fail
  go_loopw [5] (fun i wr => ∃ (k q : Nat) (s : St), q = 64 * k ∧ q ≤ pm.length ∧ i = .int .i64 (q : Int) ∧ s = S0.blocks pm k ∧ Blk wr w1.heap.size 108 (stA s) ∧ Blk wr w.heap.size 23 (bytesL (zeros 32)).toArray ∧ RB wr (some ⟨gp, op, none⟩) pm ∧ Below w.heap.size w wr ∧ w3.heap.size ≤ wr.heap.size) (fun i _ => pm.length - (intOf i).toNat)
  case atStart => exact ⟨0, 0, S0, rfl, by omega, rfl, HST0.out.symm, HSB4.out, HRS4.out, HR3.out, HB4.out, Nat.le_refl _⟩
  case round =>
    obtain ⟨k, q, s, hq, hqp, rfl, hs, h1, h2, h3, hbw, hsz3⟩ := hrel
    have HS := Lib.hid hs
    have H1 := Lib.hid h1
    have H2 := Lib.hid h2
    have H3 := Lib.hid h3
    have HBW := Lib.hid hbw
    have htab := HTT.out.below hbw
    have HTB := Lib.hid htab
    have HQ := Lib.hid hq
    clear hs h1 h2 h3 hbw htab HSB4 HRS4 HR3
    by_cases hlt : q < pm.length
    · have hq64 : q + 64 ≤ pm.length := by have := HQ.out; omega
      have hqm : q < 1048576 + 200 := by omega
      have hst := HSTEP.out k
      rw [← HS.out, ← hq] at hst
      have HST := Lib.hid hst
      clear hq hst
      have hmix := mix_any w1.heap.size s gp (op + q) (c3 - q) ((pm.drop q).take 64) wr (by simp; omega) (rb_sub H3.out q 64) (by omega) (by omega) H1.out HTB.out
      have HMX := Lib.hid hmix
      clear hmix
      go_wp2_with fail
      refine HMX.out.mono ?_
      rintro e w4 ⟨rfl, hB, hK⟩
      have HKB := Lib.hid hB
      have HKK := Lib.hid hK
      clear hB hK
      go_wp2
      refine ⟨⟨k + 1, q + 64, _, by have := HQ.out; omega, hq64, by go_num, HST.out.symm, HKB.out, HKK.out.blk H2.out (by show w.heap.size ≠ w1.heap.size; omega), HKK.out.rb H3.out (fun r hr => by cases hr; exact hgp), HBW.out.trans (HKK.out.below (fun i hi => by show i ≠ w1.heap.size; omega) HBW.out.size), Nat.le_trans hsz3 HKK.out.size⟩, by simp [intOf]; omega⟩
    · have hqe : q = pm.length := by omega
      have hk : k = pm.length / 64 := by omega
      have hsf := HS.out
      rw [hk] at hsf
      have hfin := HFIN.out s hsf
      have HFF := Lib.hid hfin
      have hqq : ¬ (q : Int) < (pm.length : Int) := by omega
      clear hk hsf hfin hqe hq HS HFIN
      obtain ⟨s0, s1, s2, s3, s4, s5, s6, s7⟩ := s
      obtain ⟨iu, hiu, hius⟩ := info_size (P := Tryd.prog) (t := 80) (n := 1) (by kernel_rfl)
      have hix := fun (W : World) (j : Nat) (v : Value) (hj : j < 8) hv => run_index_arr (P := Tryd.prog) W 108 80 8 (stA ⟨s0, s1, s2, s3, s4, s5, s6, s7⟩) .i64 .u32 j v iu Tryd.underlying108 hiu hius Tryd.underlying80 hj hv
      have hx0 := fun W => hix W 0 (.int .u32 (wN s0 : Int)) (by omega) rfl
      have hx1 := fun W => hix W 1 (.int .u32 (wN s1 : Int)) (by omega) rfl
      have hx2 := fun W => hix W 2 (.int .u32 (wN s2 : Int)) (by omega) rfl
      have hx3 := fun W => hix W 3 (.int .u32 (wN s3 : Int)) (by omega) rfl
      have hx4 := fun W => hix W 4 (.int .u32 (wN s4 : Int)) (by omega) rfl
      have hx5 := fun W => hix W 5 (.int .u32 (wN s5 : Int)) (by omega) rfl
      have hx6 := fun W => hix W 6 (.int .u32 (wN s6 : Int)) (by omega) rfl
      have hx7 := fun W => hix W 7 (.int .u32 (wN s7 : Int)) (by omega) rfl
      clear hix hiu hius
      have hl0 := wN_lt s0
      have hl1 := wN_lt s1
      have hl2 := wN_lt s2
      have hl3 := wN_lt s3
      have hl4 := wN_lt s4
      have hl5 := wN_lt s5
      have hl6 := wN_lt s6
      have hl7 := wN_lt s7
      simp only [Int.cast_ofNat_Int] at hx0 hx1 hx2 hx3 hx4 hx5 hx6 hx7
      have hsr := (H1.out.alloc (.cells (bytesL (zeros 32)).toArray 23))
      unfold Blk at hsr
      have hszs := HSZ.out ⟨s0, s1, s2, s3, s4, s5, s6, s7⟩
      have HG0 := Lib.hid (show Blk (wr.alloc (.cells (bytesL (zeros 32)).toArray 23)) wr.heap.size 23 (bytesL ([] ++ (0 : UInt8) :: 0 :: 0 :: 0 :: zeros 28)).toArray from Blk.new _ _ _)
      have HM0 := Lib.hid (Keep.refl (· ≠ wr.heap.size) (wr.alloc (.cells (bytesL (zeros 32)).toArray 23)))
      go_wp2_with (first | (refine wpList_load_row rfl 108 _ rfl w1.heap.size rfl 108 _ (0, 0) _ hsr Tryd.underlying108 rfl hszs ?_) | fail)
      refine wp_loop_rounds 9 ?_
      rw [rounds_succ]
      go_wp2_with fail
      refine (putbig_any wr.heap.size 0 32 23 ([] : List UInt8) (zeros 28) 0 0 0 0 s0 _ (by simp [bytes4]) HG0.out (by omega)).mono ?_
      rintro e y1 ⟨rfl, hB, hK⟩
      have HG1 := Lib.hid (show Blk y1 wr.heap.size 23 (bytesL ((([] : List UInt8) ++ bytes4 s0) ++ (0 : UInt8) :: 0 :: 0 :: 0 :: zeros 24)).toArray by rw [List.append_assoc]; exact hB)
      have HM1 := Lib.hid (HM0.out.trans hK)
      clear hB hK
      go_wp2_with fail
      rw [rounds_succ]
      go_wp2_with fail
      refine (putbig_any wr.heap.size 4 28 23 (([] : List UInt8) ++ bytes4 s0) (zeros 24) 0 0 0 0 s1 _ (by simp [bytes4]) HG1.out (by omega)).mono ?_
      rintro e y2 ⟨rfl, hB, hK⟩
      have HG2 := Lib.hid (show Blk y2 wr.heap.size 23 (bytesL (((([] : List UInt8) ++ bytes4 s0) ++ bytes4 s1) ++ (0 : UInt8) :: 0 :: 0 :: 0 :: zeros 20)).toArray by rw [List.append_assoc]; exact hB)
      have HM2 := Lib.hid (HM1.out.trans hK)
      clear hB hK
      go_wp2_with fail
      rw [rounds_succ]
      go_wp2_with fail
      refine (putbig_any wr.heap.size 8 24 23 ((([] : List UInt8) ++ bytes4 s0) ++ bytes4 s1) (zeros 20) 0 0 0 0 s2 _ (by simp [bytes4]) HG2.out (by omega)).mono ?_
      rintro e y3 ⟨rfl, hB, hK⟩
      have HG3 := Lib.hid (show Blk y3 wr.heap.size 23 (bytesL ((((([] : List UInt8) ++ bytes4 s0) ++ bytes4 s1) ++ bytes4 s2) ++ (0 : UInt8) :: 0 :: 0 :: 0 :: zeros 16)).toArray by rw [List.append_assoc]; exact hB)
      have HM3 := Lib.hid (HM2.out.trans hK)
      clear hB hK
      go_wp2_with fail
      rw [rounds_succ]
      go_wp2_with fail
      refine (putbig_any wr.heap.size 12 20 23 (((([] : List UInt8) ++ bytes4 s0) ++ bytes4 s1) ++ bytes4 s2) (zeros 16) 0 0 0 0 s3 _ (by simp [bytes4]) HG3.out (by omega)).mono ?_
      rintro e y4 ⟨rfl, hB, hK⟩
      have HG4 := Lib.hid (show Blk y4 wr.heap.size 23 (bytesL (((((([] : List UInt8) ++ bytes4 s0) ++ bytes4 s1) ++ bytes4 s2) ++ bytes4 s3) ++ (0 : UInt8) :: 0 :: 0 :: 0 :: zeros 12)).toArray by rw [List.append_assoc]; exact hB)
      have HM4 := Lib.hid (HM3.out.trans hK)
      clear hB hK
      go_wp2_with fail
      rw [rounds_succ]
      go_wp2_with fail
      refine (putbig_any wr.heap.size 16 16 23 ((((([] : List UInt8) ++ bytes4 s0) ++ bytes4 s1) ++ bytes4 s2) ++ bytes4 s3) (zeros 12) 0 0 0 0 s4 _ (by simp [bytes4]) HG4.out (by omega)).mono ?_
      rintro e y5 ⟨rfl, hB, hK⟩
      have HG5 := Lib.hid (show Blk y5 wr.heap.size 23 (bytesL ((((((([] : List UInt8) ++ bytes4 s0) ++ bytes4 s1) ++ bytes4 s2) ++ bytes4 s3) ++ bytes4 s4) ++ (0 : UInt8) :: 0 :: 0 :: 0 :: zeros 8)).toArray by rw [List.append_assoc]; exact hB)
      have HM5 := Lib.hid (HM4.out.trans hK)
      clear hB hK
      go_wp2_with fail
      rw [rounds_succ]
      go_wp2_with fail
      refine (putbig_any wr.heap.size 20 12 23 (((((([] : List UInt8) ++ bytes4 s0) ++ bytes4 s1) ++ bytes4 s2) ++ bytes4 s3) ++ bytes4 s4) (zeros 8) 0 0 0 0 s5 _ (by simp [bytes4]) HG5.out (by omega)).mono ?_
      rintro e y6 ⟨rfl, hB, hK⟩
      have HG6 := Lib.hid (show Blk y6 wr.heap.size 23 (bytesL (((((((([] : List UInt8) ++ bytes4 s0) ++ bytes4 s1) ++ bytes4 s2) ++ bytes4 s3) ++ bytes4 s4) ++ bytes4 s5) ++ (0 : UInt8) :: 0 :: 0 :: 0 :: zeros 4)).toArray by rw [List.append_assoc]; exact hB)
      have HM6 := Lib.hid (HM5.out.trans hK)
      clear hB hK
      go_wp2_with fail
      rw [rounds_succ]
      go_wp2_with fail
      refine (putbig_any wr.heap.size 24 8 23 ((((((([] : List UInt8) ++ bytes4 s0) ++ bytes4 s1) ++ bytes4 s2) ++ bytes4 s3) ++ bytes4 s4) ++ bytes4 s5) (zeros 4) 0 0 0 0 s6 _ (by simp [bytes4]) HG6.out (by omega)).mono ?_
      rintro e y7 ⟨rfl, hB, hK⟩
      have HG7 := Lib.hid (show Blk y7 wr.heap.size 23 (bytesL ((((((((([] : List UInt8) ++ bytes4 s0) ++ bytes4 s1) ++ bytes4 s2) ++ bytes4 s3) ++ bytes4 s4) ++ bytes4 s5) ++ bytes4 s6) ++ (0 : UInt8) :: 0 :: 0 :: 0 :: zeros 0)).toArray by rw [List.append_assoc]; exact hB)
      have HM7 := Lib.hid (HM6.out.trans hK)
      clear hB hK
      go_wp2_with fail
      rw [rounds_succ]
      go_wp2_with fail
      refine (putbig_any wr.heap.size 28 4 23 (((((((([] : List UInt8) ++ bytes4 s0) ++ bytes4 s1) ++ bytes4 s2) ++ bytes4 s3) ++ bytes4 s4) ++ bytes4 s5) ++ bytes4 s6) (zeros 0) 0 0 0 0 s7 _ (by simp [bytes4]) HG7.out (by omega)).mono ?_
      rintro e y8 ⟨rfl, hB, hK⟩
      have HG8 := Lib.hid hB
      have HM8 := Lib.hid (HM7.out.trans hK)
      clear hB hK
      go_wp2_with fail
      rw [rounds_succ]
      have hg8 := HG8.out
      have eH : (((((((([] : List UInt8) ++ bytes4 s0) ++ bytes4 s1) ++ bytes4 s2) ++ bytes4 s3) ++ bytes4 s4) ++ bytes4 s5) ++ bytes4 s6) ++ (bytes4 s7 ++ zeros 0) = H := by rw [HFF.out]; simp [St.list, zeros]
      rw [eH] at hg8
      have hr8 := HM8.out.blk (H2.out.alloc (.cells (bytesL (zeros 32)).toArray 23)) (show w.heap.size ≠ wr.heap.size by have := H2.out.lt; omega)
      unfold Blk at hg8 hr8
      clear eH
      go_wp2_with (first | (refine wpList_load_row rfl 23 _ rfl wr.heap.size rfl 23 _ (0, 0) _ hg8 Tryd.underlying23 rfl hszH ?_) | (refine wpList_store_row rfl 23 _ _ rfl w.heap.size (bytesL H).toArray rfl rfl 23 (bytesL (zeros 32)).toArray hr8 hszH hszHZ (bytesL_one H) ?_) | fail)
      refine bodyPost_ret (results_cell_row Tryd.results48 _ _ w.heap.size 23 (bytesL H).toArray (0, 0) _ rfl (setRow_heap _ _ (bytesL (zeros 32)).toArray _ _ (0, 0) hr8) Tryd.underlying23 rfl hszH) rfl ?_
      exact ⟨rfl, below_setRow ((HBW.out.alloc HBW.out.size _).trans (HM8.out.below (fun i hi => by have := HBW.out.size; show i ≠ wr.heap.size; omega) (by have := HBW.out.size; simp; omega))) (Nat.le_refl _) _⟩

end Go.Proofs.YtdkadlifjmmcbaaDoor
