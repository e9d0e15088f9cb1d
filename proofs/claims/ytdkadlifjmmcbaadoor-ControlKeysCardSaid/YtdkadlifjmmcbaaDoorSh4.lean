/- The walk of SHA-256's mix. -/
import Derived.Test.YtdkadlifjmmcbaaDoorSh3
import Derived.StillTailTactics
import Derived.Deep.WholeRow
namespace Go.Proofs.YtdkadlifjmmcbaaDoor
open Go.RowKit
set_option linter.unusedSimpArgs false
set_option linter.unusedVariables false

theorem wpList_load_rowS {P : Program} {ops : Array Oper} {rest : List Oper} {dst : Option Tmp} {t' : TypeId} {pos : String} {after : Array Edge} {ty : TypeId} {x : Operand} {a : Act} {w : World} {Q : Exit → Act → World → Prop}
    (g : Nat) (t : TypeId) (cs : Array Value) (fr : Nat × Nat) (d : TypeDesc) (hg : w.heap[g]? = some (.cells cs t fr)) (hu : P.underlying ty = some d) (hd : (match d with | .struct _ | .array _ _ => true | _ => false) = true) (hi : (P.info? ty).map (·.size) = some cs.size)
    (hx : a.eval x = .pointer (some ⟨g, 0, none⟩)) (h : wpList P ops Q rest (a.put dst (.agg cs)) w) : wpList P ops Q ({ dst := dst, op := .load ty x, type := t', pos := pos, after := after, guard := none } :: rest) a w :=
  wpList_load_row rfl ty x rfl g hx t cs fr d hg hu hd hi h
theorem wpList_store_rowS {P : Program} {ops : Array Oper} {rest : List Oper} {dst : Option Tmp} {t' : TypeId} {pos : String} {after : Array Edge} {ty : TypeId} {x y : Operand} {a : Act} {w : World} {Q : Exit → Act → World → Prop}
    (g : Nat) (cells : Array Value) (t : TypeId) (old : Array Value) (hg : w.heap[g]? = some (.cells old t (0, 0))) (hi : (P.info? ty).map (·.size) = some cells.size) (hold : old.size = cells.size) (h1 : cells.all (·.oneCell') = true)
    (hx : a.eval x = .pointer (some ⟨g, 0, none⟩)) (hy : a.eval y = .agg cells) (h : wpList P ops Q rest (a.put dst undef) (w.setRow g cells)) : wpList P ops Q ({ dst := dst, op := .store ty x y, type := t', pos := pos, after := after, guard := none } :: rest) a w :=
  wpList_store_row rfl ty x y rfl g cells hx hy t old hg hi hold h1 h
theorem quiet_same {P : Program} {f : Nat} {args : Array Value} {w : World} {n : Nat} {v : Value} (h : Calls P f args (w.drewN n) fun e w' => e = .returned v ∧ w.drewN n = w') : Calls P f args (w.drewN n) fun e w'' => e = .returned v ∧ ∃ m, w'' = w.drewN m :=
  h.mono fun e w' ⟨he, hw⟩ => ⟨he, n, hw.symm⟩

/-- a state's cells -/
def stA (v : St) : Array Value := #[.int .u32 (wN v.a : Int), .int .u32 (wN v.b : Int), .int .u32 (wN v.c : Int), .int .u32 (wN v.d : Int), .int .u32 (wN v.e : Int), .int .u32 (wN v.f : Int), .int .u32 (wN v.g : Int), .int .u32 (wN v.h : Int)]
theorem stA_one (v : St) : (stA v).all (·.oneCell') = true := by simp [stA, Value.oneCell']
theorem st_zero (W : World) : (zeroValue 108).run Tryd.prog W = .ok (.agg #[.int .u32 0, .int .u32 0, .int .u32 0, .int .u32 0, .int .u32 0, .int .u32 0, .int .u32 0, .int .u32 0]) W := run_zero_at (by kernel_rfl) W

set_option maxRecDepth 100000 in
set_option maxHeartbeats 1000000 in
theorem mix_any (g : Nat) (v : St) (bb oo c : Nat) (b : List UInt8) (w : World) (hl : b.length = 64) (hr : RB w (some ⟨bb, oo, none⟩) b) (hc : 64 ≤ c) (hc2 : c ≤ 9223372036854775807) (hg : Blk w g 108 (stA v))
    (hT : ∀ j, j < 64 → w.cell? ⟨1, j, none⟩ = some (.int .u32 (wN (shaK.getD j 0) : Int))) :
    Calls Tryd.prog 72 #[.pointer (some ⟨g, 0, none⟩), .slice (some ⟨bb, oo, none⟩) 64 c] w fun e w' => e = .returned (.tuple #[]) ∧ Blk w' g 108 (stA (v.mix b)) ∧ Keep (· ≠ g) w w' := by
  have HG := Lib.hid hg
  have HT := Lib.hid hT
  have hsp := spread_any bb oo c b w hl hr hc hc2
  have hwl := sched_len b 64
  have hfin : ∀ r, r = v.rounds (sched b 64) 64 → v.mix b = v.add r := by rintro r rfl; rfl
  generalize v.mix b = vm at *
  generalize sched b 64 = ws at *
  have HWL := Lib.hid hwl
  have HFIN := Lib.hid hfin
  have HSP := Lib.hid hsp
  have hzv := words_zero
  have hzs := st_zero
  have hszW : (Tryd.prog.info? 82).map (·.size) = some (cellsW ws 64).toArray.size := by rw [List.size_toArray, cellsW_len _ _ (by rw [HWL.out]; omega)]; kernel_rfl
  have hszS : (Tryd.prog.info? 108).map (·.size) = some (stA v).size := by kernel_rfl
  clear hg hT hsp hl hr hwl hfin
  go_enter Tryd.func72, Tryd.ntmps72
  go_wp2_with fail
  refine HSP.out.mono ?_
  rintro e w1 ⟨rfl, bel1⟩
  have hg1 := HG.out.next bel1
  have hnew := heap_alloc_new w1 (.cells (cellsW [] 64).toArray 82)
  have hwr := World.setRow_alloc_new w1 (cellsW [] 64).toArray (cellsW ws 64).toArray 82
  have hgA := hg1.alloc (.cells (cellsW ws 64).toArray 82)
  have hnew2 := heap_alloc_new (w1.alloc (.cells (cellsW ws 64).toArray 82)) (.cells #[.int .u32 0, .int .u32 0, .int .u32 0, .int .u32 0, .int .u32 0, .int .u32 0, .int .u32 0, .int .u32 0] 108)
  have hwr2 := World.setRow_alloc_new (w1.alloc (.cells (cellsW ws 64).toArray 82)) #[.int .u32 0, .int .u32 0, .int .u32 0, .int .u32 0, .int .u32 0, .int .u32 0, .int .u32 0, .int .u32 0] (stA v) 108
  rw [World.size_alloc] at hnew2 hwr2
  unfold Blk at hgA
  have HB1 := Lib.hid bel1
  have HG1 := Lib.hid hg1
  have HW0 := Lib.hid ((Blk.new w1 82 (cellsW ws 64).toArray).alloc (.cells (stA v) 108))
  have hv0 := Blk.new (w1.alloc (.cells (cellsW ws 64).toArray 82)) 108 (stA v)
  rw [World.size_alloc] at hv0
  have HV0 := Lib.hid hv0
  clear bel1 hg1 hv0
  have hso : (cellsW [] 64).toArray.size = (cellsW ws 64).toArray.size := by simp [cellsW_len, HWL.out]
  go_wp2_with (first | ((with_reducible refine wpList_store_rowS w1.heap.size (cellsW ws 64).toArray 82 (cellsW [] 64).toArray hnew hszW hso (cellsW_one _ _) ?_ ?_ ?_); rfl; rfl; rw [hwr]) | ((with_reducible refine wpList_load_rowS g 108 _ (0, 0) _ hgA Tryd.underlying108 ?_ hszS ?_ ?_); rfl; rfl) | ((with_reducible refine wpList_store_rowS (w1.heap.size + 1) (stA v) 108 _ hnew2 hszS ?_ (stA_one v) ?_ ?_ ?_); rfl; rfl; rfl; rw [hwr2]) | fail)
  clear hnew hnew2 hwr hwr2 hgA
  go_loopw [17] (fun i wr => ∃ (k : Nat) (s : St), k ≤ 64 ∧ i = .int .i64 (k : Int) ∧ s = v.rounds ws k ∧ Blk wr (w1.heap.size + 1) 108 (stA s) ∧ Blk wr w1.heap.size 82 (cellsW ws 64).toArray ∧ Blk wr g 108 (stA v) ∧ Below w.heap.size w wr) (fun i _ => 64 - (intOf i).toNat)
  case atStart => exact ⟨0, v, by omega, rfl, rfl, HV0.out, HW0.out, (HG1.out.alloc _).alloc _, (HB1.out.alloc HB1.out.size _).alloc (by have := HB1.out.size; simp; omega) _⟩
  case round =>
    obtain ⟨k, s, hk, rfl, hs, hv, hw, hgg, hbw⟩ := hrel
    have HS := Lib.hid hs
    clear hs
    have HVV := Lib.hid hv
    have HWW := Lib.hid hw
    have HGG := Lib.hid hgg
    have HBW := Lib.hid hbw
    have hg1 := HB1.out.size
    clear hw hgg HV0 HW0 HG1
    by_cases hlt : k < 64
    · have hstep : v.rounds ws (k + 1) = s.step (shaK.getD k 0) (ws.getD k 0) := by rw [HS.out]; rfl
      have ht := HT.out k hlt
      have ht2 := (hbw.cell (cell_lt ht)).trans ht
      have hww := HWW.out.cell k
      rw [List.getElem?_toArray, cellsW_get _ _ _ (by rw [HWL.out]; exact hlt)] at hww
      clear HS
      obtain ⟨sn, hsn0⟩ : ∃ sn, sn = v.rounds ws (k + 1) := ⟨_, rfl⟩
      rw [← hsn0] at hstep
      have HSN0 := Lib.hid hsn0
      clear hsn0
      generalize shaK.getD k 0 = kk at *
      generalize ws.getD k 0 = ww at *
      obtain ⟨s0, s1, s2, s3, s4, s5, s6, s7⟩ := s
      have HST := Lib.hid hstep
      have q0 : wr.cell? ⟨w1.heap.size + 1, 0, none⟩ = some (.int .u32 (wN s0 : Int)) := by rw [hv.cell]; rfl
      have q1 : wr.cell? ⟨w1.heap.size + 1, 1, none⟩ = some (.int .u32 (wN s1 : Int)) := by rw [hv.cell]; rfl
      have q2 : wr.cell? ⟨w1.heap.size + 1, 2, none⟩ = some (.int .u32 (wN s2 : Int)) := by rw [hv.cell]; rfl
      have q3 : wr.cell? ⟨w1.heap.size + 1, 3, none⟩ = some (.int .u32 (wN s3 : Int)) := by rw [hv.cell]; rfl
      have q4 : wr.cell? ⟨w1.heap.size + 1, 4, none⟩ = some (.int .u32 (wN s4 : Int)) := by rw [hv.cell]; rfl
      have q5 : wr.cell? ⟨w1.heap.size + 1, 5, none⟩ = some (.int .u32 (wN s5 : Int)) := by rw [hv.cell]; rfl
      have q6 : wr.cell? ⟨w1.heap.size + 1, 6, none⟩ = some (.int .u32 (wN s6 : Int)) := by rw [hv.cell]; rfl
      have q7 : wr.cell? ⟨w1.heap.size + 1, 7, none⟩ = some (.int .u32 (wN s7 : Int)) := by rw [hv.cell]; rfl
      have hxor := r_xor
      have hand := r_and
      have hadd := r_addw
      have hadd2 := r_add
      have hnot := r_not
      clear hstep ht hv hbw
      go_wp2_with fail
      have R6 := fun W => rot_c s4 6 (-6) rfl (by omega) W
      have R11 := fun W => rot_c s4 11 (-11) rfl (by omega) W
      have R25 := fun W => rot_c s4 25 (-25) rfl (by omega) W
      have HR6 := Lib.hid R6
      have HR11 := Lib.hid R11
      have HR25 := Lib.hid R25
      clear R6 R11 R25
      go_quiet (first | (go_at_call 83; with_reducible exact quiet_same (HR6.out _)) | (go_at_call 83; with_reducible exact quiet_same (HR11.out _)) | (go_at_call 83; with_reducible exact quiet_same (HR25.out _)))
      go_wp2_with fail
      go_quiet (fail)
      have R2 := fun W => rot_c s0 2 (-2) rfl (by omega) W
      have R13 := fun W => rot_c s0 13 (-13) rfl (by omega) W
      have R22 := fun W => rot_c s0 22 (-22) rfl (by omega) W
      have HR2 := Lib.hid R2
      have HR13 := Lib.hid R13
      have HR22 := Lib.hid R22
      clear R2 R13 R22
      go_wp2_with fail
      go_quiet (first | (go_at_call 83; with_reducible exact quiet_add_l (HR2.out _)) | (go_at_call 83; with_reducible exact quiet_add_l (HR13.out _)) | (go_at_call 83; with_reducible exact quiet_add_l (HR22.out _)))
      have hvh : ∀ q, (wr.drewN q).heap[w1.heap.size + 1]? = some (.cells (stA ⟨s0, s1, s2, s3, s4, s5, s6, s7⟩) 108 (0, 0)) := fun q => HVV.out
      have hso8 : (stA ⟨s0, s1, s2, s3, s4, s5, s6, s7⟩).size = (stA sn).size := rfl
      have HVH := Lib.hid hvh
      clear hvh
      have hszN : (Tryd.prog.info? 108).map (·.size) = some (stA sn).size := by kernel_rfl
      have hsn : stA sn = stA (St.step ⟨s0, s1, s2, s3, s4, s5, s6, s7⟩ kk ww) := by rw [HST.out]
      have HSN := Lib.hid hsn
      clear hsn
      go_wp2_with (first | ((with_reducible refine wpList_store_rowS (w1.heap.size + 1) (stA sn) 108 _ (HVH.out _) hszN hso8 (stA_one sn) ?_ ?_ ?_); rfl; exact (congrArg Value.agg HSN.out).symm) | fail)
      refine ⟨⟨k + 1, sn, by omega, by go_num, HSN0.out, ?_, ?_, ?_, ?_⟩, by simp [intOf]; omega⟩
      · exact setRow_heap _ _ _ _ _ _ (HVH.out _)
      · exact (setRow_other _ _ _ _ (by omega)).trans HWW.out
      · exact (setRow_other _ _ _ _ (by have := HG.out.lt; omega)).trans HGG.out
      · exact below_setRow (bel_drewN HBW.out _) (by omega) _
    · have h64 : k = 64 := by omega
      have hs := HS.out
      rw [h64] at hs
      have hvm := HFIN.out s hs
      have HVM := Lib.hid hvm
      have hk64 : (64 : Int) ≤ (k : Int) := by omega
      clear hs h64 hvm HS hv hbw
      obtain ⟨v0, v1, v2, v3, v4, v5, v6, v7⟩ := v
      obtain ⟨s0, s1, s2, s3, s4, s5, s6, s7⟩ := s
      have hadd := r_addw
      have hadd2 := r_add
      have hgl := HG.out.lt
      have hgv : g ≠ w1.heap.size + 1 := by omega
      have hgv' : (g = w1.heap.size + 1) = False := by simp; omega
      have hgv2 : (w1.heap.size + 1 = g) = False := by simp; omega
      go_wp2_with fail
      refine wp_loop_rounds 9 ?_
      have B0 := HGG.out
      have V0 := HVV.out
      have HB0 := Lib.hid B0
      have HV0 := Lib.hid V0
      have K0 : Keep (· ≠ g) w wr := Keep.of_below HBW.out (fun i hi _ => hi)
      have HK0 := Lib.hid K0
      clear B0 V0 K0
      rw [rounds_succ]
      have c0 : (wr).cell? ⟨g, 0, none⟩ = some (.int .u32 (wN v0 : Int)) := by rw [HB0.out.cell]; rfl
      have f0 := HB0.out.free 0
      have d0 : (wr).cell? ⟨w1.heap.size + 1, 0, none⟩ = some (.int .u32 (wN s0 : Int)) := by rw [HV0.out.cell]; rfl
      have B1 : Blk ((wr).setCell ⟨g, 0, none⟩ (.int .u32 (wN (v0 + s0) : Int))).drew g 108 #[.int .u32 (wN (v0 + s0) : Int), .int .u32 (wN v1 : Int), .int .u32 (wN v2 : Int), .int .u32 (wN v3 : Int), .int .u32 (wN v4 : Int), .int .u32 (wN v5 : Int), .int .u32 (wN v6 : Int), .int .u32 (wN v7 : Int)] := (HB0.out.set 0 _).drew
      have V1 : Blk ((wr).setCell ⟨g, 0, none⟩ (.int .u32 (wN (v0 + s0) : Int))).drew (w1.heap.size + 1) 108 (stA ⟨s0, s1, s2, s3, s4, s5, s6, s7⟩) := (HV0.out.far (p := ⟨g, 0, none⟩) (Ne.symm hgv) _).drew
      have HB1 := Lib.hid B1
      have HV1 := Lib.hid V1
      clear B1 V1
      go_wp2_with fail
      go_still_tail 11, (by kernel_rfl)
      change wpList _ _ _ _ _ (wr).drew
      go_wp2_with fail
      clear c0 f0 d0
      have hk1 : Keep (· ≠ g) w ((wr).setCell ⟨g, 0, none⟩ (.int .u32 (wN (v0 + s0) : Int))).drew := ((HK0.out).setCell (fun h => h rfl) _).drew
      have HK1 := Lib.hid hk1
      clear hk1
      generalize ((wr).setCell ⟨g, 0, none⟩ (.int .u32 (wN (v0 + s0) : Int))).drew = x1 at *
      rw [rounds_succ]
      have c1 : (x1).cell? ⟨g, 1, none⟩ = some (.int .u32 (wN v1 : Int)) := by rw [HB1.out.cell]; rfl
      have f1 := HB1.out.free 1
      have d1 : (x1).cell? ⟨w1.heap.size + 1, 1, none⟩ = some (.int .u32 (wN s1 : Int)) := by rw [HV1.out.cell]; rfl
      have B2 : Blk ((x1).setCell ⟨g, 1, none⟩ (.int .u32 (wN (v1 + s1) : Int))).drew g 108 #[.int .u32 (wN (v0 + s0) : Int), .int .u32 (wN (v1 + s1) : Int), .int .u32 (wN v2 : Int), .int .u32 (wN v3 : Int), .int .u32 (wN v4 : Int), .int .u32 (wN v5 : Int), .int .u32 (wN v6 : Int), .int .u32 (wN v7 : Int)] := (HB1.out.set 1 _).drew
      have V2 : Blk ((x1).setCell ⟨g, 1, none⟩ (.int .u32 (wN (v1 + s1) : Int))).drew (w1.heap.size + 1) 108 (stA ⟨s0, s1, s2, s3, s4, s5, s6, s7⟩) := (HV1.out.far (p := ⟨g, 1, none⟩) (Ne.symm hgv) _).drew
      have HB2 := Lib.hid B2
      have HV2 := Lib.hid V2
      clear B2 V2
      go_wp2_with fail
      go_still_tail 11, (by kernel_rfl)
      change wpList _ _ _ _ _ (x1).drew
      go_wp2_with fail
      clear c1 f1 d1
      have hk2 : Keep (· ≠ g) w ((x1).setCell ⟨g, 1, none⟩ (.int .u32 (wN (v1 + s1) : Int))).drew := ((HK1.out).setCell (fun h => h rfl) _).drew
      have HK2 := Lib.hid hk2
      clear hk2
      generalize ((x1).setCell ⟨g, 1, none⟩ (.int .u32 (wN (v1 + s1) : Int))).drew = x2 at *
      rw [rounds_succ]
      have c2 : (x2).cell? ⟨g, 2, none⟩ = some (.int .u32 (wN v2 : Int)) := by rw [HB2.out.cell]; rfl
      have f2 := HB2.out.free 2
      have d2 : (x2).cell? ⟨w1.heap.size + 1, 2, none⟩ = some (.int .u32 (wN s2 : Int)) := by rw [HV2.out.cell]; rfl
      have B3 : Blk ((x2).setCell ⟨g, 2, none⟩ (.int .u32 (wN (v2 + s2) : Int))).drew g 108 #[.int .u32 (wN (v0 + s0) : Int), .int .u32 (wN (v1 + s1) : Int), .int .u32 (wN (v2 + s2) : Int), .int .u32 (wN v3 : Int), .int .u32 (wN v4 : Int), .int .u32 (wN v5 : Int), .int .u32 (wN v6 : Int), .int .u32 (wN v7 : Int)] := (HB2.out.set 2 _).drew
      have V3 : Blk ((x2).setCell ⟨g, 2, none⟩ (.int .u32 (wN (v2 + s2) : Int))).drew (w1.heap.size + 1) 108 (stA ⟨s0, s1, s2, s3, s4, s5, s6, s7⟩) := (HV2.out.far (p := ⟨g, 2, none⟩) (Ne.symm hgv) _).drew
      have HB3 := Lib.hid B3
      have HV3 := Lib.hid V3
      clear B3 V3
      go_wp2_with fail
      go_still_tail 11, (by kernel_rfl)
      change wpList _ _ _ _ _ (x2).drew
      go_wp2_with fail
      clear c2 f2 d2
      have hk3 : Keep (· ≠ g) w ((x2).setCell ⟨g, 2, none⟩ (.int .u32 (wN (v2 + s2) : Int))).drew := ((HK2.out).setCell (fun h => h rfl) _).drew
      have HK3 := Lib.hid hk3
      clear hk3
      generalize ((x2).setCell ⟨g, 2, none⟩ (.int .u32 (wN (v2 + s2) : Int))).drew = x3 at *
      rw [rounds_succ]
      have c3 : (x3).cell? ⟨g, 3, none⟩ = some (.int .u32 (wN v3 : Int)) := by rw [HB3.out.cell]; rfl
      have f3 := HB3.out.free 3
      have d3 : (x3).cell? ⟨w1.heap.size + 1, 3, none⟩ = some (.int .u32 (wN s3 : Int)) := by rw [HV3.out.cell]; rfl
      have B4 : Blk ((x3).setCell ⟨g, 3, none⟩ (.int .u32 (wN (v3 + s3) : Int))).drew g 108 #[.int .u32 (wN (v0 + s0) : Int), .int .u32 (wN (v1 + s1) : Int), .int .u32 (wN (v2 + s2) : Int), .int .u32 (wN (v3 + s3) : Int), .int .u32 (wN v4 : Int), .int .u32 (wN v5 : Int), .int .u32 (wN v6 : Int), .int .u32 (wN v7 : Int)] := (HB3.out.set 3 _).drew
      have V4 : Blk ((x3).setCell ⟨g, 3, none⟩ (.int .u32 (wN (v3 + s3) : Int))).drew (w1.heap.size + 1) 108 (stA ⟨s0, s1, s2, s3, s4, s5, s6, s7⟩) := (HV3.out.far (p := ⟨g, 3, none⟩) (Ne.symm hgv) _).drew
      have HB4 := Lib.hid B4
      have HV4 := Lib.hid V4
      clear B4 V4
      go_wp2_with fail
      go_still_tail 11, (by kernel_rfl)
      change wpList _ _ _ _ _ (x3).drew
      go_wp2_with fail
      clear c3 f3 d3
      have hk4 : Keep (· ≠ g) w ((x3).setCell ⟨g, 3, none⟩ (.int .u32 (wN (v3 + s3) : Int))).drew := ((HK3.out).setCell (fun h => h rfl) _).drew
      have HK4 := Lib.hid hk4
      clear hk4
      generalize ((x3).setCell ⟨g, 3, none⟩ (.int .u32 (wN (v3 + s3) : Int))).drew = x4 at *
      rw [rounds_succ]
      have c4 : (x4).cell? ⟨g, 4, none⟩ = some (.int .u32 (wN v4 : Int)) := by rw [HB4.out.cell]; rfl
      have f4 := HB4.out.free 4
      have d4 : (x4).cell? ⟨w1.heap.size + 1, 4, none⟩ = some (.int .u32 (wN s4 : Int)) := by rw [HV4.out.cell]; rfl
      have B5 : Blk ((x4).setCell ⟨g, 4, none⟩ (.int .u32 (wN (v4 + s4) : Int))).drew g 108 #[.int .u32 (wN (v0 + s0) : Int), .int .u32 (wN (v1 + s1) : Int), .int .u32 (wN (v2 + s2) : Int), .int .u32 (wN (v3 + s3) : Int), .int .u32 (wN (v4 + s4) : Int), .int .u32 (wN v5 : Int), .int .u32 (wN v6 : Int), .int .u32 (wN v7 : Int)] := (HB4.out.set 4 _).drew
      have V5 : Blk ((x4).setCell ⟨g, 4, none⟩ (.int .u32 (wN (v4 + s4) : Int))).drew (w1.heap.size + 1) 108 (stA ⟨s0, s1, s2, s3, s4, s5, s6, s7⟩) := (HV4.out.far (p := ⟨g, 4, none⟩) (Ne.symm hgv) _).drew
      have HB5 := Lib.hid B5
      have HV5 := Lib.hid V5
      clear B5 V5
      go_wp2_with fail
      go_still_tail 11, (by kernel_rfl)
      change wpList _ _ _ _ _ (x4).drew
      go_wp2_with fail
      clear c4 f4 d4
      have hk5 : Keep (· ≠ g) w ((x4).setCell ⟨g, 4, none⟩ (.int .u32 (wN (v4 + s4) : Int))).drew := ((HK4.out).setCell (fun h => h rfl) _).drew
      have HK5 := Lib.hid hk5
      clear hk5
      generalize ((x4).setCell ⟨g, 4, none⟩ (.int .u32 (wN (v4 + s4) : Int))).drew = x5 at *
      rw [rounds_succ]
      have c5 : (x5).cell? ⟨g, 5, none⟩ = some (.int .u32 (wN v5 : Int)) := by rw [HB5.out.cell]; rfl
      have f5 := HB5.out.free 5
      have d5 : (x5).cell? ⟨w1.heap.size + 1, 5, none⟩ = some (.int .u32 (wN s5 : Int)) := by rw [HV5.out.cell]; rfl
      have B6 : Blk ((x5).setCell ⟨g, 5, none⟩ (.int .u32 (wN (v5 + s5) : Int))).drew g 108 #[.int .u32 (wN (v0 + s0) : Int), .int .u32 (wN (v1 + s1) : Int), .int .u32 (wN (v2 + s2) : Int), .int .u32 (wN (v3 + s3) : Int), .int .u32 (wN (v4 + s4) : Int), .int .u32 (wN (v5 + s5) : Int), .int .u32 (wN v6 : Int), .int .u32 (wN v7 : Int)] := (HB5.out.set 5 _).drew
      have V6 : Blk ((x5).setCell ⟨g, 5, none⟩ (.int .u32 (wN (v5 + s5) : Int))).drew (w1.heap.size + 1) 108 (stA ⟨s0, s1, s2, s3, s4, s5, s6, s7⟩) := (HV5.out.far (p := ⟨g, 5, none⟩) (Ne.symm hgv) _).drew
      have HB6 := Lib.hid B6
      have HV6 := Lib.hid V6
      clear B6 V6
      go_wp2_with fail
      go_still_tail 11, (by kernel_rfl)
      change wpList _ _ _ _ _ (x5).drew
      go_wp2_with fail
      clear c5 f5 d5
      have hk6 : Keep (· ≠ g) w ((x5).setCell ⟨g, 5, none⟩ (.int .u32 (wN (v5 + s5) : Int))).drew := ((HK5.out).setCell (fun h => h rfl) _).drew
      have HK6 := Lib.hid hk6
      clear hk6
      generalize ((x5).setCell ⟨g, 5, none⟩ (.int .u32 (wN (v5 + s5) : Int))).drew = x6 at *
      rw [rounds_succ]
      have c6 : (x6).cell? ⟨g, 6, none⟩ = some (.int .u32 (wN v6 : Int)) := by rw [HB6.out.cell]; rfl
      have f6 := HB6.out.free 6
      have d6 : (x6).cell? ⟨w1.heap.size + 1, 6, none⟩ = some (.int .u32 (wN s6 : Int)) := by rw [HV6.out.cell]; rfl
      have B7 : Blk ((x6).setCell ⟨g, 6, none⟩ (.int .u32 (wN (v6 + s6) : Int))).drew g 108 #[.int .u32 (wN (v0 + s0) : Int), .int .u32 (wN (v1 + s1) : Int), .int .u32 (wN (v2 + s2) : Int), .int .u32 (wN (v3 + s3) : Int), .int .u32 (wN (v4 + s4) : Int), .int .u32 (wN (v5 + s5) : Int), .int .u32 (wN (v6 + s6) : Int), .int .u32 (wN v7 : Int)] := (HB6.out.set 6 _).drew
      have V7 : Blk ((x6).setCell ⟨g, 6, none⟩ (.int .u32 (wN (v6 + s6) : Int))).drew (w1.heap.size + 1) 108 (stA ⟨s0, s1, s2, s3, s4, s5, s6, s7⟩) := (HV6.out.far (p := ⟨g, 6, none⟩) (Ne.symm hgv) _).drew
      have HB7 := Lib.hid B7
      have HV7 := Lib.hid V7
      clear B7 V7
      go_wp2_with fail
      go_still_tail 11, (by kernel_rfl)
      change wpList _ _ _ _ _ (x6).drew
      go_wp2_with fail
      clear c6 f6 d6
      have hk7 : Keep (· ≠ g) w ((x6).setCell ⟨g, 6, none⟩ (.int .u32 (wN (v6 + s6) : Int))).drew := ((HK6.out).setCell (fun h => h rfl) _).drew
      have HK7 := Lib.hid hk7
      clear hk7
      generalize ((x6).setCell ⟨g, 6, none⟩ (.int .u32 (wN (v6 + s6) : Int))).drew = x7 at *
      rw [rounds_succ]
      have c7 : (x7).cell? ⟨g, 7, none⟩ = some (.int .u32 (wN v7 : Int)) := by rw [HB7.out.cell]; rfl
      have f7 := HB7.out.free 7
      have d7 : (x7).cell? ⟨w1.heap.size + 1, 7, none⟩ = some (.int .u32 (wN s7 : Int)) := by rw [HV7.out.cell]; rfl
      have B8 : Blk ((x7).setCell ⟨g, 7, none⟩ (.int .u32 (wN (v7 + s7) : Int))).drew g 108 #[.int .u32 (wN (v0 + s0) : Int), .int .u32 (wN (v1 + s1) : Int), .int .u32 (wN (v2 + s2) : Int), .int .u32 (wN (v3 + s3) : Int), .int .u32 (wN (v4 + s4) : Int), .int .u32 (wN (v5 + s5) : Int), .int .u32 (wN (v6 + s6) : Int), .int .u32 (wN (v7 + s7) : Int)] := (HB7.out.set 7 _).drew
      have V8 : Blk ((x7).setCell ⟨g, 7, none⟩ (.int .u32 (wN (v7 + s7) : Int))).drew (w1.heap.size + 1) 108 (stA ⟨s0, s1, s2, s3, s4, s5, s6, s7⟩) := (HV7.out.far (p := ⟨g, 7, none⟩) (Ne.symm hgv) _).drew
      have HB8 := Lib.hid B8
      have HV8 := Lib.hid V8
      clear B8 V8
      go_wp2_with fail
      go_still_tail 11, (by kernel_rfl)
      change wpList _ _ _ _ _ (x7).drew
      go_wp2_with fail
      clear c7 f7 d7
      have hk8 : Keep (· ≠ g) w ((x7).setCell ⟨g, 7, none⟩ (.int .u32 (wN (v7 + s7) : Int))).drew := ((HK7.out).setCell (fun h => h rfl) _).drew
      have HK8 := Lib.hid hk8
      clear hk8
      generalize ((x7).setCell ⟨g, 7, none⟩ (.int .u32 (wN (v7 + s7) : Int))).drew = x8 at *
      rw [rounds_succ]
      go_wp2
      go_end0
      exact ⟨rfl, by rw [HVM.out]; exact HB8.out, HK8.out⟩

end Go.Proofs.YtdkadlifjmmcbaaDoor
