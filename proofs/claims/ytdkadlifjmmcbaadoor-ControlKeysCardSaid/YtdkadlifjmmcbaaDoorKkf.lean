/- The law ControlKeys: its walk. -/
import Derived.Test.YtdkadlifjmmcbaaDoorRk2
namespace Go.Proofs.YtdkadlifjmmcbaaDoor
open Go.RowKit
set_option linter.unusedSimpArgs false
set_option linter.unusedVariables false

theorem exec_rowK {P : Program} {o : Oper} {a : Act} {w : World} (ty : TypeId) (x : Operand) (ho : o.op = .load ty x)
    (g : Nat) (hx : a.eval x = .pointer (some ⟨g, 0, none⟩)) (t : TypeId) (cs : Array Value) (fr : Nat × Nat) (d : TypeDesc) (hg : w.heap[g]? = some (.cells cs t fr))
    (hu : P.underlying ty = some d) (hd : (match d with | .struct _ | .array _ _ => true | _ => false) = true) (hi : (P.info? ty).map (·.size) = some cs.size) :
    (execOp a.eval o).run P w = .ok (.value (.agg cs)) w := by
  unfold execOp
  simp only [ho, hx, Instr.loadAt, Instr.sureAddr, Sem.run_bind, Sem.run_pure, Result.andThen_ok, run_loadVar_row w g t ty cs fr d hg hu hd hi]
theorem rng {w : World} {g : Nat} {t : TypeId} {l : List UInt8} (h : Blk w g t (bytesL l).toArray) : w.rangeAt g 0 (bytesL l) := fun j v hv => by
  rw [Nat.zero_add, h.cell, List.getElem?_toArray]
  exact hv
theorem sz32 {l : List UInt8} (h : l.length = 32) : (bytesL (zeros 32)).toArray.size = (bytesL l).toArray.size := by
  rw [List.size_toArray, List.size_toArray, bytesL_len, bytesL_len, h, zeros_len]
/-- what control.Back answers from n on -/
def backB (k : List UInt8) (n : Nat) (b : Int) : List UInt8 × Int := if 0 ≤ b ∧ b ≤ n then (iterD (n - b.toNat) k, 0) else (zeros 32, 1)
theorem backB_len (k : List UInt8) (n : Nat) (b : Int) (h : k.length = 32) : (backB k n b).1.length = 32 := by
  unfold backB
  split
  · exact iterD_len _ _ h
  · exact zeros_len 32
theorem back_all (k : List UInt8) (n : Nat) (b : Int) (w : World) (hk : k.length = 32) (hn : n ≤ 255) (hT : TabOK w) :
    Calls Tryd.prog 9 #[.agg (bytesL k).toArray, .int .i64 (n : Int), .int .i64 b] w fun e w' => e = .returned (.tuple #[.agg (bytesL (backB k n b).1).toArray, .int .i64 (backB k n b).2]) ∧ Below w.heap.size w w' := by
  unfold backB
  split
  · next h =>
    obtain ⟨m, rfl⟩ : ∃ m : Nat, b = m := ⟨b.toNat, by omega⟩
    exact back_ok k n m w hk (by omega) hn hT
  · next h => exact back_bad k n b w hk (by omega)
theorem hash_len {l : List UInt8} (h : l.length = 32) : (Tryd.prog.info? 23).map (·.size) = some (bytesL l).length := by
  rw [hash_size h, List.size_toArray]
theorem eq_hash (l : List UInt8) (h : l.length = 32) (W : World) : (Op.equalIn 10000 23 (.agg (bytesL l).toArray) (.agg (bytesL l).toArray)).run Tryd.prog W = .ok true W := by
  have h2 := eqin_bytes (P := Tryd.prog) (t := 23) (e := 5) Tryd.underlying23 (by kernel_rfl) Tryd.underlying5 l l h h W
  rw [h2]
  simp

set_option linter.unusedSimpArgs false in
set_option maxRecDepth 100000 in
set_option maxHeartbeats 4000000 in
theorem ckeys_any (k : List UInt8) (a b : Int) (w : World) (hk : k.length = 32) (hT : TabOK w) (hR : RTabOK w) :
    Calls Tryd.prog 3 #[.agg (bytesL k).toArray, .int .i64 a, .int .i64 b] w fun e w' => e = .returned (.bool true) ∧ Below w.heap.size w w' := by
  have hzH := hash_zero
  have HK := Lib.hid hk
  have HT := Lib.hid hT
  have HR := Lib.hid hR
  have hsz := hash_size hk
  have hn0 := Blk.new w 23 (bytesL k).toArray
  have HN0 := Lib.hid hn0
  have HB0 := Lib.hid ((Below.refl _ w).alloc (Nat.le_refl _) (.cells (bytesL k).toArray 23))
  have HCK := Lib.hid (ckey_any k a _ hk (HT.out.below HB0.out))
  unfold Blk at hn0
  clear hk hT hR
  go_enter Tryd.func3, Tryd.ntmps3
  go_wp2_with (first | (refine wpList_load_row rfl 23 _ rfl w.heap.size rfl 23 _ (0, 0) _ hn0 Tryd.underlying23 rfl hsz ?_) | fail)
  refine HCK.out.mono ?_
  rintro e w1 ⟨rfl, bel1⟩
  have hb1 := HB0.out.trans (bel1.mono HB0.out.size)
  have h3 := HN0.out.next bel1
  have hkl := keyB_len k a HK.out
  clear hn0 bel1 HCK HN0 HB0
  by_cases hbad : a < 0 ∨ 255 < a
  · have ek : keyB k a = (zeros 32, 1) := by unfold keyB; rw [if_neg (by omega)]
    rw [ek] at hkl ⊢
    clear ek
    dsimp only at hkl ⊢
    have HNW := Lib.hid (heap_alloc_new w1 (.cells (bytesL (zeros 32)).toArray 23))
    have HWR := Lib.hid (World.setRow_alloc_new w1 (bytesL (zeros 32)).toArray (bytesL (zeros 32)).toArray 23)
    have HSK := Lib.hid (hash_size hkl)
    have HSZ := Lib.hid (sz32 hkl)
    have HKL := Lib.hid hkl
    have HB1 := Lib.hid (hb1.alloc hb1.size (.cells (bytesL (zeros 32)).toArray 23))
    have A3 := Lib.hid (h3.alloc (.cells (bytesL (zeros 32)).toArray 23))
    have A7 := Lib.hid (Blk.new w1 23 (bytesL (zeros 32)).toArray)
    clear hb1 h3 hkl
    go_wp2_with (first | (refine wpList_store_row rfl 23 _ _ rfl w1.heap.size (bytesL (zeros 32)).toArray rfl rfl 23 _ HNW.out HSK.out HSZ.out (bytesL_one _) ?_; rw [HWR.out]) | fail)
    generalize w1.alloc (.cells (bytesL (zeros 32)).toArray 23) = W2 at *
    generalize w1.heap.size = g7 at *
    refine (cawake_any W2).mono ?_
    rintro e w3 ⟨rfl, bel3⟩
    have HB3 := Lib.hid (HB1.out.trans (bel3.mono HB1.out.size))
    have C3 := Lib.hid (A3.out.next bel3)
    have C7 := Lib.hid (A7.out.next bel3)
    clear bel3 HB1 A3 A7
    by_cases h0 : a < 0
    · skip
      clear hbad
      go_wp2_with fail
      refine (cawake_any w3).mono ?_
      rintro e w4 ⟨rfl, bel4⟩
      have HB4 := Lib.hid (HB3.out.trans (bel4.mono HB3.out.size))
      have D7 := Lib.hid (rng (C7.out.next bel4))
      have heq := eq_hash (zeros 32) (zeros_len 32)
      have HL := Lib.hid (hash_len (zeros_len 32))
      clear bel4 HB3 C3 C7
      go_wp2_with (first | ((with_reducible refine wpList_load_midS g7 0 (bytesL (zeros 32)) _ D7.out Tryd.underlying23 rfl HL.out ?_ ?_ ?_); rfl; rfl) | fail)
      go_returns
      exact ⟨by rfl, HB4.out⟩
    · have h1 : 255 < a := by omega
      have h2 : 0 ≤ a := by omega
      clear hbad h0
      go_wp2_with fail
      refine (cawake_any w3).mono ?_
      rintro e w4 ⟨rfl, bel4⟩
      have HB4 := Lib.hid (HB3.out.trans (bel4.mono HB3.out.size))
      have D7 := Lib.hid (rng (C7.out.next bel4))
      have heq := eq_hash (zeros 32) (zeros_len 32)
      have HL := Lib.hid (hash_len (zeros_len 32))
      clear bel4 HB3 C3 C7
      go_wp2_with (first | ((with_reducible refine wpList_load_midS g7 0 (bytesL (zeros 32)) _ D7.out Tryd.underlying23 rfl HL.out ?_ ?_ ?_); rfl; rfl) | fail)
      go_returns
      exact ⟨by rfl, HB4.out⟩
  · obtain ⟨n, rfl⟩ : ∃ n : Nat, a = n := ⟨a.toNat, by omega⟩
    have hn : n ≤ 255 := by omega
    have ek : keyB k (n : Int) = (iterD (255 - n) k, 0) := by unfold keyB; rw [if_pos (by omega)]; rfl
    rw [ek] at hkl ⊢
    dsimp only at hkl ⊢
    obtain ⟨k1, hk1⟩ : ∃ x, x = iterD (255 - n) k := ⟨_, rfl⟩
    rw [← hk1] at hkl ⊢
    have HK1 := Lib.hid hk1
    have f1 : decide ((n : Int) < 0) = false := by simp
    have f2 : decide ((255 : Int) < (n : Int)) = false := by simp; omega
    have f3 : decide (255 < n) = false := by simp; omega
    clear ek hk1 hbad
    have HNW := Lib.hid (heap_alloc_new w1 (.cells (bytesL (zeros 32)).toArray 23))
    have HWR := Lib.hid (World.setRow_alloc_new w1 (bytesL (zeros 32)).toArray (bytesL k1).toArray 23)
    have HSK := Lib.hid (hash_size hkl)
    have HSZ := Lib.hid (sz32 hkl)
    have HKL := Lib.hid hkl
    have HB1 := Lib.hid (hb1.alloc hb1.size (.cells (bytesL k1).toArray 23))
    have A3 := Lib.hid (h3.alloc (.cells (bytesL k1).toArray 23))
    have A7 := Lib.hid (Blk.new w1 23 (bytesL k1).toArray)
    clear hb1 h3 hkl
    go_wp2_with (first | (refine wpList_store_row rfl 23 _ _ rfl w1.heap.size (bytesL k1).toArray rfl rfl 23 _ HNW.out HSK.out HSZ.out (bytesL_one _) ?_; rw [HWR.out]) | fail)
    generalize w1.alloc (.cells (bytesL k1).toArray 23) = W2 at *
    generalize w1.heap.size = g7 at *
    refine (cawake_any W2).mono ?_
    rintro e w3 ⟨rfl, bel3⟩
    have HB3 := Lib.hid (HB1.out.trans (bel3.mono HB1.out.size))
    have C3 := Lib.hid (A3.out.next bel3)
    have C7 := Lib.hid (A7.out.next bel3)
    clear bel3 HB1 A3 A7
    have c7 := C7.out
    unfold Blk at c7
    have hszk := hash_size HKL.out
    have HBA := Lib.hid (back_all k1 n b w3 HKL.out hn (HT.out.below HB3.out))
    have hbl := backB_len k1 n b HKL.out
    go_wp2_with (first | (refine wpList_load_row rfl 23 _ rfl g7 rfl 23 _ (0, 0) _ c7 Tryd.underlying23 rfl hszk ?_) | fail)
    clear c7
    refine HBA.out.mono ?_
    rintro e w4 ⟨rfl, bel4⟩
    have hb4 := HB3.out.trans (bel4.mono HB3.out.size)
    have d3 := C3.out.next bel4
    have d7 := C7.out.next bel4
    obtain ⟨l9, hl9⟩ : ∃ x, x = (backB k1 n b).1 := ⟨_, rfl⟩
    obtain ⟨e9, he9⟩ : ∃ x, x = (backB k1 n b).2 := ⟨_, rfl⟩
    rw [← hl9] at hbl
    rw [← hl9, ← he9]
    have HL9 := Lib.hid hl9
    have HE9 := Lib.hid he9
    have HLL := Lib.hid hbl
    have HNW4 := Lib.hid (heap_alloc_new w4 (.cells (bytesL (zeros 32)).toArray 23))
    have HWR4 := Lib.hid (World.setRow_alloc_new w4 (bytesL (zeros 32)).toArray (bytesL l9).toArray 23)
    have HS9 := Lib.hid (hash_size hbl)
    have HZ9 := Lib.hid (sz32 hbl)
    have HB5 := Lib.hid (hb4.alloc hb4.size (.cells (bytesL l9).toArray 23))
    have E3 := Lib.hid (d3.alloc (.cells (bytesL l9).toArray 23))
    have E7 := Lib.hid (d7.alloc (.cells (bytesL l9).toArray 23))
    have E9 := Lib.hid (Blk.new w4 23 (bytesL l9).toArray)
    clear bel4 hb4 d3 d7 hl9 he9 hbl HBA C3 C7
    go_wp2_with (first | (refine wpList_store_row rfl 23 _ _ rfl w4.heap.size (bytesL l9).toArray rfl rfl 23 _ HNW4.out HS9.out HZ9.out (bytesL_one _) ?_; rw [HWR4.out]) | fail)
    generalize w4.alloc (.cells (bytesL l9).toArray 23) = W5 at *
    generalize w4.heap.size = g9 at *
    refine wp_region_held_drew (S := fun W => Blk W g7 23 (bytesL k1).toArray ∧ Blk W w.heap.size 23 (bytesL k).toArray) (by kernel_rfl) ⟨E7.out, E3.out⟩ (fun hHeld => ?_)
    refine wpAnyH_take (i := 0) (v := .int .i64 0) rfl (by kernel_rfl) (by kernel_rfl) (by kernel_rfl) (fun _ _ _ h => h) (Or.inl ⟨by rfl, fun W hW => ?_⟩) hHeld ?_
    · rfl
    try simp only [Act.put, List.getElem_toArray, List.getElem_cons_succ, List.getElem_cons_zero, List.setIfInBounds_toArray, List.set_cons_succ, List.set_cons_zero]
    refine wpAnyH_take (i := 1) (v := .bool false) rfl (by kernel_rfl) (by kernel_rfl) (by kernel_rfl) (fun _ _ _ h => h) (Or.inl ⟨by rfl, fun W hW => ?_⟩) hHeld ?_
    · go_simp
    try simp only [Act.put, List.getElem_toArray, List.getElem_cons_succ, List.getElem_cons_zero, List.setIfInBounds_toArray, List.set_cons_succ, List.set_cons_zero]
    refine wpAnyH_take (i := 2) (v := .bool false) rfl (by kernel_rfl) (by kernel_rfl) (by kernel_rfl) (fun _ _ _ h => h) (Or.inl ⟨by rfl, fun W hW => ?_⟩) hHeld ?_
    · rfl
    try simp only [Act.put, List.getElem_toArray, List.getElem_cons_succ, List.getElem_cons_zero, List.setIfInBounds_toArray, List.set_cons_succ, List.set_cons_zero]
    refine wpAnyH_take (i := 3) (v := .agg (bytesL k1).toArray) rfl (by kernel_rfl) (by kernel_rfl) (by kernel_rfl) (fun _ _ _ h => h) (Or.inl ⟨by rfl, fun W hW => ?_⟩) hHeld ?_
    · exact exec_rowK 23 (.tmp 7) rfl g7 rfl 23 (bytesL k1).toArray (0, 0) _ hW.1 Tryd.underlying23 rfl hszk
    try simp only [Act.put, List.getElem_toArray, List.getElem_cons_succ, List.getElem_cons_zero, List.setIfInBounds_toArray, List.set_cons_succ, List.set_cons_zero]
    refine wpAnyH_take (i := 4) (v := .agg (bytesL k).toArray) rfl (by kernel_rfl) (by kernel_rfl) (by kernel_rfl) (fun _ _ _ h => h) (Or.inl ⟨by rfl, fun W hW => ?_⟩) hHeld ?_
    · exact exec_rowK 23 (.tmp 3) rfl w.heap.size rfl 23 (bytesL k).toArray (0, 0) _ hW.2 Tryd.underlying23 rfl hsz
    try simp only [Act.put, List.getElem_toArray, List.getElem_cons_succ, List.getElem_cons_zero, List.setIfInBounds_toArray, List.set_cons_succ, List.set_cons_zero]
    refine wpAnyH_take (i := 5) (v := .int .i64 (n : Int)) rfl (by kernel_rfl) (by kernel_rfl) (by kernel_rfl) (fun _ _ _ h => h) (Or.inl ⟨by rfl, fun W hW => ?_⟩) hHeld ?_
    · rfl
    try simp only [Act.put, List.getElem_toArray, List.getElem_cons_succ, List.getElem_cons_zero, List.setIfInBounds_toArray, List.set_cons_succ, List.set_cons_zero]
    refine wpAnyH_ready (rs := [6]) (by kernel_rfl) (by simp) ?_
    refine AllReadyH.cons rfl (fun K hK => ?_) AllReadyH.nil
    have HB6 := Lib.hid (show Below w.heap.size w W5.drew from bel_drewN HB5.out 1)
    have F3 := Lib.hid (show Blk W5.drew w.heap.size 23 (bytesL k).toArray from E3.out)
    have F7 := Lib.hid (show Blk W5.drew g7 23 (bytesL k1).toArray from E7.out)
    have F9 := Lib.hid (show Blk W5.drew g9 23 (bytesL l9).toArray from E9.out)
    have HRK := Lib.hid (rkey_any k n W5.drew HK.out hn (HR.out.below HB6.out))
    go_simp
    go_at_call 10
    refine HRK.out.mono ?_
    rintro e w7 ⟨rfl, bel7⟩
    have HB7 := Lib.hid (HB6.out.trans (bel7.mono HB6.out.size))
    have G3 := Lib.hid (F3.out.next bel7)
    have G7 := Lib.hid (F7.out.next bel7)
    have G9 := Lib.hid (F9.out.next bel7)
    rw [← HK1.out]
    clear bel7 HB6 F3 F7 F9 HRK HB5 E3 E7 E9
    go_wp2
    refine hK.out _ _ ⟨G7.out, G3.out⟩ (fun hHeld2 => ?_)
    clear hK K hHeld
    try simp only [Act.put, List.getElem_toArray, List.getElem_cons_succ, List.getElem_cons_zero, List.setIfInBounds_toArray, List.set_cons_succ, List.set_cons_zero]
    refine wpAnyH_take (i := 7) (v := .bool false) rfl (by kernel_rfl) (by kernel_rfl) (by kernel_rfl) (fun _ _ _ h => h) (Or.inl ⟨by rfl, fun W hW => ?_⟩) hHeld2 ?_
    · (have heq := eq_hash k1 HKL.out; go_simp)
    try simp only [Act.put, List.getElem_toArray, List.getElem_cons_succ, List.getElem_cons_zero, List.setIfInBounds_toArray, List.set_cons_succ, List.set_cons_zero]
    refine wpAnyH_take (i := 8) (v := .bool false) rfl (by kernel_rfl) (by kernel_rfl) (by kernel_rfl) (fun _ _ _ h => h) (Or.inl ⟨by rfl, fun W hW => ?_⟩) hHeld2 ?_
    · rfl
    try simp only [Act.put, List.getElem_toArray, List.getElem_cons_succ, List.getElem_cons_zero, List.setIfInBounds_toArray, List.set_cons_succ, List.set_cons_zero]
    refine wpAnyH_done (by kernel_rfl) ?_ _
    clear hHeld2
    by_cases hbb : b < 0 ∨ (n : Int) < b
    · have ebk : backB k1 n b = (zeros 32, 1) := by unfold backB; rw [if_neg (by omega)]
      have el : l9 = zeros 32 := by rw [HL9.out, ebk]
      have ee : e9 = 1 := by rw [HE9.out, ebk]
      subst el ee
      have heq := eq_hash (zeros 32) (zeros_len 32)
      have HL := Lib.hid (hash_len (zeros_len 32))
      have D9 := Lib.hid (rng G9.out)
      by_cases h0 : b < 0
      · clear hbb ebk
        go_wp2_with (first | ((with_reducible refine wpList_load_midS g9 0 (bytesL (zeros 32)) _ D9.out Tryd.underlying23 rfl HL.out ?_ ?_ ?_); rfl; rfl) | fail)
        go_returns
        exact ⟨by rfl, HB7.out⟩
      · have h1 : (n : Int) < b := by omega
        have h2 : 0 ≤ b := by omega
        clear hbb ebk h0
        go_wp2_with (first | ((with_reducible refine wpList_load_midS g9 0 (bytesL (zeros 32)) _ D9.out Tryd.underlying23 rfl HL.out ?_ ?_ ?_); rfl; rfl) | fail)
        go_returns
        exact ⟨by rfl, HB7.out⟩
    · obtain ⟨m, rfl⟩ : ∃ m : Nat, b = m := ⟨b.toNat, by omega⟩
      have hmn : m ≤ n := by omega
      have ebk : backB k1 n (m : Int) = (iterD (n - m) k1, 0) := by unfold backB; rw [if_pos (by omega)]; rfl
      have ekk : keyB k (m : Int) = (iterD (255 - m) k, 0) := by unfold keyB; rw [if_pos (by omega)]; rfl
      have el : l9 = iterD (255 - m) k := by
        rw [HL9.out, ebk, HK1.out]
        show iterD (n - m) (iterD (255 - n) k) = _
        rw [← iterD_add, show n - m + (255 - n) = 255 - m from by omega]
      have ee : e9 = 0 := by rw [HE9.out, ebk]
      subst ee
      have g1 : decide ((m : Int) < 0) = false := by simp
      have g2 : decide ((n : Int) < (m : Int)) = false := by simp; omega
      have g3 : decide (n < m) = false := by simp; omega
      have g3h := G3.out
      unfold Blk at g3h
      have hck := ckey_any k (m : Int) w7 HK.out (HT.out.below HB7.out)
      rw [ekk] at hck
      dsimp only at hck
      rw [← el] at hck
      have HCK := Lib.hid hck
      clear hbb ebk ekk el hck hmn
      go_wp2_with (first | (refine wpList_load_row rfl 23 _ rfl w.heap.size rfl 23 _ (0, 0) _ g3h Tryd.underlying23 rfl hsz ?_) | fail)
      clear g3h
      refine HCK.out.mono ?_
      rintro e w8 ⟨rfl, bel8⟩
      have hb8 := HB7.out.trans (bel8.mono HB7.out.size)
      have HNW8 := Lib.hid (heap_alloc_new w8 (.cells (bytesL (zeros 32)).toArray 23))
      have HWR8 := Lib.hid (World.setRow_alloc_new w8 (bytesL (zeros 32)).toArray (bytesL l9).toArray 23)
      have HB9 := Lib.hid (hb8.alloc hb8.size (.cells (bytesL l9).toArray 23))
      have D9 := Lib.hid (rng ((G9.out.next bel8).alloc (.cells (bytesL l9).toArray 23)))
      have D11 := Lib.hid (rng (Blk.new w8 23 (bytesL l9).toArray))
      have heq := eq_hash l9 HLL.out
      have HL := Lib.hid (hash_len HLL.out)
      clear bel8 hb8
      go_wp2_with (first | (refine wpList_store_row rfl 23 _ _ rfl w8.heap.size (bytesL l9).toArray rfl rfl 23 _ HNW8.out HS9.out HZ9.out (bytesL_one _) ?_; rw [HWR8.out]) | ((with_reducible refine wpList_load_midS g9 0 (bytesL l9) _ D9.out Tryd.underlying23 rfl HL.out ?_ ?_ ?_); rfl; rfl) | ((with_reducible refine wpList_load_midS w8.heap.size 0 (bytesL l9) _ D11.out Tryd.underlying23 rfl HL.out ?_ ?_ ?_); rfl; rfl) | fail)
      go_returns
      exact ⟨by rfl, HB9.out⟩
end Go.Proofs.YtdkadlifjmmcbaaDoor
