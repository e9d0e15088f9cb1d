/- The walk of the reference's Expand (32 bytes). -/
import Derived.Test.YtdkadlifjmmcbaaDoorRma
namespace Go.Proofs.YtdkadlifjmmcbaaDoor
open Go.RowKit
set_option linter.unusedSimpArgs false
set_option linter.unusedVariables false

theorem step_store_row {P : Program} {ops : Array Oper} {o : Oper} {a : Act} {w : World} {K : Act → World → Prop} {Q : Exit → Act → World → Prop} {E : Prop} (hgd : o.guard = none) (ty : TypeId) (x y : Operand) (ho : o.op = .store ty x y)
    (g : Nat) (cells : Array Value) (hx : a.eval x = .pointer (some ⟨g, 0, none⟩)) (hy : a.eval y = .agg cells) (t : TypeId) (old : Array Value) (hg : w.heap[g]? = some (.cells old t (0, 0))) (hi : (P.info? ty).map (·.size) = some cells.size) (hold : old.size = cells.size) (h1 : cells.all (·.oneCell') = true)
    (h : K (a.put o.dst undef) (w.setRow g cells)) : if Region.wanted o (yielded ops a.tmps) = true then Oper.wp P o a w K Q else E := by
  rw [if_pos (by simp [Region.wanted, hgd])]
  exact wp_store_row ty x y ho g cells hx hy t old hg hi hold h1 h

set_option maxRecDepth 100000 in
set_option maxHeartbeats 8000000 in
theorem rexpand_any (k : List UInt8) (Ai : Option Addr) (ni ci : Nat) (lab : List UInt8) (w : World) (hk : k.length = 32) (hl : lab.length = ni) (hr : RB w Ai lab) (hni : ni ≤ 1000) (hT : RTabOK w) :
    Calls Tryd.prog 57 #[.agg (bytesL k).toArray, .slice Ai ni ci, .int .i64 32] w fun e w' => ∃ A c, e = .returned (.slice A 32 c) ∧ RB w' A (macB k (lab ++ [1])) ∧ Below w.heap.size w w' ∧ Fresh w.heap.size A := by
  subst hl
  have HK := Lib.hid hk
  have HR := Lib.hid hr
  have HT := Lib.hid hT
  have K0 := Lib.hid (Blk.new w 22 (bytesL k).toArray)
  have HB0 := Lib.hid ((Below.refl _ w).alloc (Nat.le_refl _) (.cells (bytesL k).toArray 22))
  have hzH := z32_zero
  have hfl : [[], lab, [1]].flatten = lab ++ [1] := by simp
  have hll : (lab ++ [1]).length = lab.length + 1 := by simp
  have hml := macB_len k (lab ++ [1])
  have hjo := fun b W (h : SlicesAt W b 0 [[], lab, [1]]) => joined_any b 0 3 3 [[], lab, [1]] W rfl h (by omega) (by omega) (by rw [hfl, hll]; omega)
  rw [hfl, hll] at hjo
  have hmm := fun A c W (h : RB W A (lab ++ [1])) (hb : Below w.heap.size w W) (hK : Blk W w.heap.size 22 (bytesL k).toArray) => rmac_any (some ⟨w.heap.size, 0, none⟩) 32 k A (lab.length + 1) c (lab ++ [1]) W hk (rb_blk hK) hll h (by omega) (hT.below hb)
  obtain ⟨mk, hmk⟩ : ∃ x, x = macB k (lab ++ [1]) := ⟨_, rfl⟩
  rw [← hmk] at hmm hml
  have HMK := Lib.hid hmk
  have HML := Lib.hid hml
  have HJO := Lib.hid hjo
  have HMM := Lib.hid hmm
  have HSM := Lib.hid (b32_size hml)
  have HSZ := Lib.hid (show (bytesL (zeros 32)).toArray.size = (bytesL mk).toArray.size by rw [List.size_toArray, List.size_toArray, bytesL_len, bytesL_len, hml, zeros_len])
  clear hk hr hT hfl hll hml hjo hmm hmk
  go_enter Tryd.func57, Tryd.ntmps57
  go_wp2_with fail
  refine wp_loop_rounds 2 ?_
  rw [rounds_succ]
  go_wp2_with fail
  have B0 := Lib.hid (show Below w.heap.size w (w.alloc (.cells (bytesL k).toArray 22)).drew from bel_drewN HB0.out 1)
  have KA0 := Lib.hid (show Blk (w.alloc (.cells (bytesL k).toArray 22)).drew w.heap.size 22 (bytesL k).toArray from K0.out)
  refine wp_region_held_drew (S := fun _ => True) (by kernel_rfl) trivial (fun hHeld => ?_)
  generalize (w.alloc (.cells (bytesL k).toArray 22)).drew = W0 at *
  refine wpAnyH_take (i := 0) (v := .slice (some ⟨w.heap.size, 0, none⟩) 32 32) rfl (by kernel_rfl) (by kernel_rfl) (by kernel_rfl) (fun _ _ _ h => h) (Or.inl ⟨by rfl, fun W hW => ?_⟩) hHeld ?_
  · go_simp
  try simp only [Act.put, List.getElem_toArray, List.getElem_cons_succ, List.getElem_cons_zero, List.setIfInBounds_toArray, List.set_cons_succ, List.set_cons_zero]
  refine wpAnyH_take (i := 1) (v := .slice none 0 0) rfl (by kernel_rfl) (by kernel_rfl) (by kernel_rfl) (fun _ _ _ h => h) (Or.inl ⟨by rfl, fun W hW => ?_⟩) hHeld ?_
  · rfl
  try simp only [Act.put, List.getElem_toArray, List.getElem_cons_succ, List.getElem_cons_zero, List.setIfInBounds_toArray, List.set_cons_succ, List.set_cons_zero]
  refine wpAnyH_take (i := 2) (v := .slice Ai lab.length ci) rfl (by kernel_rfl) (by kernel_rfl) (by kernel_rfl) (fun _ _ _ h => h) (Or.inl ⟨by rfl, fun W hW => ?_⟩) hHeld ?_
  · rfl
  try simp only [Act.put, List.getElem_toArray, List.getElem_cons_succ, List.getElem_cons_zero, List.setIfInBounds_toArray, List.set_cons_succ, List.set_cons_zero]
  refine wpAnyH_take (i := 3) (v := .int .i64 1) rfl (by kernel_rfl) (by kernel_rfl) (by kernel_rfl) (fun _ _ _ h => h) (Or.inl ⟨by rfl, fun W hW => ?_⟩) hHeld ?_
  · rfl
  try simp only [Act.put, List.getElem_toArray, List.getElem_cons_succ, List.getElem_cons_zero, List.setIfInBounds_toArray, List.set_cons_succ, List.set_cons_zero]
  refine wpAnyH_take (i := 4) (v := .int .u8 1) rfl (by kernel_rfl) (by kernel_rfl) (by kernel_rfl) (fun _ _ _ h => h) (Or.inl ⟨by rfl, fun W hW => ?_⟩) hHeld ?_
  · (go_simp; decide)
  try simp only [Act.put, List.getElem_toArray, List.getElem_cons_succ, List.getElem_cons_zero, List.setIfInBounds_toArray, List.set_cons_succ, List.set_cons_zero]
  refine wpAnyH_ready (rs := [5, 9]) (by kernel_rfl) (by simp) ?_
  refine AllReadyH.cons rfl (fun K hK => ?_) (AllReadyH.cons rfl (fun K hK => ?_) AllReadyH.nil)
  · skip
    go_simp
    refine hK.out _ _ trivial (fun hHeld1 => ?_)
    clear hK K hHeld
    try simp only [Act.put, List.getElem_toArray, List.getElem_cons_succ, List.getElem_cons_zero, List.setIfInBounds_toArray, List.set_cons_succ, List.set_cons_zero]
    have BW1 := Lib.hid (B0.out.trans (((Below.refl _ W0).alloc (Nat.le_refl _) (.cells #[.int .u8 1] 5)).mono B0.out.size))
    have KAW1 := Lib.hid (KA0.out.next ((Below.refl _ W0).alloc (Nat.le_refl _) (.cells #[.int .u8 1] 5)))
    have OBW1 := Lib.hid (rb_byte W0 1 (.int .u8 1) rfl)
    generalize hW1 : W0.alloc (.cells #[.int .u8 1] 5) = W1 at *
    clear hW1
    refine wpAnyH_ready (rs := [6, 9]) (by kernel_rfl) (by simp) ?_
    refine AllReadyH.cons rfl (fun K hK => ?_) (AllReadyH.cons rfl (fun K hK => ?_) AllReadyH.nil)
    · skip
      go_simp
      refine hK.out _ _ trivial (fun hHeld2 => ?_)
      clear hK K hHeld1
      try simp only [Act.put, List.getElem_toArray, List.getElem_cons_succ, List.getElem_cons_zero, List.setIfInBounds_toArray, List.set_cons_succ, List.set_cons_zero]
      have BW2 := Lib.hid (BW1.out.trans (((Below.refl _ W1).alloc (Nat.le_refl _) (.cells #[.slice none 0 0, .slice Ai lab.length ci, .slice (some ⟨W0.heap.size, 0, none⟩) 1 1] 31)).mono BW1.out.size))
      have KAW2 := Lib.hid (KAW1.out.next ((Below.refl _ W1).alloc (Nat.le_refl _) (.cells #[.slice none 0 0, .slice Ai lab.length ci, .slice (some ⟨W0.heap.size, 0, none⟩) 1 1] 31)))
      have OBW2 := Lib.hid (OBW1.out.below ((Below.refl _ W1).alloc (Nat.le_refl _) (.cells #[.slice none 0 0, .slice Ai lab.length ci, .slice (some ⟨W0.heap.size, 0, none⟩) 1 1] 31)))
      have PPW2 := Lib.hid (show SlicesAt (W1.alloc (.cells #[.slice none 0 0, .slice Ai lab.length ci, .slice (some ⟨W0.heap.size, 0, none⟩) 1 1] 31)) W1.heap.size 0 [[], lab, [1]] from slices3 (Blk.new _ _ _) (HR.out.below BW2.out) (OBW2.out))
      generalize hW2 : W1.alloc (.cells #[.slice none 0 0, .slice Ai lab.length ci, .slice (some ⟨W0.heap.size, 0, none⟩) 1 1] 31) = W2 at *
      clear hW2
      refine wpAnyH_ready (rs := [7, 9]) (by kernel_rfl) (by simp) ?_
      refine AllReadyH.cons rfl (fun K hK => ?_) (AllReadyH.cons rfl (fun K hK => ?_) AllReadyH.nil)
      · skip
        go_simp
        go_at_call 76
        refine (HJO.out _ _ PPW2.out).mono ?_
        rintro e W3 ⟨A3, c3, rfl, hr3, bel3⟩
        go_wp2
        refine hK.out _ _ trivial (fun hHeld3 => ?_)
        clear hK K hHeld2
        try simp only [Act.put, List.getElem_toArray, List.getElem_cons_succ, List.getElem_cons_zero, List.setIfInBounds_toArray, List.set_cons_succ, List.set_cons_zero]
        have BW3 := Lib.hid (BW2.out.trans ((bel3).mono BW2.out.size))
        have KAW3 := Lib.hid (KAW2.out.next (bel3))
        have OBW3 := Lib.hid (OBW2.out.below (bel3))
        have PPW3 := Lib.hid (PPW2.out.below (bel3))
        have JJW3 := Lib.hid hr3
        clear bel3 hr3
        refine wpAnyH_ready (rs := [8, 9]) (by kernel_rfl) (by simp) ?_
        refine AllReadyH.cons rfl (fun K hK => ?_) (AllReadyH.cons rfl (fun K hK => ?_) AllReadyH.nil)
        · skip
          go_simp
          go_at_call 75
          refine (HMM.out A3 c3 W3 JJW3.out BW3.out KAW3.out).mono ?_
          rintro e W4 ⟨rfl, bel4⟩
          go_wp2
          refine hK.out _ _ trivial (fun hHeld4 => ?_)
          clear hK K hHeld3
          try simp only [Act.put, List.getElem_toArray, List.getElem_cons_succ, List.getElem_cons_zero, List.setIfInBounds_toArray, List.set_cons_succ, List.set_cons_zero]
          have BW4 := Lib.hid (BW3.out.trans ((bel4).mono BW3.out.size))
          have KAW4 := Lib.hid (KAW3.out.next (bel4))
          have OBW4 := Lib.hid (OBW3.out.below (bel4))
          have PPW4 := Lib.hid (PPW3.out.below (bel4))
          have JJW4 := Lib.hid (JJW3.out.below (bel4))
          clear bel4
          refine wpAnyH_ready (rs := [9]) (by kernel_rfl) (by simp) ?_
          refine AllReadyH.cons rfl (fun K hK => ?_) AllReadyH.nil
          go_simp
          refine hK.out _ _ trivial (fun hHeld5 => ?_)
          clear hK K hHeld4
          try simp only [Act.put, List.getElem_toArray, List.getElem_cons_succ, List.getElem_cons_zero, List.setIfInBounds_toArray, List.set_cons_succ, List.set_cons_zero]
          have BW5 := Lib.hid (BW4.out.trans (((Below.refl _ W4).alloc (Nat.le_refl _) (.cells (bytesL (zeros 32)).toArray 22)).mono BW4.out.size))
          have KAW5 := Lib.hid (KAW4.out.next ((Below.refl _ W4).alloc (Nat.le_refl _) (.cells (bytesL (zeros 32)).toArray 22)))
          have OBW5 := Lib.hid (OBW4.out.below ((Below.refl _ W4).alloc (Nat.le_refl _) (.cells (bytesL (zeros 32)).toArray 22)))
          have PPW5 := Lib.hid (PPW4.out.below ((Below.refl _ W4).alloc (Nat.le_refl _) (.cells (bytesL (zeros 32)).toArray 22)))
          have JJW5 := Lib.hid (JJW4.out.below ((Below.refl _ W4).alloc (Nat.le_refl _) (.cells (bytesL (zeros 32)).toArray 22)))
          have GEW4 := Lib.hid (show w.heap.size ≤ W4.heap.size from BW4.out.size)
          have ZZW5 := Lib.hid (Blk.new W4 22 (bytesL (zeros 32)).toArray)
          generalize hW5 : W4.alloc (.cells (bytesL (zeros 32)).toArray 22) = W5 at *
          clear hW5
          refine wpAnyH_ready (rs := [10]) (by kernel_rfl) (by simp) ?_
          refine AllReadyH.cons rfl (fun K hK => ?_) AllReadyH.nil
          have hz6 := ZZW5.out
          unfold Blk at hz6
          refine step_store_row (by rfl) 22 _ _ rfl (W4.heap.size) (bytesL mk).toArray rfl rfl 22 (bytesL (zeros 32)).toArray hz6 HSM.out HSZ.out (bytesL_one mk) ?_
          have ZM6 := Lib.hid (show Blk (W5.setRow (W4.heap.size) (bytesL mk).toArray) (W4.heap.size) 22 (bytesL mk).toArray from setRow_heap _ _ _ _ _ _ hz6)
          have BW6 := Lib.hid (below_setRow BW5.out GEW4.out (bytesL mk).toArray)
          refine hK.out _ _ trivial (fun hHeld6 => ?_)
          clear hK K hHeld5
          try simp only [Act.put, List.getElem_toArray, List.getElem_cons_succ, List.getElem_cons_zero, List.setIfInBounds_toArray, List.set_cons_succ, List.set_cons_zero]
          generalize W5.setRow (W4.heap.size) (bytesL mk).toArray = W6 at *
          refine wpAnyH_done (by kernel_rfl) ?_ _
          clear hHeld6 hz6
          have C0 := Lib.hid (show OInv W6.heap.size W6 none 0 0 [] W6 from ⟨OwnB.nil _, Fresh.none _, Below.refl _ _, Nat.le_refl _⟩)
          go_wp2_with (at_builtin; refine wpList_app rfl (.tmp 27) (.tmp 28) rfl _ none _ 0 _ rfl C0.out.own (some ⟨W4.heap.size, 0, none⟩) 32 32 mk rfl HML.out (rb_blk ZM6.out) (by omega) ?_; intro A9 c9 w9 ho hg hb; have C9 := Lib.hid (C0.out.app ho hg hb); clear ho hg hb)
          have hcap := C9.out.own.cap
          have hrb := C9.out.own.rb
          rw [List.nil_append] at hrb
          obtain ⟨g9, o9, rfl, _, _⟩ := hrb.head (by rw [HML.out]; omega)
          have HBE := Lib.hid (BW6.out.trans (C9.out.bel.mono BW6.out.size))
          have HFR := Lib.hid (show Fresh w.heap.size (some ⟨g9, o9, none⟩) from fun r hr => Nat.le_trans BW6.out.size (C9.out.fr r hr))
          have HRB := Lib.hid hrb
          rw [Nat.zero_add] at hcap
          clear hrb C0 C9
          rw [rounds_succ]
          go_wp2_with fail
          go_returns
          exact ⟨_, _, rfl, by rw [← HMK.out]; exact HRB.out, HBE.out, HFR.out⟩
        · skip
          go_simp
          refine hK.out _ _ trivial (fun hHeld7 => ?_)
          clear hK K hHeld3
          try simp only [Act.put, List.getElem_toArray, List.getElem_cons_succ, List.getElem_cons_zero, List.setIfInBounds_toArray, List.set_cons_succ, List.set_cons_zero]
          have BW7 := Lib.hid (BW3.out.trans (((Below.refl _ W3).alloc (Nat.le_refl _) (.cells (bytesL (zeros 32)).toArray 22)).mono BW3.out.size))
          have KAW7 := Lib.hid (KAW3.out.next ((Below.refl _ W3).alloc (Nat.le_refl _) (.cells (bytesL (zeros 32)).toArray 22)))
          have OBW7 := Lib.hid (OBW3.out.below ((Below.refl _ W3).alloc (Nat.le_refl _) (.cells (bytesL (zeros 32)).toArray 22)))
          have PPW7 := Lib.hid (PPW3.out.below ((Below.refl _ W3).alloc (Nat.le_refl _) (.cells (bytesL (zeros 32)).toArray 22)))
          have JJW7 := Lib.hid (JJW3.out.below ((Below.refl _ W3).alloc (Nat.le_refl _) (.cells (bytesL (zeros 32)).toArray 22)))
          have GEW3 := Lib.hid (show w.heap.size ≤ W3.heap.size from BW3.out.size)
          have ZZW7 := Lib.hid (Blk.new W3 22 (bytesL (zeros 32)).toArray)
          generalize hW7 : W3.alloc (.cells (bytesL (zeros 32)).toArray 22) = W7 at *
          clear hW7
          refine wpAnyH_ready (rs := [8]) (by kernel_rfl) (by simp) ?_
          refine AllReadyH.cons rfl (fun K hK => ?_) AllReadyH.nil
          go_simp
          go_at_call 75
          refine (HMM.out A3 c3 W7 JJW7.out BW7.out KAW7.out).mono ?_
          rintro e W8 ⟨rfl, bel8⟩
          go_wp2
          refine hK.out _ _ trivial (fun hHeld8 => ?_)
          clear hK K hHeld7
          try simp only [Act.put, List.getElem_toArray, List.getElem_cons_succ, List.getElem_cons_zero, List.setIfInBounds_toArray, List.set_cons_succ, List.set_cons_zero]
          have BW8 := Lib.hid (BW7.out.trans ((bel8).mono BW7.out.size))
          have KAW8 := Lib.hid (KAW7.out.next (bel8))
          have OBW8 := Lib.hid (OBW7.out.below (bel8))
          have PPW8 := Lib.hid (PPW7.out.below (bel8))
          have JJW8 := Lib.hid (JJW7.out.below (bel8))
          have ZZW8 := Lib.hid (ZZW7.out.next (bel8))
          clear bel8
          refine wpAnyH_ready (rs := [10]) (by kernel_rfl) (by simp) ?_
          refine AllReadyH.cons rfl (fun K hK => ?_) AllReadyH.nil
          have hz9 := ZZW8.out
          unfold Blk at hz9
          refine step_store_row (by rfl) 22 _ _ rfl (W3.heap.size) (bytesL mk).toArray rfl rfl 22 (bytesL (zeros 32)).toArray hz9 HSM.out HSZ.out (bytesL_one mk) ?_
          have ZM9 := Lib.hid (show Blk (W8.setRow (W3.heap.size) (bytesL mk).toArray) (W3.heap.size) 22 (bytesL mk).toArray from setRow_heap _ _ _ _ _ _ hz9)
          have BW9 := Lib.hid (below_setRow BW8.out GEW3.out (bytesL mk).toArray)
          refine hK.out _ _ trivial (fun hHeld9 => ?_)
          clear hK K hHeld8
          try simp only [Act.put, List.getElem_toArray, List.getElem_cons_succ, List.getElem_cons_zero, List.setIfInBounds_toArray, List.set_cons_succ, List.set_cons_zero]
          generalize W8.setRow (W3.heap.size) (bytesL mk).toArray = W9 at *
          refine wpAnyH_done (by kernel_rfl) ?_ _
          clear hHeld9 hz9
          have C0 := Lib.hid (show OInv W9.heap.size W9 none 0 0 [] W9 from ⟨OwnB.nil _, Fresh.none _, Below.refl _ _, Nat.le_refl _⟩)
          go_wp2_with (at_builtin; refine wpList_app rfl (.tmp 27) (.tmp 28) rfl _ none _ 0 _ rfl C0.out.own (some ⟨W3.heap.size, 0, none⟩) 32 32 mk rfl HML.out (rb_blk ZM9.out) (by omega) ?_; intro A9 c9 w9 ho hg hb; have C9 := Lib.hid (C0.out.app ho hg hb); clear ho hg hb)
          have hcap := C9.out.own.cap
          have hrb := C9.out.own.rb
          rw [List.nil_append] at hrb
          obtain ⟨g9, o9, rfl, _, _⟩ := hrb.head (by rw [HML.out]; omega)
          have HBE := Lib.hid (BW9.out.trans (C9.out.bel.mono BW9.out.size))
          have HFR := Lib.hid (show Fresh w.heap.size (some ⟨g9, o9, none⟩) from fun r hr => Nat.le_trans BW9.out.size (C9.out.fr r hr))
          have HRB := Lib.hid hrb
          rw [Nat.zero_add] at hcap
          clear hrb C0 C9
          rw [rounds_succ]
          go_wp2_with fail
          go_returns
          exact ⟨_, _, rfl, by rw [← HMK.out]; exact HRB.out, HBE.out, HFR.out⟩
      · skip
        go_simp
        refine hK.out _ _ trivial (fun hHeld10 => ?_)
        clear hK K hHeld2
        try simp only [Act.put, List.getElem_toArray, List.getElem_cons_succ, List.getElem_cons_zero, List.setIfInBounds_toArray, List.set_cons_succ, List.set_cons_zero]
        have BW10 := Lib.hid (BW2.out.trans (((Below.refl _ W2).alloc (Nat.le_refl _) (.cells (bytesL (zeros 32)).toArray 22)).mono BW2.out.size))
        have KAW10 := Lib.hid (KAW2.out.next ((Below.refl _ W2).alloc (Nat.le_refl _) (.cells (bytesL (zeros 32)).toArray 22)))
        have OBW10 := Lib.hid (OBW2.out.below ((Below.refl _ W2).alloc (Nat.le_refl _) (.cells (bytesL (zeros 32)).toArray 22)))
        have PPW10 := Lib.hid (PPW2.out.below ((Below.refl _ W2).alloc (Nat.le_refl _) (.cells (bytesL (zeros 32)).toArray 22)))
        have GEW2 := Lib.hid (show w.heap.size ≤ W2.heap.size from BW2.out.size)
        have ZZW10 := Lib.hid (Blk.new W2 22 (bytesL (zeros 32)).toArray)
        generalize hW10 : W2.alloc (.cells (bytesL (zeros 32)).toArray 22) = W10 at *
        clear hW10
        refine wpAnyH_ready (rs := [7]) (by kernel_rfl) (by simp) ?_
        refine AllReadyH.cons rfl (fun K hK => ?_) AllReadyH.nil
        go_simp
        go_at_call 76
        refine (HJO.out _ _ PPW10.out).mono ?_
        rintro e W11 ⟨A3, c3, rfl, hr11, bel11⟩
        go_wp2
        refine hK.out _ _ trivial (fun hHeld11 => ?_)
        clear hK K hHeld10
        try simp only [Act.put, List.getElem_toArray, List.getElem_cons_succ, List.getElem_cons_zero, List.setIfInBounds_toArray, List.set_cons_succ, List.set_cons_zero]
        have BW11 := Lib.hid (BW10.out.trans ((bel11).mono BW10.out.size))
        have KAW11 := Lib.hid (KAW10.out.next (bel11))
        have OBW11 := Lib.hid (OBW10.out.below (bel11))
        have PPW11 := Lib.hid (PPW10.out.below (bel11))
        have ZZW11 := Lib.hid (ZZW10.out.next (bel11))
        have JJW11 := Lib.hid hr11
        clear bel11 hr11
        refine wpAnyH_ready (rs := [8]) (by kernel_rfl) (by simp) ?_
        refine AllReadyH.cons rfl (fun K hK => ?_) AllReadyH.nil
        go_simp
        go_at_call 75
        refine (HMM.out A3 c3 W11 JJW11.out BW11.out KAW11.out).mono ?_
        rintro e W12 ⟨rfl, bel12⟩
        go_wp2
        refine hK.out _ _ trivial (fun hHeld12 => ?_)
        clear hK K hHeld11
        try simp only [Act.put, List.getElem_toArray, List.getElem_cons_succ, List.getElem_cons_zero, List.setIfInBounds_toArray, List.set_cons_succ, List.set_cons_zero]
        have BW12 := Lib.hid (BW11.out.trans ((bel12).mono BW11.out.size))
        have KAW12 := Lib.hid (KAW11.out.next (bel12))
        have OBW12 := Lib.hid (OBW11.out.below (bel12))
        have PPW12 := Lib.hid (PPW11.out.below (bel12))
        have JJW12 := Lib.hid (JJW11.out.below (bel12))
        have ZZW12 := Lib.hid (ZZW11.out.next (bel12))
        clear bel12
        refine wpAnyH_ready (rs := [10]) (by kernel_rfl) (by simp) ?_
        refine AllReadyH.cons rfl (fun K hK => ?_) AllReadyH.nil
        have hz13 := ZZW12.out
        unfold Blk at hz13
        refine step_store_row (by rfl) 22 _ _ rfl (W2.heap.size) (bytesL mk).toArray rfl rfl 22 (bytesL (zeros 32)).toArray hz13 HSM.out HSZ.out (bytesL_one mk) ?_
        have ZM13 := Lib.hid (show Blk (W12.setRow (W2.heap.size) (bytesL mk).toArray) (W2.heap.size) 22 (bytesL mk).toArray from setRow_heap _ _ _ _ _ _ hz13)
        have BW13 := Lib.hid (below_setRow BW12.out GEW2.out (bytesL mk).toArray)
        refine hK.out _ _ trivial (fun hHeld13 => ?_)
        clear hK K hHeld12
        try simp only [Act.put, List.getElem_toArray, List.getElem_cons_succ, List.getElem_cons_zero, List.setIfInBounds_toArray, List.set_cons_succ, List.set_cons_zero]
        generalize W12.setRow (W2.heap.size) (bytesL mk).toArray = W13 at *
        refine wpAnyH_done (by kernel_rfl) ?_ _
        clear hHeld13 hz13
        have C0 := Lib.hid (show OInv W13.heap.size W13 none 0 0 [] W13 from ⟨OwnB.nil _, Fresh.none _, Below.refl _ _, Nat.le_refl _⟩)
        go_wp2_with (at_builtin; refine wpList_app rfl (.tmp 27) (.tmp 28) rfl _ none _ 0 _ rfl C0.out.own (some ⟨W2.heap.size, 0, none⟩) 32 32 mk rfl HML.out (rb_blk ZM13.out) (by omega) ?_; intro A9 c9 w9 ho hg hb; have C9 := Lib.hid (C0.out.app ho hg hb); clear ho hg hb)
        have hcap := C9.out.own.cap
        have hrb := C9.out.own.rb
        rw [List.nil_append] at hrb
        obtain ⟨g9, o9, rfl, _, _⟩ := hrb.head (by rw [HML.out]; omega)
        have HBE := Lib.hid (BW13.out.trans (C9.out.bel.mono BW13.out.size))
        have HFR := Lib.hid (show Fresh w.heap.size (some ⟨g9, o9, none⟩) from fun r hr => Nat.le_trans BW13.out.size (C9.out.fr r hr))
        have HRB := Lib.hid hrb
        rw [Nat.zero_add] at hcap
        clear hrb C0 C9
        rw [rounds_succ]
        go_wp2_with fail
        go_returns
        exact ⟨_, _, rfl, by rw [← HMK.out]; exact HRB.out, HBE.out, HFR.out⟩
    · skip
      go_simp
      refine hK.out _ _ trivial (fun hHeld14 => ?_)
      clear hK K hHeld1
      try simp only [Act.put, List.getElem_toArray, List.getElem_cons_succ, List.getElem_cons_zero, List.setIfInBounds_toArray, List.set_cons_succ, List.set_cons_zero]
      have BW14 := Lib.hid (BW1.out.trans (((Below.refl _ W1).alloc (Nat.le_refl _) (.cells (bytesL (zeros 32)).toArray 22)).mono BW1.out.size))
      have KAW14 := Lib.hid (KAW1.out.next ((Below.refl _ W1).alloc (Nat.le_refl _) (.cells (bytesL (zeros 32)).toArray 22)))
      have OBW14 := Lib.hid (OBW1.out.below ((Below.refl _ W1).alloc (Nat.le_refl _) (.cells (bytesL (zeros 32)).toArray 22)))
      have GEW1 := Lib.hid (show w.heap.size ≤ W1.heap.size from BW1.out.size)
      have ZZW14 := Lib.hid (Blk.new W1 22 (bytesL (zeros 32)).toArray)
      generalize hW14 : W1.alloc (.cells (bytesL (zeros 32)).toArray 22) = W14 at *
      clear hW14
      refine wpAnyH_ready (rs := [6]) (by kernel_rfl) (by simp) ?_
      refine AllReadyH.cons rfl (fun K hK => ?_) AllReadyH.nil
      go_simp
      refine hK.out _ _ trivial (fun hHeld15 => ?_)
      clear hK K hHeld14
      try simp only [Act.put, List.getElem_toArray, List.getElem_cons_succ, List.getElem_cons_zero, List.setIfInBounds_toArray, List.set_cons_succ, List.set_cons_zero]
      have BW15 := Lib.hid (BW14.out.trans (((Below.refl _ W14).alloc (Nat.le_refl _) (.cells #[.slice none 0 0, .slice Ai lab.length ci, .slice (some ⟨W0.heap.size, 0, none⟩) 1 1] 31)).mono BW14.out.size))
      have KAW15 := Lib.hid (KAW14.out.next ((Below.refl _ W14).alloc (Nat.le_refl _) (.cells #[.slice none 0 0, .slice Ai lab.length ci, .slice (some ⟨W0.heap.size, 0, none⟩) 1 1] 31)))
      have OBW15 := Lib.hid (OBW14.out.below ((Below.refl _ W14).alloc (Nat.le_refl _) (.cells #[.slice none 0 0, .slice Ai lab.length ci, .slice (some ⟨W0.heap.size, 0, none⟩) 1 1] 31)))
      have ZZW15 := Lib.hid (ZZW14.out.next ((Below.refl _ W14).alloc (Nat.le_refl _) (.cells #[.slice none 0 0, .slice Ai lab.length ci, .slice (some ⟨W0.heap.size, 0, none⟩) 1 1] 31)))
      have PPW15 := Lib.hid (show SlicesAt (W14.alloc (.cells #[.slice none 0 0, .slice Ai lab.length ci, .slice (some ⟨W0.heap.size, 0, none⟩) 1 1] 31)) W14.heap.size 0 [[], lab, [1]] from slices3 (Blk.new _ _ _) (HR.out.below BW15.out) (OBW15.out))
      generalize hW15 : W14.alloc (.cells #[.slice none 0 0, .slice Ai lab.length ci, .slice (some ⟨W0.heap.size, 0, none⟩) 1 1] 31) = W15 at *
      clear hW15
      refine wpAnyH_ready (rs := [7]) (by kernel_rfl) (by simp) ?_
      refine AllReadyH.cons rfl (fun K hK => ?_) AllReadyH.nil
      go_simp
      go_at_call 76
      refine (HJO.out _ _ PPW15.out).mono ?_
      rintro e W16 ⟨A3, c3, rfl, hr16, bel16⟩
      go_wp2
      refine hK.out _ _ trivial (fun hHeld16 => ?_)
      clear hK K hHeld15
      try simp only [Act.put, List.getElem_toArray, List.getElem_cons_succ, List.getElem_cons_zero, List.setIfInBounds_toArray, List.set_cons_succ, List.set_cons_zero]
      have BW16 := Lib.hid (BW15.out.trans ((bel16).mono BW15.out.size))
      have KAW16 := Lib.hid (KAW15.out.next (bel16))
      have OBW16 := Lib.hid (OBW15.out.below (bel16))
      have PPW16 := Lib.hid (PPW15.out.below (bel16))
      have ZZW16 := Lib.hid (ZZW15.out.next (bel16))
      have JJW16 := Lib.hid hr16
      clear bel16 hr16
      refine wpAnyH_ready (rs := [8]) (by kernel_rfl) (by simp) ?_
      refine AllReadyH.cons rfl (fun K hK => ?_) AllReadyH.nil
      go_simp
      go_at_call 75
      refine (HMM.out A3 c3 W16 JJW16.out BW16.out KAW16.out).mono ?_
      rintro e W17 ⟨rfl, bel17⟩
      go_wp2
      refine hK.out _ _ trivial (fun hHeld17 => ?_)
      clear hK K hHeld16
      try simp only [Act.put, List.getElem_toArray, List.getElem_cons_succ, List.getElem_cons_zero, List.setIfInBounds_toArray, List.set_cons_succ, List.set_cons_zero]
      have BW17 := Lib.hid (BW16.out.trans ((bel17).mono BW16.out.size))
      have KAW17 := Lib.hid (KAW16.out.next (bel17))
      have OBW17 := Lib.hid (OBW16.out.below (bel17))
      have PPW17 := Lib.hid (PPW16.out.below (bel17))
      have JJW17 := Lib.hid (JJW16.out.below (bel17))
      have ZZW17 := Lib.hid (ZZW16.out.next (bel17))
      clear bel17
      refine wpAnyH_ready (rs := [10]) (by kernel_rfl) (by simp) ?_
      refine AllReadyH.cons rfl (fun K hK => ?_) AllReadyH.nil
      have hz18 := ZZW17.out
      unfold Blk at hz18
      refine step_store_row (by rfl) 22 _ _ rfl (W1.heap.size) (bytesL mk).toArray rfl rfl 22 (bytesL (zeros 32)).toArray hz18 HSM.out HSZ.out (bytesL_one mk) ?_
      have ZM18 := Lib.hid (show Blk (W17.setRow (W1.heap.size) (bytesL mk).toArray) (W1.heap.size) 22 (bytesL mk).toArray from setRow_heap _ _ _ _ _ _ hz18)
      have BW18 := Lib.hid (below_setRow BW17.out GEW1.out (bytesL mk).toArray)
      refine hK.out _ _ trivial (fun hHeld18 => ?_)
      clear hK K hHeld17
      try simp only [Act.put, List.getElem_toArray, List.getElem_cons_succ, List.getElem_cons_zero, List.setIfInBounds_toArray, List.set_cons_succ, List.set_cons_zero]
      generalize W17.setRow (W1.heap.size) (bytesL mk).toArray = W18 at *
      refine wpAnyH_done (by kernel_rfl) ?_ _
      clear hHeld18 hz18
      have C0 := Lib.hid (show OInv W18.heap.size W18 none 0 0 [] W18 from ⟨OwnB.nil _, Fresh.none _, Below.refl _ _, Nat.le_refl _⟩)
      go_wp2_with (at_builtin; refine wpList_app rfl (.tmp 27) (.tmp 28) rfl _ none _ 0 _ rfl C0.out.own (some ⟨W1.heap.size, 0, none⟩) 32 32 mk rfl HML.out (rb_blk ZM18.out) (by omega) ?_; intro A9 c9 w9 ho hg hb; have C9 := Lib.hid (C0.out.app ho hg hb); clear ho hg hb)
      have hcap := C9.out.own.cap
      have hrb := C9.out.own.rb
      rw [List.nil_append] at hrb
      obtain ⟨g9, o9, rfl, _, _⟩ := hrb.head (by rw [HML.out]; omega)
      have HBE := Lib.hid (BW18.out.trans (C9.out.bel.mono BW18.out.size))
      have HFR := Lib.hid (show Fresh w.heap.size (some ⟨g9, o9, none⟩) from fun r hr => Nat.le_trans BW18.out.size (C9.out.fr r hr))
      have HRB := Lib.hid hrb
      rw [Nat.zero_add] at hcap
      clear hrb C0 C9
      rw [rounds_succ]
      go_wp2_with fail
      go_returns
      exact ⟨_, _, rfl, by rw [← HMK.out]; exact HRB.out, HBE.out, HFR.out⟩
  · skip
    go_simp
    refine hK.out _ _ trivial (fun hHeld19 => ?_)
    clear hK K hHeld
    try simp only [Act.put, List.getElem_toArray, List.getElem_cons_succ, List.getElem_cons_zero, List.setIfInBounds_toArray, List.set_cons_succ, List.set_cons_zero]
    have BW19 := Lib.hid (B0.out.trans (((Below.refl _ W0).alloc (Nat.le_refl _) (.cells (bytesL (zeros 32)).toArray 22)).mono B0.out.size))
    have KAW19 := Lib.hid (KA0.out.next ((Below.refl _ W0).alloc (Nat.le_refl _) (.cells (bytesL (zeros 32)).toArray 22)))
    have GEW0 := Lib.hid (show w.heap.size ≤ W0.heap.size from B0.out.size)
    have ZZW19 := Lib.hid (Blk.new W0 22 (bytesL (zeros 32)).toArray)
    generalize hW19 : W0.alloc (.cells (bytesL (zeros 32)).toArray 22) = W19 at *
    clear hW19
    refine wpAnyH_ready (rs := [5]) (by kernel_rfl) (by simp) ?_
    refine AllReadyH.cons rfl (fun K hK => ?_) AllReadyH.nil
    go_simp
    refine hK.out _ _ trivial (fun hHeld20 => ?_)
    clear hK K hHeld19
    try simp only [Act.put, List.getElem_toArray, List.getElem_cons_succ, List.getElem_cons_zero, List.setIfInBounds_toArray, List.set_cons_succ, List.set_cons_zero]
    have BW20 := Lib.hid (BW19.out.trans (((Below.refl _ W19).alloc (Nat.le_refl _) (.cells #[.int .u8 1] 5)).mono BW19.out.size))
    have KAW20 := Lib.hid (KAW19.out.next ((Below.refl _ W19).alloc (Nat.le_refl _) (.cells #[.int .u8 1] 5)))
    have ZZW20 := Lib.hid (ZZW19.out.next ((Below.refl _ W19).alloc (Nat.le_refl _) (.cells #[.int .u8 1] 5)))
    have OBW20 := Lib.hid (rb_byte W19 1 (.int .u8 1) rfl)
    generalize hW20 : W19.alloc (.cells #[.int .u8 1] 5) = W20 at *
    clear hW20
    refine wpAnyH_ready (rs := [6]) (by kernel_rfl) (by simp) ?_
    refine AllReadyH.cons rfl (fun K hK => ?_) AllReadyH.nil
    go_simp
    refine hK.out _ _ trivial (fun hHeld21 => ?_)
    clear hK K hHeld20
    try simp only [Act.put, List.getElem_toArray, List.getElem_cons_succ, List.getElem_cons_zero, List.setIfInBounds_toArray, List.set_cons_succ, List.set_cons_zero]
    have BW21 := Lib.hid (BW20.out.trans (((Below.refl _ W20).alloc (Nat.le_refl _) (.cells #[.slice none 0 0, .slice Ai lab.length ci, .slice (some ⟨W19.heap.size, 0, none⟩) 1 1] 31)).mono BW20.out.size))
    have KAW21 := Lib.hid (KAW20.out.next ((Below.refl _ W20).alloc (Nat.le_refl _) (.cells #[.slice none 0 0, .slice Ai lab.length ci, .slice (some ⟨W19.heap.size, 0, none⟩) 1 1] 31)))
    have OBW21 := Lib.hid (OBW20.out.below ((Below.refl _ W20).alloc (Nat.le_refl _) (.cells #[.slice none 0 0, .slice Ai lab.length ci, .slice (some ⟨W19.heap.size, 0, none⟩) 1 1] 31)))
    have ZZW21 := Lib.hid (ZZW20.out.next ((Below.refl _ W20).alloc (Nat.le_refl _) (.cells #[.slice none 0 0, .slice Ai lab.length ci, .slice (some ⟨W19.heap.size, 0, none⟩) 1 1] 31)))
    have PPW21 := Lib.hid (show SlicesAt (W20.alloc (.cells #[.slice none 0 0, .slice Ai lab.length ci, .slice (some ⟨W19.heap.size, 0, none⟩) 1 1] 31)) W20.heap.size 0 [[], lab, [1]] from slices3 (Blk.new _ _ _) (HR.out.below BW21.out) (OBW21.out))
    generalize hW21 : W20.alloc (.cells #[.slice none 0 0, .slice Ai lab.length ci, .slice (some ⟨W19.heap.size, 0, none⟩) 1 1] 31) = W21 at *
    clear hW21
    refine wpAnyH_ready (rs := [7]) (by kernel_rfl) (by simp) ?_
    refine AllReadyH.cons rfl (fun K hK => ?_) AllReadyH.nil
    go_simp
    go_at_call 76
    refine (HJO.out _ _ PPW21.out).mono ?_
    rintro e W22 ⟨A3, c3, rfl, hr22, bel22⟩
    go_wp2
    refine hK.out _ _ trivial (fun hHeld22 => ?_)
    clear hK K hHeld21
    try simp only [Act.put, List.getElem_toArray, List.getElem_cons_succ, List.getElem_cons_zero, List.setIfInBounds_toArray, List.set_cons_succ, List.set_cons_zero]
    have BW22 := Lib.hid (BW21.out.trans ((bel22).mono BW21.out.size))
    have KAW22 := Lib.hid (KAW21.out.next (bel22))
    have OBW22 := Lib.hid (OBW21.out.below (bel22))
    have PPW22 := Lib.hid (PPW21.out.below (bel22))
    have ZZW22 := Lib.hid (ZZW21.out.next (bel22))
    have JJW22 := Lib.hid hr22
    clear bel22 hr22
    refine wpAnyH_ready (rs := [8]) (by kernel_rfl) (by simp) ?_
    refine AllReadyH.cons rfl (fun K hK => ?_) AllReadyH.nil
    go_simp
    go_at_call 75
    refine (HMM.out A3 c3 W22 JJW22.out BW22.out KAW22.out).mono ?_
    rintro e W23 ⟨rfl, bel23⟩
    go_wp2
    refine hK.out _ _ trivial (fun hHeld23 => ?_)
    clear hK K hHeld22
    try simp only [Act.put, List.getElem_toArray, List.getElem_cons_succ, List.getElem_cons_zero, List.setIfInBounds_toArray, List.set_cons_succ, List.set_cons_zero]
    have BW23 := Lib.hid (BW22.out.trans ((bel23).mono BW22.out.size))
    have KAW23 := Lib.hid (KAW22.out.next (bel23))
    have OBW23 := Lib.hid (OBW22.out.below (bel23))
    have PPW23 := Lib.hid (PPW22.out.below (bel23))
    have JJW23 := Lib.hid (JJW22.out.below (bel23))
    have ZZW23 := Lib.hid (ZZW22.out.next (bel23))
    clear bel23
    refine wpAnyH_ready (rs := [10]) (by kernel_rfl) (by simp) ?_
    refine AllReadyH.cons rfl (fun K hK => ?_) AllReadyH.nil
    have hz24 := ZZW23.out
    unfold Blk at hz24
    refine step_store_row (by rfl) 22 _ _ rfl (W0.heap.size) (bytesL mk).toArray rfl rfl 22 (bytesL (zeros 32)).toArray hz24 HSM.out HSZ.out (bytesL_one mk) ?_
    have ZM24 := Lib.hid (show Blk (W23.setRow (W0.heap.size) (bytesL mk).toArray) (W0.heap.size) 22 (bytesL mk).toArray from setRow_heap _ _ _ _ _ _ hz24)
    have BW24 := Lib.hid (below_setRow BW23.out GEW0.out (bytesL mk).toArray)
    refine hK.out _ _ trivial (fun hHeld24 => ?_)
    clear hK K hHeld23
    try simp only [Act.put, List.getElem_toArray, List.getElem_cons_succ, List.getElem_cons_zero, List.setIfInBounds_toArray, List.set_cons_succ, List.set_cons_zero]
    generalize W23.setRow (W0.heap.size) (bytesL mk).toArray = W24 at *
    refine wpAnyH_done (by kernel_rfl) ?_ _
    clear hHeld24 hz24
    have C0 := Lib.hid (show OInv W24.heap.size W24 none 0 0 [] W24 from ⟨OwnB.nil _, Fresh.none _, Below.refl _ _, Nat.le_refl _⟩)
    go_wp2_with (at_builtin; refine wpList_app rfl (.tmp 27) (.tmp 28) rfl _ none _ 0 _ rfl C0.out.own (some ⟨W0.heap.size, 0, none⟩) 32 32 mk rfl HML.out (rb_blk ZM24.out) (by omega) ?_; intro A9 c9 w9 ho hg hb; have C9 := Lib.hid (C0.out.app ho hg hb); clear ho hg hb)
    have hcap := C9.out.own.cap
    have hrb := C9.out.own.rb
    rw [List.nil_append] at hrb
    obtain ⟨g9, o9, rfl, _, _⟩ := hrb.head (by rw [HML.out]; omega)
    have HBE := Lib.hid (BW24.out.trans (C9.out.bel.mono BW24.out.size))
    have HFR := Lib.hid (show Fresh w.heap.size (some ⟨g9, o9, none⟩) from fun r hr => Nat.le_trans BW24.out.size (C9.out.fr r hr))
    have HRB := Lib.hid hrb
    rw [Nat.zero_add] at hcap
    clear hrb C0 C9
    rw [rounds_succ]
    go_wp2_with fail
    go_returns
    exact ⟨_, _, rfl, by rw [← HMK.out]; exact HRB.out, HBE.out, HFR.out⟩

end Go.Proofs.YtdkadlifjmmcbaaDoor
