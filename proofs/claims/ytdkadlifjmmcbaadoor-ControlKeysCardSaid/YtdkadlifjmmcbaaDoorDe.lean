/- The walks of hash.Expand (32 bytes) and hash.Derive. -/
import Derived.Test.YtdkadlifjmmcbaaDoorMac
import Derived.Test.YtdkadlifjmmcbaaDoorStr
import Derived.Laws.Cover3
namespace Go.Proofs.YtdkadlifjmmcbaaDoor
open Go.RowKit
set_option linter.unusedSimpArgs false
set_option linter.unusedVariables false

set_option maxRecDepth 100000 in
set_option maxHeartbeats 2000000 in
theorem expand_any (k : List UInt8) (Ai : Option Addr) (ni ci : Nat) (lab : List UInt8) (w : World) (hk : k.length = 32) (hl : lab.length = ni) (hr : RB w Ai lab) (hni : ni ≤ 1000) (hT : TabOK w) :
    Calls Tryd.prog 56 #[.agg (bytesL k).toArray, .slice Ai ni ci, .int .i64 32] w fun e w' => ∃ A, e = .returned (.tuple #[.slice A 32 32, .int .i64 0]) ∧ RB w' A (macB k (lab ++ [1])) ∧ Below w.heap.size w w' := by
  subst hl
  have HK := Lib.hid hk
  have HR := Lib.hid hr
  have HT := Lib.hid hT
  have k0 := Blk.new w 23 (bytesL k).toArray
  have hb0 := (Below.refl _ w).alloc (Nat.le_refl _) (.cells (bytesL k).toArray 23)
  have HB0 := Lib.hid hb0
  have K0 := Lib.hid k0
  have hzH := hash_zero
  clear hk hr hT k0 hb0
  go_enter Tryd.func56, Tryd.ntmps56
  go_wp2_with fail
  refine wp_loop_rounds 2 ?_
  rw [rounds_succ]
  go_wp2_with fail
  have w3 : ∃ W, W = ((w.alloc (.cells (bytesL k).toArray 23)).alloc (.cells #[.int .u8 1] 5)).alloc (.cells #[.slice none 0 0, .slice Ai lab.length ci, .slice (some ⟨w.heap.size + 1, 0, none⟩) 1 1] 31) := ⟨_, rfl⟩
  obtain ⟨W, hW⟩ := w3
  have hbW : Below w.heap.size w W := by
    rw [hW]
    exact (HB0.out.alloc (by simp) _).alloc (by simp; omega) _
  have kW : Blk W w.heap.size 23 (bytesL k).toArray := by
    rw [hW]
    exact (K0.out.alloc _).alloc _
  have oW : RB W (some ⟨w.heap.size + 1, 0, none⟩) [1] := by
    have h := rb_byte (w.alloc (.cells (bytesL k).toArray 23)) 1 (.int .u8 1) rfl
    rw [World.size_alloc] at h
    rw [hW]
    exact h.below ((Below.refl _ _).alloc (Nat.le_refl _) _)
  have nW : Blk W (w.heap.size + 1 + 1) 31 #[.slice none 0 0, .slice Ai lab.length ci, .slice (some ⟨w.heap.size + 1, 0, none⟩) 1 1] := by
    have h := Blk.new ((w.alloc (.cells (bytesL k).toArray 23)).alloc (.cells #[.int .u8 1] 5)) 31 #[.slice none 0 0, .slice Ai lab.length ci, .slice (some ⟨w.heap.size + 1, 0, none⟩) 1 1]
    rw [World.size_alloc, World.size_alloc] at h
    rw [hW]
    exact h
  have hpa : Lib.PartsAt W ⟨w.heap.size + 1 + 1, 0, none⟩ [.slice none 0 0, .slice Ai lab.length ci, .slice (some ⟨w.heap.size + 1, 0, none⟩) 1 1] [[], lab, [1]] := by
    refine ⟨rfl, fun j u hj => ?_, fun i v l hv hl => ?_⟩
    · rw [Addr.add_lit, Nat.zero_add]
      exact (nW.cell j).trans (by simpa using hj)
    · rcases i with _ | _ | _ | i
      · simp at hv hl
        subst hv hl
        exact rb_holds (A := none) (c := 0) RB.nil
      · simp at hv hl
        subst hv hl
        exact rb_holds (HR.out.below hbW)
      · simp at hv hl
        subst hv hl
        exact rb_holds oW
      · simp at hv
  have hfl : [[], lab, [1]].flatten = lab ++ [1] := by simp
  have hm := mac_any (some ⟨w.heap.size, 0, none⟩) 32 k (w.heap.size + 1 + 1) 0 3 3 _ _ W HK.out (rb_blk kW) rfl (by omega) (by omega) hpa (by omega) (by rw [hfl, List.length_append]; simp; omega) (HT.out.below hbW)
  rw [hfl] at hm
  have hml := macB_len k (lab ++ [1])
  obtain ⟨mk, hmk⟩ : ∃ x, x = macB k (lab ++ [1]) := ⟨_, rfl⟩
  rw [← hmk] at hm hml
  rw [← hW]
  have HM := Lib.hid hm
  have HML := Lib.hid hml
  have HMK := Lib.hid hmk
  have HBW := Lib.hid hbW
  clear hm hml hmk hW hbW kW oW nW hpa hfl HB0 K0
  refine HM.out.mono ?_
  rintro e w1 ⟨rfl, bel1⟩
  have hb1 := HBW.out.trans (bel1.mono HBW.out.size)
  have HN := Lib.hid (heap_alloc_new w1 (.cells (bytesL (zeros 32)).toArray 23))
  have HWR := Lib.hid (World.setRow_alloc_new w1 (bytesL (zeros 32)).toArray (bytesL mk).toArray 23)
  have HSH := Lib.hid (hash_size HML.out)
  have HSZ := Lib.hid (show (bytesL (zeros 32)).toArray.size = (bytesL mk).toArray.size by rw [List.size_toArray, List.size_toArray, bytesL_len, bytesL_len, HML.out, zeros_len])
  have HRM := Lib.hid (rb_blk (Blk.new w1 23 (bytesL mk).toArray))
  have HB2 := Lib.hid (hb1.alloc hb1.size (.cells (bytesL mk).toArray 23))
  clear bel1 hb1
  go_wp2_with (first | (refine wpList_store_row rfl 23 _ _ rfl w1.heap.size (bytesL mk).toArray rfl rfl 23 _ HN.out HSH.out HSZ.out (bytesL_one mk) ?_; rw [HWR.out]) | (at_builtin; refine wpList_app rfl (.tmp 32) (.tmp 33) rfl _ none 0 0 [] rfl (OwnB.nil _) (some ⟨w1.heap.size, 0, none⟩) 32 32 mk rfl HML.out HRM.out (by omega) ?_; intro A2 c2 w2 ho hg hb; have HO := Lib.hid ho; have HG := Lib.hid hg; clear ho hg hb) | fail)
  have hcap := HO.out.cap
  have hrb := HO.out.rb
  rw [List.nil_append] at hrb
  obtain ⟨g2, o2, rfl, _, _⟩ := hrb.head (by rw [HML.out]; omega)
  have hcm : c2 ≤ maxLen := by
    rcases HO.out.2.2 with ⟨e, _⟩ | ⟨_, cap, cur, e, _, _, _, hm, _⟩
    · cases e
    · injection e with _ _ e; omega
  simp only [maxLen] at hcm
  have HRB := Lib.hid hrb
  have HBE := Lib.hid (HB2.out.trans ((grown_below HG.out).mono HB2.out.size))
  clear hrb HO HG
  rw [Nat.zero_add] at hcap
  rw [rounds_succ]
  go_wp2_with fail
  go_returns
  exact ⟨_, rfl, by rw [← HMK.out]; exact HRB.out, HBE.out⟩
set_option maxRecDepth 100000 in
set_option maxHeartbeats 2000000 in
theorem derive_any (k : List UInt8) (s : ByteArray) (w : World) (hk : k.length = 32) (hs : s.size ≤ 1000) (hT : TabOK w) :
    Calls Tryd.prog 28 #[.agg (bytesL k).toArray, .string s] w fun e w' => e = .returned (.agg (bytesL (macB k (sB s ++ [1]))).toArray) ∧ Below w.heap.size w w' := by
  have hml := macB_len k (sB s ++ [1])
  have HK := Lib.hid hk
  have HT := Lib.hid hT
  have hzH := hash_zero
  have hn0 := heap_alloc_new w (.cells (bytesL k).toArray 23)
  have hn1 := (Blk.new w 23 (bytesL k).toArray).alloc (.cells (bytesL (zeros 32)).toArray 23)
  unfold Blk at hn1
  have hsz := hash_size hk
  have hn2 := Blk.new (w.alloc (.cells (bytesL k).toArray 23)) 23 (bytesL (zeros 32)).toArray
  rw [World.size_alloc] at hn2
  have HN2 := Lib.hid (hn2.next (bw_below _ s))
  have hb := ((Below.refl _ w).alloc (Nat.le_refl _) (.cells (bytesL k).toArray 23)).alloc (by simp) (.cells (bytesL (zeros 32)).toArray 23)
  have HB := Lib.hid (hb.trans ((bw_below _ s).mono hb.size))
  have HRB := Lib.hid (bw_rb ((w.alloc (.cells (bytesL k).toArray 23)).alloc (.cells (bytesL (zeros 32)).toArray 23)) s)
  clear hk hT hn2 hb
  obtain ⟨mk, hmk⟩ : ∃ x, x = macB k (sB s ++ [1]) := ⟨_, rfl⟩
  rw [← hmk] at hml
  have HML := Lib.hid hml
  have HMK := Lib.hid hmk
  clear hml hmk
  go_enter Tryd.func28, Tryd.ntmps28
  go_wp2_with (first | (refine wpList_load_row rfl 23 _ rfl w.heap.size rfl 23 _ (0, 0) _ hn1 Tryd.underlying23 rfl hsz ?_) | fail)
  have hrb := HRB.out
  simp only [World.size_alloc] at hrb
  have hN2 := HN2.out
  have hB := HB.out
  generalize Lib.bytesWorld ((w.alloc (.cells (bytesL k).toArray 23)).alloc (.cells (bytesL (zeros 32)).toArray 23)) 5 s = W at *
  have HX := Lib.hid (expand_any k (some ⟨w.heap.size + 1 + 1, 0, none⟩) s.size (grownCap ((w.alloc (.cells (bytesL k).toArray 23)).alloc (.cells (bytesL (zeros 32)).toArray 23)) s.size 0 5) (sB s) W HK.out (sB_len s) hrb hs (HT.out.below hB))
  clear hrb hN2 hB HRB
  refine HX.out.mono ?_
  rintro e w1 ⟨A, rfl, hr1, bel1⟩
  rw [← HMK.out] at hr1
  obtain ⟨b1, o1, rfl, _, hc1⟩ := hr1.head (by rw [HML.out]; omega)
  have hra : w1.rangeAt b1 o1 (bytesL mk) := by
    intro j v hv
    have hj : j < mk.length := by
      rw [← bytesL_len]
      exact (List.getElem?_eq_some_iff.1 hv).1
    rw [bytesL_get mk j hj] at hv
    cases hv
    exact hc1 j hj
  have hB1 := HB.out.trans (bel1.mono HB.out.size)
  have hn3 := HN2.out.next bel1
  unfold Blk at hn3
  have hszM := hash_size HML.out
  have hszZ : (bytesL (zeros 32)).toArray.size = (bytesL mk).toArray.size := by rw [List.size_toArray, List.size_toArray, bytesL_len, bytesL_len, HML.out, zeros_len]
  have hszL : (Tryd.prog.info? 23).map (·.size) = some (bytesL mk).length := by rw [hszM, List.size_toArray]
  have HB1 := Lib.hid hB1
  have HN3 := Lib.hid hn3
  have HSM := Lib.hid hszM
  have HSZ := Lib.hid hszZ
  have HSL := Lib.hid hszL
  have HRA := Lib.hid hra
  have hst : (Instr.arrayAt 23 (.slice (some ⟨b1, o1, none⟩) 32 32)).run Tryd.prog w1 = .ok (.pointer (some ⟨b1, o1, none⟩)) w1 := run_arrayAt w1 23 5 32 _ 32 32 Tryd.underlying23 (Nat.le_refl _)
  clear hr1 hc1 bel1 hra hB1 hn3 hszM hszZ hszL
  go_wp2_with (first | ((with_reducible refine wpList_load_midS b1 o1 (bytesL mk) _ HRA.out Tryd.underlying23 rfl HSL.out ?_ ?_ ?_); rfl; rfl) | (refine wpList_store_row rfl 23 _ _ rfl (w.heap.size + 1) (bytesL mk).toArray rfl rfl 23 (bytesL (zeros 32)).toArray HN3.out HSM.out HSZ.out (bytesL_one mk) ?_) | fail)
  refine bodyPost_ret (results_cell_row Tryd.results28 _ _ (w.heap.size + 1) 23 (bytesL mk).toArray (0, 0) _ rfl (setRow_heap _ _ (bytesL (zeros 32)).toArray _ _ (0, 0) HN3.out) Tryd.underlying23 rfl HSM.out) rfl ?_
  exact ⟨by rw [HMK.out], below_setRow HB1.out (by omega) _⟩
end Go.Proofs.YtdkadlifjmmcbaaDoor
