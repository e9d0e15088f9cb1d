/- The walks of the reference's Few and Same. -/
import Derived.Test.YtdkadlifjmmcbaaDoorKl
import Derived.Test.YtdkadlifjmmcbaaDoorKo
namespace Go.Proofs.YtdkadlifjmmcbaaDoor
open Go.RowKit

/-- are a control's texts of a size that is looked at? -/
def fewK (ns : List Nat) (hn : Nat) : Bool := ns.all (fun n => decide (n ≤ 200)) && decide (hn ≤ 200)

set_option maxRecDepth 100000 in
set_option maxHeartbeats 1000000 in
theorem few_any (k : Ctl) (ok : k.ss.length = 6) (w : World) :
    Calls Tryd.prog 14 #[.agg k.arr] w fun e w' => e = .returned (.bool (fewK k.ns k.hd.n)) ∧ Below w.heap.size w w' := by
  have H := CAt.new w ok
  have HH := Lib.hid H
  have hnl : k.ns.length = 6 := by simp [Ctl.ns, ok]
  have HNL := Lib.hid hnl
  have HOK := Lib.hid ok
  have hhd := H.hd
  clear ok hnl H
  go_enter Tryd.func14, Tryd.ntmps14
  go_wp2_with fail
  go_loopw [3] (fun i wr => ∃ j : Nat, j ≤ 6 ∧ i = .int .i64 (j : Int) ∧ (∀ q (h : q < k.ns.length), q < j → k.ns[q] ≤ 200) ∧ wr = w.alloc (.cells k.arr 35)) (fun i _ => 6 - (intOf i).toNat)
  case atStart => exact ⟨0, by omega, rfl, fun q h hq => by omega, rfl⟩
  case round =>
    obtain ⟨j, hj, rfl, hal, rfl⟩ := hrel
    have HAL := Lib.hid hal
    clear hal
    by_cases hlt : j < 6
    · have hlk : j < k.ss.length := by rw [HOK.out]; exact hlt
      have hln : j < k.ns.length := by rw [HNL.out]; exact hlt
      have hx := HH.out.sl j hlt
      rw [List.getElem?_eq_getElem hlk] at hx
      have hek : k.ns[j] = k.ss[j].n := by simp [Ctl.ns]
      have hno : 200 < k.ns[j] → fewK k.ns k.hd.n = false := by
        intro h
        unfold fewK
        rw [Bool.and_eq_false_iff]
        left
        rw [List.all_eq_false]
        exact ⟨_, List.getElem_mem hln, by simp; omega⟩
      have hyes : k.ns[j] ≤ 200 → ∀ q (h : q < k.ns.length), q < j + 1 → k.ns[q] ≤ 200 := by
        intro h q hq hqj
        rcases Nat.lt_or_ge q j with h1 | h1
        · exact HAL.out q hq h1
        · obtain rfl : q = j := by omega
          exact h
      rw [hek] at hno hyes
      clear hek
      have HN := Lib.hid hno
      have HY := Lib.hid hyes
      clear hno hyes
      generalize k.ss[j] = sk at *
      obtain ⟨Ak, nk, ck⟩ := sk
      simp only [Sl.v, Option.map_some] at hx
      cases t1 : decide (200 < (nk : Int))
      · have g := of_decide_eq_false t1
        go_wp2
        exact ⟨⟨j + 1, by omega, by go_num, HY.out (show nk ≤ 200 by omega), trivial⟩, by simp [intOf]; omega⟩
      · have g := of_decide_eq_true t1
        go_wp2
        go_returns
        exact ⟨ret_bool (HN.out (show 200 < nk by omega)).symm, by go_grown⟩
    · obtain rfl : j = 6 := by omega
      have hF : fewK k.ns k.hd.n = decide (k.hd.n ≤ 200) := by
        unfold fewK
        rw [List.all_eq_true.2 fun n hn => by
          obtain ⟨q, hq, rfl⟩ := List.getElem_of_mem hn
          have := HAL.out q hq (by rw [HNL.out] at hq; exact hq)
          simpa using this]
        rfl
      have HF := Lib.hid hF
      clear hF
      go_wp2
      go_returns
      exact ⟨ret_bool (by rw [HF.out]; simp; try omega), by go_grown⟩

set_option maxRecDepth 100000 in
set_option maxHeartbeats 1000000 in
theorem same_true (a b : Ctl) (op me : Int) (cut : Nat) (ts : List (List UInt8)) (hd : List UInt8) (w : World) (ha : KReads w a op me cut ts hd) (hb : KReads w b op me cut ts hd) :
    Calls Tryd.prog 17 #[.agg a.arr, .agg b.arr] w fun e w' => e = .returned (.bool true) ∧ Below w.heap.size w w' := by
  have HA := Lib.hid ha
  have HB := Lib.hid hb
  have hca := (CAt.new w ha.len).alloc (.cells b.arr 35)
  have hcb := CAt.new (w.alloc (.cells a.arr 35)) hb.len
  rw [World.size_alloc] at hcb
  have hbel : Below w.heap.size w ((w.alloc (.cells a.arr 35)).alloc (.cells b.arr 35)) := ((Below.refl _ w).alloc (Nat.le_refl _) _).alloc (by simp) _
  have HCA := Lib.hid hca
  have HCB := Lib.hid hcb
  have HBL := Lib.hid hbel
  clear ha hb hca hcb hbel
  go_enter Tryd.func17, Tryd.ntmps17
  go_wp2_with fail
  go_loopw [5] (fun i wr => ∃ j : Nat, j ≤ 6 ∧ i = .int .i64 (j : Int) ∧ Below w.heap.size w wr ∧ CAt wr w.heap.size a ∧ CAt wr (w.heap.size + 1) b) (fun i _ => 6 - (intOf i).toNat)
  case atStart => exact ⟨0, by omega, rfl, HBL.out, HCA.out, HCB.out⟩
  case round =>
    obtain ⟨j, hj, rfl, hbw, hwa, hwb⟩ := hrel
    have HBW := Lib.hid hbw
    have HWA := Lib.hid hwa
    have HWB := Lib.hid hwb
    clear hbw hwa hwb HCA HCB HBL
    by_cases hlt : j < 6
    · have hla : j < a.ss.length := by rw [HA.out.len]; exact hlt
      have hlb : j < b.ss.length := by rw [HB.out.len]; exact hlt
      have hlt2 : j < ts.length := by rw [HA.out.tl]; exact hlt
      have hxa := HWA.out.sl j hlt
      have hxb := HWB.out.sl j hlt
      rw [List.getElem?_eq_getElem hla] at hxa
      rw [List.getElem?_eq_getElem hlb] at hxb
      have hra := (HA.out.below HBW.out).sl j hla hlt2
      have hrb := (HB.out.below HBW.out).sl j hlb hlt2
      generalize a.ss[j] = sa at *
      generalize b.ss[j] = sb at *
      generalize ts[j] = t at *
      obtain ⟨Aa, na, ca⟩ := sa
      obtain ⟨Ab, nb, cb⟩ := sb
      simp only [Sl.v, Option.map_some] at hxa hxb hra hrb
      have HXA := Lib.hid hxa
      have HXB := Lib.hid hxb
      have HRA := Lib.hid hra.1.symm
      have HRB := Lib.hid hrb.1.symm
      have HSA := Lib.hid hra.2
      have HSB := Lib.hid hrb.2
      clear hxa hxb hra hrb
      go_wp2_with fail
      refine wp_region_held_drew (S := fun W => W.cell? ⟨w.heap.size, 3 + j, none⟩ = some (.slice Aa na ca) ∧ W.cell? ⟨w.heap.size + 1, 3 + j, none⟩ = some (.slice Ab nb cb) ∧ RB W Aa t ∧ RB W Ab t) (by kernel_rfl) ⟨by simpa using HXA.out, by simpa using HXB.out, HSA.out, HSB.out⟩ (fun hHeld => ?_)
      refine wpAnyH_take (i := 0) (v := .int .i64 (j : Int)) rfl (by kernel_rfl) (by kernel_rfl) (by kernel_rfl) (fun _ _ _ h => h) (Or.inl ⟨by rfl, fun W hW => ?_⟩) hHeld ?_
      · rfl
      try simp only [Act.put, List.getElem_toArray, List.getElem_cons_succ, List.getElem_cons_zero, List.setIfInBounds_toArray, List.set_cons_succ, List.set_cons_zero]
      refine wpAnyH_take (i := 1) (v := .pointer (some ⟨w.heap.size, 3, none⟩)) rfl (by kernel_rfl) (by kernel_rfl) (by kernel_rfl) (fun _ _ _ h => h) (Or.inl ⟨by rfl, fun W hW => ?_⟩) hHeld ?_
      · go_simp
      try simp only [Act.put, List.getElem_toArray, List.getElem_cons_succ, List.getElem_cons_zero, List.setIfInBounds_toArray, List.set_cons_succ, List.set_cons_zero]
      refine wpAnyH_take (i := 2) (v := .pointer (some ⟨w.heap.size, 3 + j, none⟩)) rfl (by kernel_rfl) (by kernel_rfl) (by kernel_rfl) (fun _ _ _ h => h) (Or.inl ⟨by rfl, fun W hW => ?_⟩) hHeld ?_
      · (go_simp; try omega)
      try simp only [Act.put, List.getElem_toArray, List.getElem_cons_succ, List.getElem_cons_zero, List.setIfInBounds_toArray, List.set_cons_succ, List.set_cons_zero]
      refine wpAnyH_take (i := 3) (v := .slice Aa na ca) rfl (by kernel_rfl) (by kernel_rfl) (by kernel_rfl) (fun _ _ _ h => h) (Or.inl ⟨by rfl, fun W hW => ?_⟩) hHeld ?_
      · (have hW1 := hW.1; go_simp)
      try simp only [Act.put, List.getElem_toArray, List.getElem_cons_succ, List.getElem_cons_zero, List.setIfInBounds_toArray, List.set_cons_succ, List.set_cons_zero]
      refine wpAnyH_take (i := 4) (v := .string (mkS t)) rfl (by kernel_rfl) (by kernel_rfl) (by kernel_rfl) (fun _ _ _ h => h) (Or.inl ⟨by rfl, fun W hW => ?_⟩) hHeld ?_
      · exact exec_cv 31 9 (.tmp 13) rfl _ _ rfl (conv_bs W Aa na ca t HRA.out hW.2.2.1)
      try simp only [Act.put, List.getElem_toArray, List.getElem_cons_succ, List.getElem_cons_zero, List.setIfInBounds_toArray, List.set_cons_succ, List.set_cons_zero]
      refine wpAnyH_take (i := 5) (v := .int .i64 (j : Int)) rfl (by kernel_rfl) (by kernel_rfl) (by kernel_rfl) (fun _ _ _ h => h) (Or.inl ⟨by rfl, fun W hW => ?_⟩) hHeld ?_
      · rfl
      try simp only [Act.put, List.getElem_toArray, List.getElem_cons_succ, List.getElem_cons_zero, List.setIfInBounds_toArray, List.set_cons_succ, List.set_cons_zero]
      refine wpAnyH_take (i := 6) (v := .pointer (some ⟨w.heap.size + 1, 3, none⟩)) rfl (by kernel_rfl) (by kernel_rfl) (by kernel_rfl) (fun _ _ _ h => h) (Or.inl ⟨by rfl, fun W hW => ?_⟩) hHeld ?_
      · go_simp
      try simp only [Act.put, List.getElem_toArray, List.getElem_cons_succ, List.getElem_cons_zero, List.setIfInBounds_toArray, List.set_cons_succ, List.set_cons_zero]
      refine wpAnyH_take (i := 7) (v := .pointer (some ⟨w.heap.size + 1, 3 + j, none⟩)) rfl (by kernel_rfl) (by kernel_rfl) (by kernel_rfl) (fun _ _ _ h => h) (Or.inl ⟨by rfl, fun W hW => ?_⟩) hHeld ?_
      · (go_simp; try omega)
      try simp only [Act.put, List.getElem_toArray, List.getElem_cons_succ, List.getElem_cons_zero, List.setIfInBounds_toArray, List.set_cons_succ, List.set_cons_zero]
      refine wpAnyH_take (i := 8) (v := .slice Ab nb cb) rfl (by kernel_rfl) (by kernel_rfl) (by kernel_rfl) (fun _ _ _ h => h) (Or.inl ⟨by rfl, fun W hW => ?_⟩) hHeld ?_
      · (have hW1 := hW.2.1; go_simp)
      try simp only [Act.put, List.getElem_toArray, List.getElem_cons_succ, List.getElem_cons_zero, List.setIfInBounds_toArray, List.set_cons_succ, List.set_cons_zero]
      refine wpAnyH_take (i := 9) (v := .string (mkS t)) rfl (by kernel_rfl) (by kernel_rfl) (by kernel_rfl) (fun _ _ _ h => h) (Or.inl ⟨by rfl, fun W hW => ?_⟩) hHeld ?_
      · exact exec_cv 31 9 (.tmp 18) rfl _ _ rfl (conv_bs W Ab nb cb t HRB.out hW.2.2.2)
      try simp only [Act.put, List.getElem_toArray, List.getElem_cons_succ, List.getElem_cons_zero, List.setIfInBounds_toArray, List.set_cons_succ, List.set_cons_zero]
      refine wpAnyH_take (i := 10) (v := .bool false) rfl (by kernel_rfl) (by kernel_rfl) (by kernel_rfl) (fun _ _ _ h => h) (Or.inl ⟨by rfl, fun W hW => ?_⟩) hHeld ?_
      · go_simp
      try simp only [Act.put, List.getElem_toArray, List.getElem_cons_succ, List.getElem_cons_zero, List.setIfInBounds_toArray, List.set_cons_succ, List.set_cons_zero]
      refine wpAnyH_done (by kernel_rfl) ?_ _
      clear hHeld
      go_wp2
      exact ⟨⟨j + 1, by omega, by go_num, HBW.out.drew, HWA.out.drew, HWB.out.drew⟩, by simp [intOf]; omega⟩
    · obtain rfl : j = 6 := by omega
      have o1 := HWA.out.op
      have o2 := HWB.out.op
      have m1 := HWA.out.me
      have m2 := HWB.out.me
      have c1 := HWA.out.cut
      have c2 := HWB.out.cut
      have d1 := HWA.out.hd
      have d2 := HWB.out.hd
      rw [HA.out.op] at o1
      rw [HB.out.op] at o2
      rw [HA.out.me] at m1
      rw [HB.out.me] at m2
      rw [HA.out.cut] at c1
      rw [HB.out.cut] at c2
      have hra := (HA.out.below HBW.out).hd
      have hrb := (HB.out.below HBW.out).hd
      have v1 := conv_bs wr a.hd.A a.hd.n a.hd.c hd hra.1.symm hra.2
      have v2 := conv_bs wr b.hd.A b.hd.n b.hd.c hd hrb.1.symm hrb.2
      clear hra hrb
      go_wp2
      go_returns
      exact ⟨rfl, HBW.out⟩

end Go.Proofs.YtdkadlifjmmcbaaDoor
