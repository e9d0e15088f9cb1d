/- The walk of ControlBytes. -/
import Derived.Test.YtdkadlifjmmcbaaDoorKq
import Derived.Deep.RegionHeldLaw
import Derived.Deep.WholeRow
namespace Go.Proofs.YtdkadlifjmmcbaaDoor
open Go.RowKit

set_option maxRecDepth 100000 in
set_option maxHeartbeats 2000000 in
theorem cbytes_any (k : Ctl) (op me : Int) (cut : Nat) (ts : List (List UInt8)) (hd : List UInt8) (w : World) (hR : KReads w k op me cut ts hd) :
    Calls Tryd.prog 5 #[.agg k.arr] w fun e w' => e = .returned (.bool true) ∧ Below w.heap.size w w' := by
  have ok := hR.len
  have H := CAt.new w ok
  have hb0 : Below w.heap.size w (w.alloc (.cells k.arr 35)) := (Below.refl _ w).alloc (Nat.le_refl _) _
  have hsz : (Tryd.prog.info? 35).map (·.size) = some k.arr.size := by rw [Ctl.size ok]; kernel_rfl
  have hszl : (Tryd.prog.info? 35).map (·.size) = some k.cells.length := by rw [Ctl.len ok]; kernel_rfl
  have HH := Lib.hid H
  have HB0 := Lib.hid hb0
  have HRD := Lib.hid hR
  have hfew := fun W => few_any k ok W
  have hrfo := fun W => rcformed_any k ok W
  have hcfo := fun W => cformed_any k ok W
  have HFW := Lib.hid hfew
  clear H hb0
  go_enter Tryd.func5, Tryd.ntmps5
  go_wp2_with fail
  refine (cawake_any _).mono ?_
  rintro e w1 ⟨rfl, bel1⟩
  have hb1 := HB0.out.trans (bel1.mono HB0.out.size)
  have H1 := HH.out.next bel1
  have hrg1 : w1.rangeAt w.heap.size 0 k.cells := fun j v hv => by rw [Nat.zero_add, H1.at, hv]
  have HRG1 := Lib.hid hrg1
  have HB1 := Lib.hid hb1
  have HH1 := Lib.hid H1
  clear hrg1 hb1 H1 bel1
  go_wp2_with (first | ((with_reducible refine wpList_load_midS w.heap.size 0 k.cells _ HRG1.out Tryd.underlying35 ?_ hszl ?_ ?_ ?_); rfl; rfl; rfl) | fail)
  refine (HFW.out _).mono ?_
  rintro e w2 ⟨rfl, bel2⟩
  have hb2 := HB1.out.trans (bel2.mono HB1.out.size)
  have H2 := HH1.out.next bel2
  have HB2 := Lib.hid hb2
  have HH2 := Lib.hid H2
  have hrow2 := H2.blk
  unfold Blk at hrow2
  clear hb2 H2 bel2 HRG1
  cases hfe : fewK k.ns k.hd.n
  · go_wp2_with fail
    refine (cawake_any _).mono ?_
    rintro e w3 ⟨rfl, bel3⟩
    go_wp2
    go_returns
    exact ⟨rfl, HB2.out.trans (bel3.mono HB2.out.size)⟩
  clear hfew
  cases hfm : k.formed
  · simp only [hfm] at hrfo hcfo
    have HRF := Lib.hid hrfo
    have HCF := Lib.hid hcfo
    have hby := fun W => kbytes_no k ok W hfm
    have HBY := Lib.hid hby
    clear hby hrfo hcfo
    go_wp2_with (first | (refine wpList_load_row rfl 35 _ rfl w.heap.size rfl 35 _ (0, 0) _ hrow2 Tryd.underlying35 rfl hsz ?_) | fail)
    refine (HBY.out _).mono ?_
    rintro e w3 ⟨rfl, bel3⟩
    have hb3 := HB2.out.trans (bel3.mono HB2.out.size)
    have H3 := HH2.out.next bel3
    have HB3 := Lib.hid hb3
    have HH3 := Lib.hid H3
    have hrow3 := H3.blk
    unfold Blk at hrow3
    clear hrow2 hb3 H3
    go_wp2_with (first | (refine wpList_load_row rfl 35 _ rfl w.heap.size rfl 35 _ (0, 0) _ hrow3 Tryd.underlying35 rfl hsz ?_) | fail)
    refine (HRF.out _).mono ?_
    rintro e w4 ⟨rfl, bel4⟩
    have hb4 := HB3.out.trans (bel4.mono HB3.out.size)
    have H4 := HH3.out.next bel4
    have HB4 := Lib.hid hb4
    have hrow4 := H4.blk
    unfold Blk at hrow4
    clear hrow3 hb4 H4
    go_wp2_with (first | (refine wpList_load_row rfl 35 _ rfl w.heap.size rfl 35 _ (0, 0) _ hrow4 Tryd.underlying35 rfl hsz ?_) | fail)
    refine (HCF.out _).mono ?_
    rintro e w5 ⟨rfl, bel5⟩
    go_wp2
    go_returns
    exact ⟨rfl, HB4.out.trans (bel5.mono HB4.out.size)⟩
  · simp only [hfm] at hrfo hcfo
    have hff := hR.formed
    rw [hfm] at hff
    obtain ⟨o1, o2, m1, m2, hc2, hs48, hh48⟩ := formedK_facts hff.symm
    obtain ⟨on, rfl⟩ := Int.eq_ofNat_of_zero_le (show 0 ≤ op by omega)
    obtain ⟨mn, rfl⟩ := Int.eq_ofNat_of_zero_le m1
    have hs' : ∀ s ∈ ts, s.length ≤ 1000 := fun s h => Nat.le_trans (hs48 _ (List.mem_map.2 ⟨s, h, rfl⟩)) (by omega)
    have hpk := bytesK_parse hR.tl hff.symm
    have hok := bytesK_ok hR.tl hff.symm
    have hby := fun W (hW : KReads W k on mn cut ts hd) => kbytes_yes k on mn cut ts hd W hW hfm
    have hrb := fun W (hW : KReads W k on mn cut ts hd) => rcbytes_any k on mn cut ts hd W hW (by omega) (by omega) (by omega) hs' (by omega)
    have hL : (bytesK on mn cut ts hd).length ≤ 1000 := by
      have l1 := numB_len64 (x := on) (by omega)
      have l2 := numB_len64 (x := mn) (by omega)
      have l3 := numB_len64 (x := cut) (by omega)
      have l4 := txtB_len hd (by omega)
      have l5 : ∀ l : List (List UInt8), (∀ s ∈ l, s.length ≤ 48) → (l.map txtB).flatten.length ≤ 58 * l.length := by
        intro l
        induction l with
        | nil => intro _; simp
        | cons x l ih =>
          intro h
          have h1 := txtB_len x (by have := h x (by simp); omega)
          have h2 := h x (by simp)
          have h3 := ih (fun s hs => h s (List.mem_cons_of_mem _ hs))
          simp only [List.map_cons, List.flatten_cons, List.length_append, List.length_cons]
          omega
      have l6 := l5 ts (fun s h => hs48 _ (List.mem_map.2 ⟨s, h, rfl⟩))
      have l7 := hR.tl
      simp only [bytesK, List.length_append]
      omega
    generalize hbk : bytesK on mn cut ts hd = B at *
    have HRF := Lib.hid hrfo
    have HCF := Lib.hid hcfo
    have HBY := Lib.hid hby
    have HRBY := Lib.hid hrb
    have HPK := Lib.hid hpk
    have HOK := Lib.hid hok
    clear hby hrfo hcfo hrb hpk hok hbk hff o1 o2 m1 m2 hc2 hs48 hh48 hs' hR
    go_wp2_with (first | (refine wpList_load_row rfl 35 _ rfl w.heap.size rfl 35 _ (0, 0) _ hrow2 Tryd.underlying35 rfl hsz ?_) | fail)
    refine (HBY.out _ (HRD.out.below HB2.out)).mono ?_
    rintro e w3 ⟨A3, c3, rfl, own3, fr3, bel3⟩
    have hb3 := HB2.out.trans (bel3.mono HB2.out.size)
    have H3 := HH2.out.next bel3
    have HB3 := Lib.hid hb3
    have HH3 := Lib.hid H3
    have HR3 := Lib.hid own3.rb
    have hrow3 := H3.blk
    unfold Blk at hrow3
    clear hrow2 hb3 H3 own3 fr3
    go_wp2_with (first | (refine wpList_load_row rfl 35 _ rfl w.heap.size rfl 35 _ (0, 0) _ hrow3 Tryd.underlying35 rfl hsz ?_) | fail)
    refine (HRF.out _).mono ?_
    rintro e w4 ⟨rfl, bel4⟩
    have hb4 := HB3.out.trans (bel4.mono HB3.out.size)
    have H4 := HH3.out.next bel4
    have HB4 := Lib.hid hb4
    have HH4 := Lib.hid H4
    have HR4 := Lib.hid (HR3.out.below bel4)
    have hrow4 := H4.blk
    unfold Blk at hrow4
    clear hrow3 hb4 H4
    go_wp2_with (first | (refine wpList_load_row rfl 35 _ rfl w.heap.size rfl 35 _ (0, 0) _ hrow4 Tryd.underlying35 rfl hsz ?_) | fail)
    refine (HCF.out _).mono ?_
    rintro e w5 ⟨rfl, bel5⟩
    have hb5 := HB4.out.trans (bel5.mono HB4.out.size)
    have HB5 := Lib.hid hb5
    have HH5 := Lib.hid (HH4.out.next bel5)
    have HR5 := Lib.hid (HR4.out.below bel5)
    clear hrow4 hb5
    go_wp2_with fail
    refine (kparse_any A3 _ c3 B _ rfl HR5.out (by omega)).mono ?_
    rintro e w6 ⟨hret, bel6⟩
    have hb6 := HB5.out.trans (bel6.mono HB5.out.size)
    unfold RetK at hret
    rw [if_pos HOK.out, HPK.out] at hret
    obtain ⟨d, rfl, hds⟩ := hret
    have okd := hds.len
    have hszd : (Tryd.prog.info? 35).map (·.size) = some d.arr.size := by rw [Ctl.size okd]; kernel_rfl
    have hsz0 : ctlZ.arr.size = d.arr.size := by rw [Ctl.size okd, Ctl.size ctlZ_ok]
    have hzv := ctl_zero
    have hnew := heap_alloc_new w6 (.cells ctlZ.arr 35)
    have hwr := World.setRow_alloc_new w6 ctlZ.arr d.arr 35
    have bal := below_all1 w6 (.cells d.arr 35)
    have HBD := Lib.hid (Blk.new w6 35 d.arr)
    have HBK := Lib.hid ((HH5.out.next bel6).next bal).blk
    have HR6 := Lib.hid ((HR5.out.below bel6).below bal)
    have HD6 := Lib.hid (hds.below bal)
    have hb7 := hb6.trans (bal.mono hb6.size)
    have HB7 := Lib.hid hb7
    have hl6 := hb6.size
    clear hds bal hb6 hb7 bel5 bel6 okd
    go_wp2_with (first | (refine wpList_store_row rfl 35 _ _ rfl w6.heap.size d.arr rfl rfl 35 ctlZ.arr hnew hszd hsz0 (Ctl.one _) ?_; rw [hwr]) | fail)
    clear hwr hnew
    generalize hW : w6.alloc (.cells d.arr 35) = w7 at *
    refine wp_region_held_drew (S := fun W => Blk W w.heap.size 35 k.arr ∧ Blk W w6.heap.size 35 d.arr ∧ RB W A3 B) (by kernel_rfl) ⟨HBK.out, HBD.out, HR6.out⟩ (fun hHeld => ?_)
    refine wpAnyH_take (i := 0) (v := .int .i64 0) rfl (by kernel_rfl) (by kernel_rfl) (by kernel_rfl) (fun _ _ _ h => h) (Or.inl ⟨by rfl, fun W hW => ?_⟩) hHeld ?_
    · rfl
    try simp only [Act.put, List.getElem_toArray, List.getElem_cons_succ, List.getElem_cons_zero, List.setIfInBounds_toArray, List.set_cons_succ, List.set_cons_zero]
    refine wpAnyH_take (i := 1) (v := .bool true) rfl (by kernel_rfl) (by kernel_rfl) (by kernel_rfl) (fun _ _ _ h => h) (Or.inl ⟨by rfl, fun W hW => ?_⟩) hHeld ?_
    · go_simp
    try simp only [Act.put, List.getElem_toArray, List.getElem_cons_succ, List.getElem_cons_zero, List.setIfInBounds_toArray, List.set_cons_succ, List.set_cons_zero]
    refine wpAnyH_take (i := 2) (v := .bool true) rfl (by kernel_rfl) (by kernel_rfl) (by kernel_rfl) (fun _ _ _ h => h) (Or.inl ⟨by rfl, fun W hW => ?_⟩) hHeld ?_
    · rfl
    try simp only [Act.put, List.getElem_toArray, List.getElem_cons_succ, List.getElem_cons_zero, List.setIfInBounds_toArray, List.set_cons_succ, List.set_cons_zero]
    refine wpAnyH_take (i := 3) (v := .int .i64 0) rfl (by kernel_rfl) (by kernel_rfl) (by kernel_rfl) (fun _ _ _ h => h) (Or.inl ⟨by rfl, fun W hW => ?_⟩) hHeld ?_
    · rfl
    try simp only [Act.put, List.getElem_toArray, List.getElem_cons_succ, List.getElem_cons_zero, List.setIfInBounds_toArray, List.set_cons_succ, List.set_cons_zero]
    refine wpAnyH_take (i := 4) (v := .bool true) rfl (by kernel_rfl) (by kernel_rfl) (by kernel_rfl) (fun _ _ _ h => h) (Or.inl ⟨by rfl, fun W hW => ?_⟩) hHeld ?_
    · go_simp
    try simp only [Act.put, List.getElem_toArray, List.getElem_cons_succ, List.getElem_cons_zero, List.setIfInBounds_toArray, List.set_cons_succ, List.set_cons_zero]
    refine wpAnyH_take (i := 5) (v := .bool true) rfl (by kernel_rfl) (by kernel_rfl) (by kernel_rfl) (fun _ _ _ h => h) (Or.inl ⟨by rfl, fun W hW => ?_⟩) hHeld ?_
    · rfl
    try simp only [Act.put, List.getElem_toArray, List.getElem_cons_succ, List.getElem_cons_zero, List.setIfInBounds_toArray, List.set_cons_succ, List.set_cons_zero]
    refine wpAnyH_take (i := 6) (v := .bool true) rfl (by kernel_rfl) (by kernel_rfl) (by kernel_rfl) (fun _ _ _ h => h) (Or.inl ⟨by rfl, fun W hW => ?_⟩) hHeld ?_
    · rfl
    try simp only [Act.put, List.getElem_toArray, List.getElem_cons_succ, List.getElem_cons_zero, List.setIfInBounds_toArray, List.set_cons_succ, List.set_cons_zero]
    refine wpAnyH_take (i := 7) (v := .slice A3 B.length c3) rfl (by kernel_rfl) (by kernel_rfl) (by kernel_rfl) (fun _ _ _ h => h) (Or.inl ⟨by rfl, fun W hW => ?_⟩) hHeld ?_
    · rfl
    try simp only [Act.put, List.getElem_toArray, List.getElem_cons_succ, List.getElem_cons_zero, List.setIfInBounds_toArray, List.set_cons_succ, List.set_cons_zero]
    refine wpAnyH_take (i := 8) (v := .string (mkS B)) rfl (by kernel_rfl) (by kernel_rfl) (by kernel_rfl) (fun _ _ _ h => h) (Or.inl ⟨by rfl, fun W hW => ?_⟩) hHeld ?_
    · exact exec_cv 31 9 (.tmp 48) rfl _ _ rfl (conv_bs W A3 B.length c3 B rfl hW.2.2)
    try simp only [Act.put, List.getElem_toArray, List.getElem_cons_succ, List.getElem_cons_zero, List.setIfInBounds_toArray, List.set_cons_succ, List.set_cons_zero]
    refine wpAnyH_take (i := 9) (v := .agg k.arr) rfl (by kernel_rfl) (by kernel_rfl) (by kernel_rfl) (fun _ _ _ h => h) (Or.inl ⟨by rfl, fun W hW => ?_⟩) hHeld ?_
    · exact exec_row 35 (.tmp 1) rfl w.heap.size rfl 35 k.arr (0, 0) _ hW.1 Tryd.underlying35 rfl hsz
    try simp only [Act.put, List.getElem_toArray, List.getElem_cons_succ, List.getElem_cons_zero, List.setIfInBounds_toArray, List.set_cons_succ, List.set_cons_zero]
    refine wpAnyH_ready (rs := [10]) (by kernel_rfl) (by simp) ?_
    refine AllReadyH.cons rfl (fun K hK => ?_) AllReadyH.nil
    go_simp
    go_at_call 13
    refine (HRBY.out w7.drew ((HRD.out.below HB7.out).keep (w' := w7.drew) fun _ _ => rfl)).mono ?_
    rintro e w8 ⟨A8, c8, rfl, own8, fr8, bel8⟩
    have hcv8 := conv_bs w8 A8 B.length c8 B rfl own8.rb
    have hk8 := HBK.out.drew.next bel8
    have hd8 := HBD.out.drew.next bel8
    have hr8 := (HR6.out.keep (w' := w7.drew) fun _ _ => rfl).below bel8
    have HK8 := Lib.hid (((HRD.out.below HB7.out).keep (w' := w7.drew) fun _ _ => rfl).below bel8)
    have HD8 := Lib.hid ((HD6.out.keep (w' := w7.drew) fun _ _ => rfl).below bel8)
    have hb8 := HB7.out.drew.trans (bel8.mono HB7.out.size)
    have HB8 := Lib.hid hb8
    clear own8 fr8 hb8
    go_wp2
    refine hK.out _ _ ⟨hk8, hd8, hr8⟩ (fun hHeld8 => ?_)
    clear hK K hHeld hk8 hd8 hr8
    try simp only [Act.put, List.getElem_toArray, List.getElem_cons_succ, List.getElem_cons_zero, List.setIfInBounds_toArray, List.set_cons_succ, List.set_cons_zero]
    refine wpAnyH_ready (rs := [11]) (by kernel_rfl) (by simp) ?_
    refine AllReadyH.cons rfl (fun K hK => ?_) AllReadyH.nil
    go_simp
    refine hK.out _ _ hHeld8 (fun _ => ?_)
    clear hK K hcv8
    try simp only [Act.put, List.getElem_toArray, List.getElem_cons_succ, List.getElem_cons_zero, List.setIfInBounds_toArray, List.set_cons_succ, List.set_cons_zero]
    refine wpAnyH_take (i := 12) (v := .bool true) rfl (by kernel_rfl) (by kernel_rfl) (by kernel_rfl) (fun _ _ _ h => h) (Or.inl ⟨by rfl, fun W hW => ?_⟩) hHeld8 ?_
    · go_simp
    try simp only [Act.put, List.getElem_toArray, List.getElem_cons_succ, List.getElem_cons_zero, List.setIfInBounds_toArray, List.set_cons_succ, List.set_cons_zero]
    refine wpAnyH_take (i := 13) (v := .bool true) rfl (by kernel_rfl) (by kernel_rfl) (by kernel_rfl) (fun _ _ _ h => h) (Or.inl ⟨by rfl, fun W hW => ?_⟩) hHeld8 ?_
    · rfl
    try simp only [Act.put, List.getElem_toArray, List.getElem_cons_succ, List.getElem_cons_zero, List.setIfInBounds_toArray, List.set_cons_succ, List.set_cons_zero]
    refine wpAnyH_take (i := 14) (v := .bool true) rfl (by kernel_rfl) (by kernel_rfl) (by kernel_rfl) (fun _ _ _ h => h) (Or.inl ⟨by rfl, fun W hW => ?_⟩) hHeld8 ?_
    · rfl
    try simp only [Act.put, List.getElem_toArray, List.getElem_cons_succ, List.getElem_cons_zero, List.setIfInBounds_toArray, List.set_cons_succ, List.set_cons_zero]
    refine wpAnyH_take (i := 15) (v := .agg k.arr) rfl (by kernel_rfl) (by kernel_rfl) (by kernel_rfl) (fun _ _ _ h => h) (Or.inl ⟨by rfl, fun W hW => ?_⟩) hHeld8 ?_
    · exact exec_row 35 (.tmp 1) rfl w.heap.size rfl 35 k.arr (0, 0) _ hW.1 Tryd.underlying35 rfl hsz
    try simp only [Act.put, List.getElem_toArray, List.getElem_cons_succ, List.getElem_cons_zero, List.setIfInBounds_toArray, List.set_cons_succ, List.set_cons_zero]
    refine wpAnyH_take (i := 16) (v := .agg d.arr) rfl (by kernel_rfl) (by kernel_rfl) (by kernel_rfl) (fun _ _ _ h => h) (Or.inl ⟨by rfl, fun W hW => ?_⟩) hHeld8 ?_
    · exact exec_row 35 (.tmp 6) rfl w6.heap.size rfl 35 d.arr (0, 0) _ hW.2.1 Tryd.underlying35 rfl hszd
    try simp only [Act.put, List.getElem_toArray, List.getElem_cons_succ, List.getElem_cons_zero, List.setIfInBounds_toArray, List.set_cons_succ, List.set_cons_zero]
    refine wpAnyH_ready (rs := [17]) (by kernel_rfl) (by simp) ?_
    refine AllReadyH.cons rfl (fun K hK => ?_) AllReadyH.nil
    go_simp
    go_at_call 17
    refine (same_true k d _ _ _ _ _ _ HK8.out HD8.out).mono ?_
    rintro e w9 ⟨rfl, bel9⟩
    have hb9 := HB8.out.trans (bel9.mono HB8.out.size)
    have hk9 := hHeld8.1.next bel9
    have hd9 := hHeld8.2.1.next bel9
    have hr9 := hHeld8.2.2.below bel9
    go_wp2
    refine hK.out _ _ ⟨hk9, hd9, hr9⟩ (fun hHeld9 => ?_)
    clear hK K
    try simp only [Act.put, List.getElem_toArray, List.getElem_cons_succ, List.getElem_cons_zero, List.setIfInBounds_toArray, List.set_cons_succ, List.set_cons_zero]
    refine wpAnyH_take (i := 18) (v := .bool true) rfl (by kernel_rfl) (by kernel_rfl) (by kernel_rfl) (fun _ _ _ h => h) (Or.inl ⟨by rfl, fun W hW => ?_⟩) hHeld9 ?_
    · rfl
    try simp only [Act.put, List.getElem_toArray, List.getElem_cons_succ, List.getElem_cons_zero, List.setIfInBounds_toArray, List.set_cons_succ, List.set_cons_zero]
    refine wpAnyH_take (i := 19) (v := .bool true) rfl (by kernel_rfl) (by kernel_rfl) (by kernel_rfl) (fun _ _ _ h => h) (Or.inl ⟨by rfl, fun W hW => ?_⟩) hHeld9 ?_
    · rfl
    try simp only [Act.put, List.getElem_toArray, List.getElem_cons_succ, List.getElem_cons_zero, List.setIfInBounds_toArray, List.set_cons_succ, List.set_cons_zero]
    refine wpAnyH_done (by kernel_rfl) ?_ _
    go_wp2
    go_returns
    exact ⟨rfl, hb9⟩

end Go.Proofs.YtdkadlifjmmcbaaDoor
