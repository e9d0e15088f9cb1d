/- The walk of EntryParses. -/
import Derived.Test.YtdkadlifjmmcbaaRby
import Derived.Test.YtdkadlifjmmcbaaTe
import Derived.Test.YtdkadlifjmmcbaaTc
import Derived.Deep.WholeRow
namespace Go.Proofs.Ytdkadlifjmmcbaa
open Go.RowKit

theorem pick_len {n : Nat} {s : List UInt8} (h : s = [] ∨ s.length = n) : (pickB s (zeros n)).length = n := by
  unfold pickB
  split
  · exact zeros_len n
  · rename_i hs
    rcases h with h | h
    · exact absurd h hs
    · exact h
theorem parseH_ok (b : List UInt8) : (parseH b).h.ok :=
  ⟨pick_len (rawT_cases _ _ _), pick_len (rawT_cases _ _ _), (numsTo_len _ _ _ _).1, pick_len (rawT_cases _ _ _), pick_len (rawT_cases _ _ _)⟩
theorem parseH_toks (b : List UInt8) : (parseH b).toks.length = (parseH b).h.n := (toksTo_len _ _ _).1

set_option maxRecDepth 100000 in
set_option maxHeartbeats 2000000 in
theorem parses_any (A : Option Addr) (n c : Nat) (b : List UInt8) (w : World) (hl : b.length = n) (hr : RB w A b) :
    Calls Try.prog 5 #[.slice A n c] w fun e w' => e = .returned (.bool true) ∧ Below w.heap.size w w' := by
  cases hn : decide (500 < (n : Int))
  rotate_left
  · have hn' := of_decide_eq_true hn
    go_enter Try.func5, Try.ntmps5
    go_wp2_with fail
    refine (awake_any _).mono ?_
    rintro e w1 ⟨rfl, bel1⟩
    go_wp2_with fail
    refine (awake_any _).mono ?_
    rintro e w2 ⟨rfl, bel2⟩
    go_wp2
    go_returns
    exact ⟨rfl, bel1.trans (bel2.mono bel1.size)⟩
  have hn' := of_decide_eq_false hn
  have HR := Lib.hid hr
  have hzv := hdrZ_zero
  clear hr
  cases hok : okH b
  · have hsz : (Try.prog.info? 44).map (·.size) = some hdrZ.arr.size := by rw [Hdr.size hdrZ_ok]; kernel_rfl
    have hszl : (Try.prog.info? 44).map (·.size) = some hdrZ.cells.length := by rw [Hdr.len hdrZ_ok]; kernel_rfl
    go_enter Try.func5, Try.ntmps5
    go_wp2_with fail
    refine (awake_any _).mono ?_
    rintro e w1 ⟨rfl, bel1⟩
    go_wp2_with fail
    refine (hparse_any A n c b w1 hl (HR.out.below bel1) (by omega)).mono ?_
    rintro e w2 ⟨hret, bel2⟩
    have hbw := bel1.trans (bel2.mono bel1.size)
    unfold RetH at hret
    rw [if_neg (by rw [hok]; decide)] at hret
    subst hret
    have hnew := heap_alloc_new w2 (.cells hdrZ.arr 44)
    have hrg : (w2.alloc (.cells hdrZ.arr 44)).rangeAt w2.heap.size 0 hdrZ.cells := fun j v hv => by rw [Nat.zero_add, (HAt.new w2 hdrZ_ok).at, hv]
    have HRG := Lib.hid hrg
    have hwr := World.setRow_alloc_new w2 hdrZ.arr hdrZ.arr 44
    clear hrg
    go_wp2_with (first | ((with_reducible refine wpList_load_midS w2.heap.size 0 hdrZ.cells _ HRG.out Try.underlying44 ?_ hszl ?_ ?_ ?_); rfl; rfl; rfl) | (refine wpList_store_row rfl 44 _ _ rfl w2.heap.size hdrZ.arr rfl rfl 44 hdrZ.arr hnew hsz rfl (Hdr.one _) ?_; rw [hwr]) | fail)
    refine (blank_zero _).mono ?_
    rintro e w3 ⟨rfl, bel3⟩
    go_wp2
    go_returns
    exact ⟨rfl, hbw.trans (Below.trans (Below.mono (below_alloc1 w2 _) hbw.size) (bel3.mono (by have := hbw.size; simp; omega)))⟩
  · unfold okH at hok
    rw [Bool.and_eq_true] at hok
    have hby := parseH_bytes b hok.1
    have hfm := hok.2
    have hhk := parseH_ok b
    have htl := parseH_toks b
    have hko : okH b = true := by unfold okH; rw [hok.1, hok.2]; rfl
    go_enter Try.func5, Try.ntmps5
    go_wp2_with fail
    refine (awake_any _).mono ?_
    rintro e w1 ⟨rfl, bel1⟩
    go_wp2_with fail
    refine (hparse_any A n c b w1 hl (HR.out.below bel1) (by omega)).mono ?_
    rintro e w2 ⟨hret, bel2⟩
    have hbw := bel1.trans (bel2.mono bel1.size)
    unfold RetH at hret
    rw [if_pos hko] at hret
    obtain ⟨A', N, rfl, hts⟩ := hret
    have ok2 : ((parseH b).h.at' A' N).ok := ⟨hhk.pv, hhk.it, hhk.kn, hhk.sm, hhk.cd⟩
    have fm2 : formedH ((parseH b).h.at' A' N) (sortedB (parseH b).toks) = true := hfm
    have by2 : coreB ((parseH b).h.at' A' N) (parseH b).toks ++ ((parseH b).h.at' A' N).cd = b := hby
    have tl2 : (parseH b).toks.length = ((parseH b).h.at' A' N).n := htl
    have ea2 : ((parseH b).h.at' A' N).A = A' := rfl
    generalize (parseH b).h.at' A' N = h at *
    generalize (parseH b).toks = toks at *
    subst ea2
    have hfo := fun W (hW : TS W h.A toks) => rformedh_true h ok2 toks W tl2 hW fm2
    have hrb := fun W (hW : TS W h.A toks) => rbytes_true h ok2 toks W tl2 hW fm2
    rw [by2] at hrb
    have hsz : (Try.prog.info? 44).map (·.size) = some h.arr.size := by rw [Hdr.size ok2]; kernel_rfl
    have hsz0 : hdrZ.arr.size = h.arr.size := by rw [Hdr.size ok2, Hdr.size hdrZ_ok]
    have hnew := heap_alloc_new w2 (.cells hdrZ.arr 44)
    have hwr := World.setRow_alloc_new w2 hdrZ.arr h.arr 44
    have hbl := Blk.new w2 44 h.arr
    have hrb0 := (HR.out.below hbw).keep (w' := w2.alloc (.cells h.arr 44)) (fun q hq => World.cell?_alloc_lt w2 _ q hq)
    have hts3 := hts.below (below_alloc1 w2 (.cells h.arr 44))
    have HFO := Lib.hid hfo
    have HRP := Lib.hid hrb
    have HB := Lib.hid hbl
    have HRB := Lib.hid hrb0
    have HTS := Lib.hid hts3
    have HOK := Lib.hid ok2
    clear hfo hrb hbl hrb0 hts3 ok2 fm2 by2 tl2 hok hko hby hfm hhk htl hts bel1 bel2
    go_wp2_with (first | (refine wpList_store_row rfl 44 _ _ rfl w2.heap.size h.arr rfl rfl 44 hdrZ.arr hnew hsz hsz0 (Hdr.one _) ?_; rw [hwr]) | fail)
    clear hwr hnew
    refine wp_region_held_drew (S := fun W => Blk W w2.heap.size 44 h.arr ∧ RB W A b) (by kernel_rfl) ⟨HB.out, HRB.out⟩ (fun hHeld => ?_)
    refine wpAnyH_take (i := 0) (v := .agg h.arr) rfl (by kernel_rfl) (by kernel_rfl) (by kernel_rfl) (fun _ _ _ h => h) (Or.inl ⟨by rfl, fun W hW => ?_⟩) hHeld ?_
    · exact exec_load_row 44 (.tmp 3) rfl w2.heap.size rfl 44 h.arr (0, 0) _ hW.1 Try.underlying44 rfl hsz
    try simp only [Act.put, List.getElem_toArray, List.getElem_cons_succ, List.getElem_cons_zero, List.setIfInBounds_toArray, List.set_cons_succ, List.set_cons_zero]
    refine wpAnyH_ready (rs := [1]) (by kernel_rfl) (by simp) ?_
    refine AllReadyH.cons rfl (fun K hK => ?_) AllReadyH.nil
    go_simp
    go_at_call 15
    refine (HFO.out (w2.alloc (.cells h.arr 44)).drew (HTS.out.keep (w' := (w2.alloc (.cells h.arr 44)).drew) fun _ _ => rfl)).mono ?_
    rintro e w4 ⟨rfl, bel4⟩
    have hb4 := HB.out.drew.next bel4
    have hr4 := (HRB.out.keep (w' := (w2.alloc (.cells h.arr 44)).drew) fun _ _ => rfl).below bel4
    have HT4 := Lib.hid ((HTS.out.keep (w' := (w2.alloc (.cells h.arr 44)).drew) fun _ _ => rfl).below bel4)
    have hbw4 := hbw.trans (Below.trans (Below.mono (below_alloc1 w2 (.cells h.arr 44)) hbw.size) (Below.trans ((Below.refl _ _).drew) (bel4.mono (by have := hbw.size; simp; omega))))
    have HBW := Lib.hid hbw4
    have HB4 := Lib.hid hb4
    have HR4 := Lib.hid hr4
    clear hb4 hr4 hbw4
    go_wp2
    refine hK.out _ _ ⟨HB4.out, HR4.out⟩ (fun hHeld4 => ?_)
    clear hK K hHeld
    try simp only [Act.put, List.getElem_toArray, List.getElem_cons_succ, List.getElem_cons_zero, List.setIfInBounds_toArray, List.set_cons_succ, List.set_cons_zero]
    refine wpAnyH_take (i := 2) (v := .bool true) rfl (by kernel_rfl) (by kernel_rfl) (by kernel_rfl) (fun _ _ _ h => h) (Or.inl ⟨by rfl, fun W hW => ?_⟩) hHeld4 ?_
    · rfl
    try simp only [Act.put, List.getElem_toArray, List.getElem_cons_succ, List.getElem_cons_zero, List.setIfInBounds_toArray, List.set_cons_succ, List.set_cons_zero]
    refine wpAnyH_take (i := 3) (v := .agg h.arr) rfl (by kernel_rfl) (by kernel_rfl) (by kernel_rfl) (fun _ _ _ h => h) (Or.inl ⟨by rfl, fun W hW => ?_⟩) hHeld4 ?_
    · exact exec_load_row 44 (.tmp 3) rfl w2.heap.size rfl 44 h.arr (0, 0) _ hW.1 Try.underlying44 rfl hsz
    try simp only [Act.put, List.getElem_toArray, List.getElem_cons_succ, List.getElem_cons_zero, List.setIfInBounds_toArray, List.set_cons_succ, List.set_cons_zero]
    refine wpAnyH_take (i := 6) (v := .slice A n c) rfl (by kernel_rfl) (by kernel_rfl) (by kernel_rfl) (fun _ _ _ h => h) (Or.inl ⟨by rfl, fun W hW => ?_⟩) hHeld4 ?_
    · rfl
    try simp only [Act.put, List.getElem_toArray, List.getElem_cons_succ, List.getElem_cons_zero, List.setIfInBounds_toArray, List.set_cons_succ, List.set_cons_zero]
    refine wpAnyH_take (i := 7) (v := .string (mkS b)) rfl (by kernel_rfl) (by kernel_rfl) (by kernel_rfl) (fun _ _ _ h => h) (Or.inl ⟨by rfl, fun W hW => ?_⟩) hHeld4 ?_
    · exact exec_conv 26 9 (.tmp 32) rfl _ _ rfl (conv_bs W A n c b hl hW.2)
    try simp only [Act.put, List.getElem_toArray, List.getElem_cons_succ, List.getElem_cons_zero, List.setIfInBounds_toArray, List.set_cons_succ, List.set_cons_zero]
    refine wpAnyH_ready (rs := [4]) (by kernel_rfl) (by simp) ?_
    refine AllReadyH.cons rfl (fun K hK => ?_) AllReadyH.nil
    go_simp
    go_at_call 16
    refine (HRP.out w4 HT4.out).mono ?_
    rintro e w5 ⟨A5, c5, rfl, own5, fr5, bel5⟩
    have hcv6 := conv_bs w5 A5 n c5 b hl own5.rb
    have hb5 := HB4.out.next bel5
    have hr5 := HR4.out.below bel5
    have hbw5 := HBW.out.trans (bel5.mono HBW.out.size)
    go_wp2
    refine hK.out _ _ ⟨hb5, hr5⟩ (fun hHeld5 => ?_)
    clear hK K hHeld4
    try simp only [Act.put, List.getElem_toArray, List.getElem_cons_succ, List.getElem_cons_zero, List.setIfInBounds_toArray, List.set_cons_succ, List.set_cons_zero]
    refine wpAnyH_ready (rs := [5]) (by kernel_rfl) (by simp) ?_
    refine AllReadyH.cons rfl (fun K hK => ?_) AllReadyH.nil
    go_simp
    refine hK.out _ _ hHeld5 (fun _ => ?_)
    clear hK K hcv6
    try simp only [Act.put, List.getElem_toArray, List.getElem_cons_succ, List.getElem_cons_zero, List.setIfInBounds_toArray, List.set_cons_succ, List.set_cons_zero]
    refine wpAnyH_take (i := 8) (v := .bool true) rfl (by kernel_rfl) (by kernel_rfl) (by kernel_rfl) (fun _ _ _ h => h) (Or.inl ⟨by rfl, fun W hW => ?_⟩) hHeld5 ?_
    · go_simp
    try simp only [Act.put, List.getElem_toArray, List.getElem_cons_succ, List.getElem_cons_zero, List.setIfInBounds_toArray, List.set_cons_succ, List.set_cons_zero]
    refine wpAnyH_take (i := 9) (v := .bool true) rfl (by kernel_rfl) (by kernel_rfl) (by kernel_rfl) (fun _ _ _ h => h) (Or.inl ⟨by rfl, fun W hW => ?_⟩) hHeld5 ?_
    · rfl
    try simp only [Act.put, List.getElem_toArray, List.getElem_cons_succ, List.getElem_cons_zero, List.setIfInBounds_toArray, List.set_cons_succ, List.set_cons_zero]
    refine wpAnyH_take (i := 10) (v := .bool true) rfl (by kernel_rfl) (by kernel_rfl) (by kernel_rfl) (fun _ _ _ h => h) (Or.inl ⟨by rfl, fun W hW => ?_⟩) hHeld5 ?_
    · rfl
    try simp only [Act.put, List.getElem_toArray, List.getElem_cons_succ, List.getElem_cons_zero, List.setIfInBounds_toArray, List.set_cons_succ, List.set_cons_zero]
    refine wpAnyH_done (by kernel_rfl) ?_ _
    go_wp2
    go_returns
    exact ⟨rfl, hbw5⟩

end Go.Proofs.Ytdkadlifjmmcbaa
