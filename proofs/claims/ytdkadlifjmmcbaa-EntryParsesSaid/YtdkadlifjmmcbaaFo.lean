/- The walk of entry.Formed, with what keys.Sorted answers laid. -/
import Derived.Test.YtdkadlifjmmcbaaPl2
namespace Go.Proofs.Ytdkadlifjmmcbaa
open Go.RowKit

/-- is a header formed? 's': do its tokens rise -/
def formedH (h : Hdr) (s : Bool) : Bool := placedB h && decide (h.n ≤ 8) && s && padIs (h.sz - 16) && (!h.ct || (h.n == 0 && h.it == zeros 16))

/-- what keys.Sorted answers of a header's tokens, from a world on -/
def SortSays (w : World) (h : Hdr) (s : Bool) : Prop :=
  ∀ W, Below w.heap.size w W → Calls Try.prog 48 #[.slice h.A h.n h.c] W fun e W' => e = .returned (.bool s) ∧ Below W.heap.size W W'

set_option maxRecDepth 100000 in
set_option maxHeartbeats 1000000 in
theorem eformedh_any (h : Hdr) (o : h.ok) (w : World) (hq : h.sq < 18446744073709551616) (ht : h.tm < 18446744073709551616) (hn : h.n ≤ 140737488355328) (hz1 : -9223372036854775791 ≤ h.sz) (hz2 : h.sz ≤ 9223372036854775807) (s : Bool) (hso : SortSays w h s) :
    Calls Try.prog 36 #[.agg h.arr] w fun e w' => e = .returned (.bool (formedH h s)) ∧ Below w.heap.size w w' := by
  have H := HAt.new w o
  have hsz : (Try.prog.info? 44).map (·.size) = some h.arr.size := by rw [Hdr.size o]; kernel_rfl
  have hrow := H.blk
  unfold Blk at hrow
  have hb0 : Below w.heap.size w (w.alloc (.cells h.arr 44)) := (Below.refl _ w).alloc (Nat.le_refl _) _
  have hpl := placed_any h o (w.alloc (.cells h.arr 44)) hq ht
  have HPL := Lib.hid hpl
  have HSO := Lib.hid hso
  have HH := Lib.hid H
  have hF : formedH h s = (placedB h && decide (h.n ≤ 8) && s && padIs (h.sz - 16) && (!h.ct || (h.n == 0 && h.it == zeros 16))) := rfl
  generalize formedH h s = fb at *
  have HF := Lib.hid hF
  clear hF hpl hso H
  cases h1 : placedB h
  · go_enter Try.func36, Try.ntmps36
    go_wp2_with (first | (refine wpList_load_row rfl 44 _ rfl w.heap.size rfl 44 _ (0, 0) _ hrow Try.underlying44 rfl hsz ?_) | fail)
    refine HPL.out.mono ?_
    rintro e w' ⟨rfl, bel1⟩
    rw [h1]
    go_wp2
    go_returns
    exact ⟨ret_bool (by rw [HF.out, h1]; rfl), hb0.trans (bel1.mono hb0.size)⟩
  cases h2 : decide (8 < (h.n : Int))
  rotate_left
  · have g2 := of_decide_eq_true h2
    go_enter Try.func36, Try.ntmps36
    go_wp2_with (first | (refine wpList_load_row rfl 44 _ rfl w.heap.size rfl 44 _ (0, 0) _ hrow Try.underlying44 rfl hsz ?_) | fail)
    refine HPL.out.mono ?_
    rintro e w1 ⟨rfl, bel1⟩
    have HW := HH.out.next bel1
    have hbw := hb0.trans (bel1.mono hb0.size)
    have hct := HW.ct
    have htk := HW.toks
    have hsz1 := HW.sz
    have HG := Lib.hid HW
    rw [h1]
    clear HW
    go_wp2
    go_returns
    exact ⟨ret_bool (by rw [HF.out, decide_eq_false (show ¬ h.n ≤ 8 by omega)]; simp), hbw⟩
  have g2 := of_decide_eq_false h2
  have hF2 : fb = (s && padIs (h.sz - 16) && (!h.ct || (h.n == 0 && h.it == zeros 16))) := by
    rw [HF.out, h1, decide_eq_true (show h.n ≤ 8 by omega)]; rfl
  have HF2 := Lib.hid hF2
  clear hF2
  cases s
  ·
    go_enter Try.func36, Try.ntmps36
    go_wp2_with (first | (refine wpList_load_row rfl 44 _ rfl w.heap.size rfl 44 _ (0, 0) _ hrow Try.underlying44 rfl hsz ?_) | fail)
    refine HPL.out.mono ?_
    rintro e w1 ⟨rfl, bel1⟩
    have HW := HH.out.next bel1
    have hbw := hb0.trans (bel1.mono hb0.size)
    have hct := HW.ct
    have htk := HW.toks
    have hsz1 := HW.sz
    have HG := Lib.hid HW
    rw [h1]
    clear HW
    go_wp2_with fail
    refine (HSO.out _ hbw).mono ?_
    rintro e w2 ⟨rfl, bel2⟩
    go_wp2
    go_returns
    exact ⟨ret_bool (by rw [HF2.out]; rfl), hbw.trans (bel2.mono hbw.size)⟩
  cases h4 : padIs (h.sz - 16)
  ·
    go_enter Try.func36, Try.ntmps36
    go_wp2_with (first | (refine wpList_load_row rfl 44 _ rfl w.heap.size rfl 44 _ (0, 0) _ hrow Try.underlying44 rfl hsz ?_) | fail)
    refine HPL.out.mono ?_
    rintro e w1 ⟨rfl, bel1⟩
    have HW := HH.out.next bel1
    have hbw := hb0.trans (bel1.mono hb0.size)
    have hct := HW.ct
    have htk := HW.toks
    have hsz1 := HW.sz
    have HG := Lib.hid HW
    rw [h1]
    clear HW
    go_wp2_with fail
    refine (HSO.out _ hbw).mono ?_
    rintro e w2 ⟨rfl, bel2⟩
    have hsz2 := (HG.out.next bel2).sz
    go_wp2_with fail
    refine (is_any _ _ (by omega) (by omega)).mono ?_
    rintro e w3 ⟨rfl, rfl⟩
    rw [h4]
    go_wp2
    go_returns
    exact ⟨ret_bool (by rw [HF2.out, h4]; rfl), hbw.trans (bel2.mono hbw.size)⟩
  have hF3 : fb = (!h.ct || (h.n == 0 && h.it == zeros 16)) := by
    rw [HF2.out, h4]; rfl
  have HF3 := Lib.hid hF3
  clear hF3
  have heq := eqin_zero16 (P := Try.prog) (t := 40) (e := 5) Try.underlying40 (by kernel_rfl) Try.underlying5 h.it o.it
  have hszt : (Try.prog.info? 40).map (·.size) = some (bytesL h.it).length := by rw [bytesL_len, o.it]; kernel_rfl
  cases h5 : h.ct
  ·
    go_enter Try.func36, Try.ntmps36
    go_wp2_with (first | (refine wpList_load_row rfl 44 _ rfl w.heap.size rfl 44 _ (0, 0) _ hrow Try.underlying44 rfl hsz ?_) | fail)
    refine HPL.out.mono ?_
    rintro e w1 ⟨rfl, bel1⟩
    have HW := HH.out.next bel1
    have hbw := hb0.trans (bel1.mono hb0.size)
    have hct := HW.ct
    have htk := HW.toks
    have hsz1 := HW.sz
    have HG := Lib.hid HW
    rw [h1]
    clear HW
    rw [h5] at hct
    go_wp2_with fail
    refine (HSO.out _ hbw).mono ?_
    rintro e w2 ⟨rfl, bel2⟩
    have hsz2 := (HG.out.next bel2).sz
    have hct2 := (HG.out.next bel2).ct
    rw [h5] at hct2
    go_wp2_with fail
    refine (is_any _ _ (by omega) (by omega)).mono ?_
    rintro e w3 ⟨rfl, rfl⟩
    rw [h4]
    go_wp2
    go_returns
    exact ⟨ret_bool (by rw [HF3.out, h5]; rfl), hbw.trans (bel2.mono hbw.size)⟩
  cases h6 : ((h.n : Int) == 0)
  ·
    go_enter Try.func36, Try.ntmps36
    go_wp2_with (first | (refine wpList_load_row rfl 44 _ rfl w.heap.size rfl 44 _ (0, 0) _ hrow Try.underlying44 rfl hsz ?_) | fail)
    refine HPL.out.mono ?_
    rintro e w1 ⟨rfl, bel1⟩
    have HW := HH.out.next bel1
    have hbw := hb0.trans (bel1.mono hb0.size)
    have hct := HW.ct
    have htk := HW.toks
    have hsz1 := HW.sz
    have HG := Lib.hid HW
    rw [h1]
    clear HW
    rw [h5] at hct
    go_wp2_with fail
    refine (HSO.out _ hbw).mono ?_
    rintro e w2 ⟨rfl, bel2⟩
    have hsz2 := (HG.out.next bel2).sz
    have hct2 := (HG.out.next bel2).ct
    have htk2 := (HG.out.next bel2).toks
    rw [h5] at hct2
    go_wp2_with fail
    refine (is_any _ _ (by omega) (by omega)).mono ?_
    rintro e w3 ⟨rfl, rfl⟩
    rw [h4]
    go_wp2
    go_returns
    exact ⟨ret_bool (by rw [HF3.out, h5]; simp at h6; simp [h6]), hbw.trans (bel2.mono hbw.size)⟩
  ·
    go_enter Try.func36, Try.ntmps36
    go_wp2_with (first | (refine wpList_load_row rfl 44 _ rfl w.heap.size rfl 44 _ (0, 0) _ hrow Try.underlying44 rfl hsz ?_) | fail)
    refine HPL.out.mono ?_
    rintro e w1 ⟨rfl, bel1⟩
    have HW := HH.out.next bel1
    have hbw := hb0.trans (bel1.mono hb0.size)
    have hct := HW.ct
    have htk := HW.toks
    have hsz1 := HW.sz
    have HG := Lib.hid HW
    rw [h1]
    clear HW
    rw [h5] at hct
    go_wp2_with fail
    refine (HSO.out _ hbw).mono ?_
    rintro e w2 ⟨rfl, bel2⟩
    have hsz2 := (HG.out.next bel2).sz
    have hct2 := (HG.out.next bel2).ct
    have htk2 := (HG.out.next bel2).toks
    have hrg2 := (HG.out.next bel2).git
    have HR := Lib.hid hrg2
    clear hrg2
    rw [h5] at hct2
    go_wp2_with fail
    refine (is_any _ _ (by omega) (by omega)).mono ?_
    rintro e w3 ⟨rfl, rfl⟩
    rw [h4]
    go_wp2_with (refine wpList_load_midG (by rfl) 40 _ rfl w.heap.size 37 rfl (bytesL h.it) _ HR.out Try.underlying40 rfl hszt ?_)
    go_returns
    exact ⟨ret_bool (by rw [HF3.out, h5]; simp at h6; simp [h6]), hbw.trans (bel2.mono hbw.size)⟩

end Go.Proofs.Ytdkadlifjmmcbaa
