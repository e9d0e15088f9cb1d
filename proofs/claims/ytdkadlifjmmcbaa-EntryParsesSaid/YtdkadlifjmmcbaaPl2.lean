/- The walk of entry.placed. -/
import Derived.Test.YtdkadlifjmmcbaaPd
namespace Go.Proofs.Ytdkadlifjmmcbaa
open Go.RowKit

/-- are a header's numbers as they may be? -/
def placedB (h : Hdr) : Bool :=
  decide (1 ≤ h.wr) && decide (h.wr ≤ 6) && decide (1 ≤ h.sq) && decide (h.sq ≤ 1048576) && decide (0 ≤ h.ep) && decide (h.ep ≤ 255) && decide (h.tm ≤ 1099511627776) &&
    (h.kn.getD (h.wr - 1).toNat 0 == h.sq - 1) && h.kn.all (fun k => decide (k ≤ 1048576)) && (decide (1 < h.sq) || h.pv == zeros 32)

set_option maxRecDepth 100000 in
set_option maxHeartbeats 1000000 in
theorem placed_any (h : Hdr) (o : h.ok) (w : World) (hq : h.sq < 18446744073709551616) (ht : h.tm < 18446744073709551616) :
    Calls Try.prog 47 #[.agg h.arr] w fun e w' => e = .returned (.bool (placedB h)) ∧ Below w.heap.size w w' := by
  have H := HAt.new w o
  have hwr := H.wr
  have hsq := H.sq
  have hep := H.ep
  have htm := H.tm
  have HH := Lib.hid H
  clear H
  have hP : placedB h = (decide (1 ≤ h.wr) && decide (h.wr ≤ 6) && decide (1 ≤ h.sq) && decide (h.sq ≤ 1048576) && decide (0 ≤ h.ep) && decide (h.ep ≤ 255) && decide (h.tm ≤ 1099511627776) &&
    (h.kn.getD (h.wr - 1).toNat 0 == h.sq - 1) && h.kn.all (fun k => decide (k ≤ 1048576)) && (decide (1 < h.sq) || h.pv == zeros 32)) := rfl
  generalize placedB h = pb at *
  have HP := Lib.hid hP
  clear hP
  cases h1 : decide (h.wr < 1)
  rotate_left
  · have h0 := of_decide_eq_true h1
    go_enter Try.func47, Try.ntmps47
    go_wp2_with fail
    go_quiet (fail)
    go_wp2
    go_returns
    exact ⟨ret_bool (by rw [HP.out]; simp; omega), by (repeat (refine bel_drewN ?_ _)); go_grown⟩
  cases h2 : decide (6 < h.wr)
  rotate_left
  · have h0 := of_decide_eq_true h2
    go_enter Try.func47, Try.ntmps47
    go_wp2_with fail
    go_quiet (fail)
    go_wp2
    go_returns
    exact ⟨ret_bool (by rw [HP.out]; simp; omega), by (repeat (refine bel_drewN ?_ _)); go_grown⟩
  cases h3 : decide ((h.sq : Int) < 1)
  rotate_left
  · have h0 := of_decide_eq_true h3
    go_enter Try.func47, Try.ntmps47
    go_wp2_with fail
    go_quiet (fail)
    go_wp2
    go_returns
    exact ⟨ret_bool (by rw [HP.out]; simp; omega), by (repeat (refine bel_drewN ?_ _)); go_grown⟩
  cases h4 : decide (1048576 < (h.sq : Int))
  rotate_left
  · have h0 := of_decide_eq_true h4
    go_enter Try.func47, Try.ntmps47
    go_wp2_with fail
    go_quiet (fail)
    go_wp2
    go_returns
    exact ⟨ret_bool (by rw [HP.out]; simp; omega), by (repeat (refine bel_drewN ?_ _)); go_grown⟩
  cases h5 : decide (h.ep < 0)
  rotate_left
  · have h0 := of_decide_eq_true h5
    go_enter Try.func47, Try.ntmps47
    go_wp2_with fail
    go_quiet (fail)
    go_wp2
    go_returns
    exact ⟨ret_bool (by rw [HP.out]; simp; omega), by (repeat (refine bel_drewN ?_ _)); go_grown⟩
  cases h6 : decide (255 < h.ep)
  rotate_left
  · have h0 := of_decide_eq_true h6
    go_enter Try.func47, Try.ntmps47
    go_wp2_with fail
    go_quiet (fail)
    go_wp2
    go_returns
    exact ⟨ret_bool (by rw [HP.out]; simp; omega), by (repeat (refine bel_drewN ?_ _)); go_grown⟩
  cases h7 : decide (1099511627776 < (h.tm : Int))
  rotate_left
  · have h0 := of_decide_eq_true h7
    go_enter Try.func47, Try.ntmps47
    go_wp2_with fail
    go_quiet (fail)
    go_wp2
    go_returns
    exact ⟨ret_bool (by rw [HP.out]; simp; omega), by (repeat (refine bel_drewN ?_ _)); go_grown⟩
  have g1 := of_decide_eq_false h1
  have g2 := of_decide_eq_false h2
  have g3 := of_decide_eq_false h3
  have g4 := of_decide_eq_false h4
  have g5 := of_decide_eq_false h5
  have g6 := of_decide_eq_false h6
  have g7 := of_decide_eq_false h7
  obtain ⟨m, hm⟩ : ∃ m : Nat, h.wr = (m : Int) + 1 := ⟨(h.wr - 1).toNat, by omega⟩
  have hm5 : m < 6 := by omega
  have hP2 : pb = ((h.kn.getD m 0 == h.sq - 1) && h.kn.all (fun k => decide (k ≤ 1048576)) && (decide (1 < h.sq) || h.pv == zeros 32)) := by
    have e1 : (h.wr - 1).toNat = m := by omega
    rw [HP.out, e1, decide_eq_true (show 1 ≤ h.wr by omega), decide_eq_true (show h.wr ≤ 6 by omega), decide_eq_true (show 1 ≤ h.sq by omega), decide_eq_true (show h.sq ≤ 1048576 by omega), decide_eq_true (show 0 ≤ h.ep by omega), decide_eq_true (show h.ep ≤ 255 by omega), decide_eq_true (show h.tm ≤ 1099511627776 by omega)]
    rfl
  have HP2 := Lib.hid hP2
  obtain ⟨k, hk⟩ : ∃ k : Nat, h.kn[m]? = some k := ⟨_, List.getElem?_eq_getElem (by rw [o.kn]; exact hm5)⟩
  have hkd : h.kn.getD m 0 = k := by rw [List.getD_eq_getElem?_getD, hk]; rfl
  have hkc : (w.alloc (Obj.cells h.arr 44)).cell? ⟨w.heap.size, 54 + m, none⟩ = some (.int .u64 (k : Int)) := by rw [HH.out.kn m hm5, hk]; rfl
  rw [hkd] at hP2
  rw [hm] at hwr h1 h2
  have HP3 := Lib.hid hP2
  clear hP2 hkd
  cases h8 : ((k : Int) == (h.sq : Int) - 1)
  · go_enter Try.func47, Try.ntmps47
    go_wp2_with fail
    go_quiet (fail)
    go_wp2
    go_returns
    exact ⟨ret_bool (by rw [HP3.out]; simp at h8 ⊢; omega), by (repeat (refine bel_drewN ?_ _)); go_grown⟩
  have hPk : pb = (h.kn.all (fun k => decide (k ≤ 1048576)) && (decide (1 < h.sq) || h.pv == zeros 32)) := by
    have e1 : (k == h.sq - 1) = true := by simp at h8 ⊢; omega
    rw [HP3.out, e1]
    rfl
  obtain ⟨k0, k1, k2, k3, k4, k5, hkn⟩ := list6 o.kn
  have hk0 : (w.alloc (Obj.cells h.arr 44)).cell? ⟨w.heap.size, 54, none⟩ = some (.int .u64 (k0 : Int)) := by rw [HH.out.kn 0 (by omega), hkn]; rfl
  have hk1 : (w.alloc (Obj.cells h.arr 44)).cell? ⟨w.heap.size, 55, none⟩ = some (.int .u64 (k1 : Int)) := by rw [HH.out.kn 1 (by omega), hkn]; rfl
  have hk2 : (w.alloc (Obj.cells h.arr 44)).cell? ⟨w.heap.size, 56, none⟩ = some (.int .u64 (k2 : Int)) := by rw [HH.out.kn 2 (by omega), hkn]; rfl
  have hk3 : (w.alloc (Obj.cells h.arr 44)).cell? ⟨w.heap.size, 57, none⟩ = some (.int .u64 (k3 : Int)) := by rw [HH.out.kn 3 (by omega), hkn]; rfl
  have hk4 : (w.alloc (Obj.cells h.arr 44)).cell? ⟨w.heap.size, 58, none⟩ = some (.int .u64 (k4 : Int)) := by rw [HH.out.kn 4 (by omega), hkn]; rfl
  have hk5 : (w.alloc (Obj.cells h.arr 44)).cell? ⟨w.heap.size, 59, none⟩ = some (.int .u64 (k5 : Int)) := by rw [HH.out.kn 5 (by omega), hkn]; rfl
  rw [hkn] at hPk
  simp only [List.all_cons, List.all_nil, Bool.and_true] at hPk
  have HPK := Lib.hid hPk
  clear hPk hkn
  obtain ⟨iu, hiu, hius⟩ := info_size (P := Try.prog) (t := 36) (n := 1) (by kernel_rfl)
  have hix := fun (W : World) (j : Nat) (v : Value) (hj : j < 6) hv => run_index_arr (P := Try.prog) W 42 36 6 #[.int .u64 (k0 : Int), .int .u64 (k1 : Int), .int .u64 (k2 : Int), .int .u64 (k3 : Int), .int .u64 (k4 : Int), .int .u64 (k5 : Int)] .i64 .u64 j v iu Try.underlying42 hiu hius Try.underlying36 hj hv
  have hx0 := fun W => hix W 0 _ (by omega) rfl
  have hx1 := fun W => hix W 1 _ (by omega) rfl
  have hx2 := fun W => hix W 2 _ (by omega) rfl
  have hx3 := fun W => hix W 3 _ (by omega) rfl
  have hx4 := fun W => hix W 4 _ (by omega) rfl
  have hx5 := fun W => hix W 5 _ (by omega) rfl
  clear hix hiu hius
  have h8' : ((k : Int) != (h.sq : Int) - 1) = false := by simp at h8 ⊢; exact h8
  have hrg := fun m => (HH.out.drewN m).gpv
  have HRG := Lib.hid hrg
  clear hrg
  simp only [Int.cast_ofNat_Int] at hx0 hx1 hx2 hx3 hx4 hx5
  cases h9 : decide (1 < (h.sq : Int))
  · have heq := eqin_zero (P := Try.prog) (t := 38) (e := 5) Try.underlying38 (by kernel_rfl) Try.underlying5 h.pv o.pv
    have g9 := of_decide_eq_false h9
    have hsz : (Try.prog.info? 38).map (·.size) = some (bytesL h.pv).length := by rw [bytesL_len, o.pv]; kernel_rfl
    go_enter Try.func47, Try.ntmps47
    go_wp2_with fail
    go_quiet (fail)
    go_wp2
    refine wp_loop_rounds 7 ?_
    repeat any_goals (rw [rounds_succ]; go_wp2_with (refine wpList_load_midG (by rfl) 38 _ rfl w.heap.size 2 rfl (bytesL h.pv) _ (HRG.out _) Try.underlying38 rfl hsz ?_))
    all_goals
      go_returns
      exact ⟨ret_bool (by rw [HPK.out]; generalize (h.pv == zeros 32) = z; cases z <;> simp <;> omega), by (repeat (refine bel_drewN ?_ _)); go_grown⟩
  · go_enter Try.func47, Try.ntmps47
    go_wp2_with fail
    go_quiet (fail)
    go_wp2
    have g9 := of_decide_eq_true h9
    refine wp_loop_rounds 7 ?_
    repeat any_goals (rw [rounds_succ]; go_wp2)
    all_goals
      go_returns
      exact ⟨ret_bool (by rw [HPK.out]; generalize (h.pv == zeros 32) = z; cases z <;> simp <;> omega), by (repeat (refine bel_drewN ?_ _)); go_grown⟩

end Go.Proofs.Ytdkadlifjmmcbaa
