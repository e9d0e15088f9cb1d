/- The walk of the reference's FormedChange. -/
import Derived.Test.YtdkadlifjmmcbaaCh2
namespace Go.Proofs.Ytdkadlifjmmcbaa
open Go.RowKit

set_option maxRecDepth 100000 in
set_option maxHeartbeats 400000 in
theorem rname_any (s : ByteArray) (w : World) (_hs : s.size ≤ 140737488355328) : Calls Try.prog 21 #[.string s] w fun e w' => e = .returned (.bool (nameB s)) ∧ w = w' := by
  by_cases h : 1 ≤ s.size
  · go_enter Try.func21, Try.ntmps21
    go_wp2
    go_ret
    exact ⟨ret_bool (by simp [nameB, h]; omega), rfl⟩
  · go_enter Try.func21, Try.ntmps21
    go_wp2
    go_ret
    exact ⟨ret_bool (by simp [nameB, h]; try omega), rfl⟩

set_option maxRecDepth 100000 in
set_option maxHeartbeats 2000000 in
theorem rformed_loop (op : Int) (name val : ByteArray) (A : Option Addr) (n c : Nat) (l : List ByteArray) (w : World) (hl : l.length = n) (hr : RS w A l) (h8 : n ≤ 8)
    (hs : ∀ s ∈ l, s.size ≤ 140737488355328) (hn : name.size ≤ 140737488355328) (hq : nameB name = true) (hv2 : val.size ≤ 512) (ve : Bool) (hve : val.toList.isEmpty = ve)
    (ho : op = 1 ∨ (op = 2 ∧ n = 0 ∧ ve = true) ∨ (op = 3 ∧ ve = true)) :
    Calls Try.prog 8 #[.agg #[.int .i64 op, .string name, .slice A n c, .string val]] w fun e w' => e = .returned (.bool (tagsB l)) ∧ Below w.heap.size w w' := by
  have HL := Lib.hid hl
  have HR := Lib.hid hr
  have HS := Lib.hid hs
  clear hl hr hs
  rcases ho with rfl | ⟨rfl, rfl, rfl⟩ | ⟨rfl, rfl⟩
  all_goals
    go_enter Try.func8, Try.ntmps8
    go_wp2_with fail
    refine (rname_any _ _ hn).mono ?_
    rintro e w' ⟨rfl, rfl⟩
    go_wp2
  rotate_left
  · refine wp_loop_rounds 1 ?_
    rw [rounds_succ]
    go_wp2
    go_ret
    exact ⟨ret_bool (tagsB_true fun i hi => by have := HL.out; omega).symm, by go_grown⟩
  all_goals
    go_loopw [3] (fun i wr => ∃ (k m : Nat) (z : Int), k ≤ n ∧ i = .int .i64 k ∧ (∀ i, i < k → tagOK l i = true) ∧ wr = (w.alloc (.cells #[.int .i64 z, .string name, .slice A n c, .string val] 24)).drewN m) (fun i _ => n - (intOf i).toNat)
    case atStart => exact ⟨0, 0, _, Nat.zero_le _, rfl, fun i hi => by omega, rfl⟩
    case round =>
      obtain ⟨k, m, z, hk, rfl, hok, rfl⟩ := hrel
      have HOK := Lib.hid hok
      clear hok
      by_cases hlt : k < n
      · have hltl : k < l.length := by have := HL.out; omega
        obtain ⟨b, o, rfl, hcx⟩ := HR.out k hltl
        have hbl := cell_lt hcx
        have hsz := HS.out _ (List.getElem_mem hltl)
        have hno : tagOK l k = false → tagsB l = false := fun h => tagsB_false hltl h
        have hyes : tagOK l k = true → ∀ i, i < k + 1 → tagOK l i = true := fun h i hi => by
          rcases Nat.lt_or_ge i k with h1 | h1
          · exact HOK.out i h1
          · obtain rfl : i = k := by omega
            exact h
        have HN := Lib.hid hno
        have HY := Lib.hid hyes
        clear hno hyes
        rcases k with _ | k
        · have e := tagOK_zero hltl
          have HE := Lib.hid e
          clear e
          simp only [Nat.add_zero] at hcx
          cases hnm : nameB l[0]
          all_goals
            go_wp2_with fail
            go_quiet ((go_at_call 21; exact quiet_add_l (rname_any _ _ hsz)))
            go_wp2
          · go_ret
            exact ⟨ret_bool (HN.out (HE.out.trans hnm)).symm, by (repeat (refine bel_drewN ?_ _)); go_grown⟩
          · go_roundw
            case rel => exact ⟨1, _, _, by omega, rfl, HY.out (HE.out.trans hnm), rfl⟩
            case measure => simp [intOf]; omega
        · obtain ⟨b', o', e', hcy⟩ := HR.out k (by omega)
          cases e'
          have e := tagOK_succ hltl
          have HE := Lib.hid e
          have htot := bl_total l[k + 1].toList l[k].toList
          have HTo := Lib.hid htot
          clear e htot
          cases hnm : nameB l[k + 1]
          · go_wp2_with fail
            go_quiet ((go_at_call 21; exact quiet_add_l (rname_any _ _ hsz)))
            go_wp2
            go_ret
            exact ⟨ret_bool (HN.out (by rw [HE.out, hnm]; rfl)).symm, by (repeat (refine bel_drewN ?_ _)); go_grown⟩
          · cases hls : (Op.bytesLess l[k + 1].toList l[k].toList || l[k + 1].toList == l[k].toList)
            all_goals
              go_wp2_with fail
              go_quiet ((go_at_call 21; exact quiet_add_l (rname_any _ _ hsz)))
              go_wp2
            · go_roundw
              case rel => exact ⟨k + 2, _, _, by omega, by go_num, HY.out (by rw [HE.out, hnm]; have := HTo.out; rw [hls] at this; simpa using this), rfl⟩
              case measure => simp [intOf]; omega
            · go_ret
              exact ⟨ret_bool (HN.out (by rw [HE.out, hnm]; have := HTo.out; rw [hls] at this; simpa using this)).symm, by (repeat (refine bel_drewN ?_ _)); go_grown⟩
      · go_wp2
        go_ret
        exact ⟨ret_bool (tagsB_true fun i hi => HOK.out i (by have := HL.out; omega)).symm, by (repeat (refine bel_drewN ?_ _)); go_grown⟩

end Go.Proofs.Ytdkadlifjmmcbaa
