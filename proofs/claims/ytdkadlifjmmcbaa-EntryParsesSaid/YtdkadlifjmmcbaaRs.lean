/- The walk of the reference's Sorted. -/
import Derived.Test.YtdkadlifjmmcbaaRl
namespace Go.Proofs.Ytdkadlifjmmcbaa
open Go.RowKit

set_option maxRecDepth 100000 in
set_option maxHeartbeats 1000000 in
theorem rsorted_any (A : Option Addr) (n c : Nat) (l : List (List UInt8)) (w : World) (hl : l.length = n) (hr : TS w A l) (hb : n ≤ 140737488355328) :
    Calls Try.prog 37 #[.slice A n c] w fun e w' => e = .returned (.bool (sortedB l)) ∧ Below w.heap.size w w' := by
  have HL := Lib.hid hl
  have HR := Lib.hid hr
  have hinf : (Try.prog.info? 40).map (·.size) = some 16 := by kernel_rfl
  have HI := Lib.hid hinf
  clear hl hr hinf
  go_enter Try.func37, Try.ntmps37
  go_wp2
  go_loopw [3] (fun i wr => ∃ k : Nat, (k + 1 ≤ n ∨ k = 0) ∧ i = .int .i64 (k : Int) ∧ Below w.heap.size w wr ∧ ∀ j (h : j + 1 < l.length), j < k → Lib.compareBytes l[j] l[j + 1] < 0) (fun i _ => n - (intOf i).toNat)
  case atStart => exact ⟨0, .inr rfl, rfl, Below.refl _ _, fun j _ h => by omega⟩
  case round =>
    obtain ⟨k, hk, rfl, hbw, hsm⟩ := hrel
    have HS := Lib.hid hsm
    have hsz := hbw.size
    clear hsm
    by_cases hlt : k + 1 < n
    · have hlt1 : k + 1 < l.length := by have := HL.out; omega
      have hlt0 : k < l.length := by omega
      obtain ⟨h0, b, o, rfl, hr0⟩ := HR.out k hlt0
      obtain ⟨h1, b', o', e', hr1⟩ := HR.out (k + 1) hlt1
      cases e'
      have hrw := HR.out.below hbw
      have q0 : wr.rangeAt b (o + k * 16) (bytesL l[k]) := by
        obtain ⟨_, b2, o2, e2, h⟩ := hrw k hlt0
        cases e2
        exact h
      have q1 : wr.rangeAt b (o + (k + 1) * 16) (bytesL l[k + 1]) := by
        obtain ⟨_, b2, o2, e2, h⟩ := hrw (k + 1) hlt1
        cases e2
        exact h
      have s0 : (Try.prog.info? 40).map (·.size) = some (bytesL l[k]).length := by rw [bytesL_len, h0]; exact HI.out
      have s1 : (Try.prog.info? 40).map (·.size) = some (bytesL l[k + 1]).length := by rw [bytesL_len, h1]; exact HI.out
      have Q0 := Lib.hid q0
      have Q1 := Lib.hid q1
      clear hrw q0 q1 hr0 hr1
      go_wp2_with fail
      refine wp_region_held_drew (S := fun W => W.rangeAt b (o + k * 16) (bytesL l[k]) ∧ W.rangeAt b (o + (k + 1) * 16) (bytesL l[k + 1])) (by kernel_rfl) ⟨by simpa using Q0.out, by simpa using Q1.out⟩ (fun hHeld => ?_)
      refine wpAnyH_take (i := 0) (v := .slice (some ⟨b, o, none⟩) n c) rfl (by kernel_rfl) (by kernel_rfl) (by kernel_rfl) (fun _ _ _ h => h) (Or.inl ⟨by rfl, fun W _ => ?_⟩) hHeld ?_
      · rfl
      try simp only [Act.put, List.getElem_toArray, List.getElem_cons_succ, List.getElem_cons_zero, List.setIfInBounds_toArray, List.set_cons_succ, List.set_cons_zero]
      refine wpAnyH_take (i := 1) (v := .int .i64 (k : Int)) rfl (by kernel_rfl) (by kernel_rfl) (by kernel_rfl) (fun _ _ _ h => h) (Or.inl ⟨by rfl, fun W _ => ?_⟩) hHeld ?_
      · rfl
      try simp only [Act.put, List.getElem_toArray, List.getElem_cons_succ, List.getElem_cons_zero, List.setIfInBounds_toArray, List.set_cons_succ, List.set_cons_zero]
      refine wpAnyH_take (i := 2) (v := .pointer (some ⟨b, o + k * 16, none⟩)) rfl (by kernel_rfl) (by kernel_rfl) (by kernel_rfl) (fun _ _ _ h => h) (Or.inl ⟨by rfl, fun W _ => ?_⟩) hHeld ?_
      · (go_simp; intro h; omega)
      try simp only [Act.put, List.getElem_toArray, List.getElem_cons_succ, List.getElem_cons_zero, List.setIfInBounds_toArray, List.set_cons_succ, List.set_cons_zero]
      refine wpAnyH_take (i := 3) (v := .agg (bytesL l[k]).toArray) rfl (by kernel_rfl) (by kernel_rfl) (by kernel_rfl) (fun _ _ _ h => h) (Or.inl ⟨by rfl, fun W hW => ?_⟩) hHeld ?_
      · exact exec_load_mid 40 (.tmp 13) rfl b (o + k * 16) rfl (bytesL l[k]) _ hW.1 Try.underlying40 rfl s0
      try simp only [Act.put, List.getElem_toArray, List.getElem_cons_succ, List.getElem_cons_zero, List.setIfInBounds_toArray, List.set_cons_succ, List.set_cons_zero]
      refine wpAnyH_take (i := 4) (v := .slice (some ⟨b, o, none⟩) n c) rfl (by kernel_rfl) (by kernel_rfl) (by kernel_rfl) (fun _ _ _ h => h) (Or.inl ⟨by rfl, fun W _ => ?_⟩) hHeld ?_
      · rfl
      try simp only [Act.put, List.getElem_toArray, List.getElem_cons_succ, List.getElem_cons_zero, List.setIfInBounds_toArray, List.set_cons_succ, List.set_cons_zero]
      refine wpAnyH_take (i := 5) (v := .int .i64 (k : Int)) rfl (by kernel_rfl) (by kernel_rfl) (by kernel_rfl) (fun _ _ _ h => h) (Or.inl ⟨by rfl, fun W _ => ?_⟩) hHeld ?_
      · rfl
      try simp only [Act.put, List.getElem_toArray, List.getElem_cons_succ, List.getElem_cons_zero, List.setIfInBounds_toArray, List.set_cons_succ, List.set_cons_zero]
      refine wpAnyH_take (i := 6) (v := .int .i64 ((k : Int) + 1)) rfl (by kernel_rfl) (by kernel_rfl) (by kernel_rfl) (fun _ _ _ h => h) (Or.inl ⟨by rfl, fun W _ => ?_⟩) hHeld ?_
      · (go_simp; go_arith)
      try simp only [Act.put, List.getElem_toArray, List.getElem_cons_succ, List.getElem_cons_zero, List.setIfInBounds_toArray, List.set_cons_succ, List.set_cons_zero]
      refine wpAnyH_take (i := 7) (v := .pointer (some ⟨b, o + (k + 1) * 16, none⟩)) rfl (by kernel_rfl) (by kernel_rfl) (by kernel_rfl) (fun _ _ _ h => h) (Or.inl ⟨by rfl, fun W _ => ?_⟩) hHeld ?_
      · (go_simp; intro h; omega)
      try simp only [Act.put, List.getElem_toArray, List.getElem_cons_succ, List.getElem_cons_zero, List.setIfInBounds_toArray, List.set_cons_succ, List.set_cons_zero]
      refine wpAnyH_take (i := 8) (v := .agg (bytesL l[k + 1]).toArray) rfl (by kernel_rfl) (by kernel_rfl) (by kernel_rfl) (fun _ _ _ h => h) (Or.inl ⟨by rfl, fun W hW => ?_⟩) hHeld ?_
      · exact exec_load_mid 40 (.tmp 18) rfl b (o + (k + 1) * 16) rfl (bytesL l[k + 1]) _ hW.2 Try.underlying40 rfl s1
      try simp only [Act.put, List.getElem_toArray, List.getElem_cons_succ, List.getElem_cons_zero, List.setIfInBounds_toArray, List.set_cons_succ, List.set_cons_zero]
      refine wpAnyH_ready (rs := [9]) (by kernel_rfl) (by simp) ?_
      refine AllReadyH.cons rfl (fun K hK => ?_) AllReadyH.nil
      go_simp
      go_at_call 50
      refine (less_any _ l[k] l[k + 1] h0 h1).mono ?_
      rintro e w2 ⟨rfl, bel2⟩
      have hb2 : Below w.heap.size w w2 := (hbw.drew).trans (bel2.mono hsz)
      have hr2 := HR.out.below hb2
      have q20 : w2.rangeAt b (o + k * 16) (bytesL l[k]) := by
        obtain ⟨_, b2, o2, e2, h⟩ := hr2 k hlt0
        cases e2
        exact h
      have q21 : w2.rangeAt b (o + (k + 1) * 16) (bytesL l[k + 1]) := by
        obtain ⟨_, b2, o2, e2, h⟩ := hr2 (k + 1) hlt1
        cases e2
        exact h
      have hno : ¬ Lib.compareBytes l[k] l[k + 1] < 0 → sortedB l = false := sortedB_false hlt1
      have hyes : Lib.compareBytes l[k] l[k + 1] < 0 → ∀ j (h : j + 1 < l.length), j < k + 1 → Lib.compareBytes l[j] l[j + 1] < 0 := by
        intro hx j hj hjk
        rcases Nat.lt_or_ge j k with h | h
        · exact HS.out j hj h
        · obtain rfl : j = k := by omega
          exact hx
      have HN := Lib.hid hno
      have HY := Lib.hid hyes
      clear hno hyes hr2
      go_wp2
      refine hK.out _ _ ⟨q20, q21⟩ (fun hHeld2 => ?_)
      clear hK K hHeld
      generalize Lib.compareBytes l[k] l[k + 1] = z at *
      try simp only [Act.put, List.getElem_toArray, List.getElem_cons_succ, List.getElem_cons_zero, List.setIfInBounds_toArray, List.set_cons_succ, List.set_cons_zero]
      cases hz : decide (z < 0)
      ·
        refine wpAnyH_take (i := 10) (v := .bool true) rfl (by kernel_rfl) (by kernel_rfl) (by kernel_rfl) (fun _ _ _ h => h) (Or.inl ⟨by rfl, fun W _ => ?_⟩) hHeld2 ?_
        · go_simp
        try simp only [Act.put, List.getElem_toArray, List.getElem_cons_succ, List.getElem_cons_zero, List.setIfInBounds_toArray, List.set_cons_succ, List.set_cons_zero]
        refine wpAnyH_done (by kernel_rfl) ?_ _
        go_wp2
        have g := of_decide_eq_false hz
        go_returns
        exact ⟨ret_bool (HN.out (by omega)).symm, hb2⟩
      ·
        refine wpAnyH_take (i := 10) (v := .bool false) rfl (by kernel_rfl) (by kernel_rfl) (by kernel_rfl) (fun _ _ _ h => h) (Or.inl ⟨by rfl, fun W _ => ?_⟩) hHeld2 ?_
        · go_simp
        try simp only [Act.put, List.getElem_toArray, List.getElem_cons_succ, List.getElem_cons_zero, List.setIfInBounds_toArray, List.set_cons_succ, List.set_cons_zero]
        refine wpAnyH_done (by kernel_rfl) ?_ _
        go_wp2
        have g := of_decide_eq_true hz
        exact ⟨⟨k + 1, .inl (by omega), by go_num, hb2, HY.out (by omega)⟩, by simp [intOf]; omega⟩
    · go_wp2
      go_returns
      have e : sortedB l = true := sortedB_true fun i hi => HS.out i hi (by have := HL.out; omega)
      exact ⟨ret_bool e.symm, hbw⟩

end Go.Proofs.Ytdkadlifjmmcbaa
