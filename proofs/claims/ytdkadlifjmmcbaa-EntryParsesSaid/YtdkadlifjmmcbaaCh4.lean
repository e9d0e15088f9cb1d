/- The walk of the reference's FormedChange, the second part. -/
import Derived.Test.YtdkadlifjmmcbaaCh3
namespace Go.Proofs.Ytdkadlifjmmcbaa
open Go.RowKit

set_option maxRecDepth 100000 in
set_option maxHeartbeats 2000000 in
theorem rformed_any (op : Int) (name val : ByteArray) (A : Option Addr) (n c : Nat) (l : List ByteArray) (w : World) (hl : l.length = n) (hr : RS w A l) (_hb : n ≤ 140737488355328)
    (hs : ∀ s ∈ l, s.size ≤ 140737488355328) (hn : name.size ≤ 140737488355328) (_hv : val.size ≤ 140737488355328) :
    Calls Try.prog 8 #[.agg #[.int .i64 op, .string name, .slice A n c, .string val]] w fun e w' => e = .returned (.bool (formedC op name l val)) ∧ Below w.heap.size w w' := by
  have hemp : l.isEmpty = (n == 0) := by rw [← hl]; cases l <;> rfl
  have hfin : (nameB name && tagsB l && decide (n ≤ 8) && decide (val.size ≤ 512) && ((op == 1) || (op == 2 && (n == 0) && val.size == 0) || (op == 3 && val.size == 0))) = formedC op name l val := by
    unfold formedC
    rw [hl, hemp]
  have HF := Lib.hid hfin
  have HL := Lib.hid hl
  have HR := Lib.hid hr
  have HS := Lib.hid hs
  clear hfin hemp hl hr hs
  by_cases hpre : op < 1 ∨ 3 < op
  · have q1 : (op == 1) = false := by simp; omega
    have q2 : (op == 2) = false := by simp; omega
    have q3 : (op == 3) = false := by simp; omega
    rcases hpre with h | h
    all_goals
      clear q1 q2 q3
      go_enter Try.func8, Try.ntmps8
      go_wp2_with fail
      go_ret
      have q1 : (op == 1) = false := by simp; omega
      have q2 : (op == 2) = false := by simp; omega
      have q3 : (op == 3) = false := by simp; omega
      exact ⟨ret_bool (by rw [← HF.out, q1, q2, q3]; simp), (Below.refl _ _).alloc (Nat.le_refl _) _⟩
  · have ho1 : 1 ≤ op := by omega
    have ho3 : op ≤ 3 := by omega
    clear hpre
    cases hq : nameB name
    · go_enter Try.func8, Try.ntmps8
      go_wp2_with fail
      refine (rname_any _ _ hn).mono ?_
      rintro e w' ⟨rfl, rfl⟩
      go_wp2
      go_ret
      exact ⟨ret_bool (by rw [← HF.out, hq]; rfl), (Below.refl _ _).alloc (Nat.le_refl _) _⟩
    · by_cases h8 : 8 < n
      · go_enter Try.func8, Try.ntmps8
        go_wp2_with fail
        refine (rname_any _ _ hn).mono ?_
        rintro e w' ⟨rfl, rfl⟩
        go_wp2
        go_ret
        exact ⟨ret_bool (by rw [← HF.out, hq]; simp; omega), (Below.refl _ _).alloc (Nat.le_refl _) _⟩
      · by_cases hv2 : 512 < val.size
        · go_enter Try.func8, Try.ntmps8
          go_wp2_with fail
          refine (rname_any _ _ hn).mono ?_
          rintro e w' ⟨rfl, rfl⟩
          go_wp2
          go_ret
          exact ⟨ret_bool (by rw [← HF.out, hq]; simp; omega), (Below.refl _ _).alloc (Nat.le_refl _) _⟩
        · have h8' : n ≤ 8 := by omega
          have d8 : decide (n ≤ 8) = true := by simp; omega
          have dv : decide (val.size ≤ 512) = true := by simp; omega
          have D8 := Lib.hid d8
          have DV := Lib.hid dv
          clear d8 dv
          have ho : op = 1 ∨ op = 2 ∨ op = 3 := by omega
          by_cases h2n : op = 2 ∧ 0 < n
          · obtain ⟨rfl, hn0⟩ := h2n
            go_enter Try.func8, Try.ntmps8
            go_wp2_with fail
            refine (rname_any _ _ hn).mono ?_
            rintro e w' ⟨rfl, rfl⟩
            go_wp2
            go_ret
            exact ⟨ret_bool (by rw [← HF.out, beq_eq_false_iff_ne.2 (show n ≠ 0 from by omega)]; simp), (Below.refl _ _).alloc (Nat.le_refl _) _⟩
          · cases hve : val.toList.isEmpty
            · have hvs : (val.size == 0) = false := by rw [← str_empty, hve]
              have HV := Lib.hid hvs
              clear hvs
              rcases ho with rfl | rfl | rfl
              · refine (rformed_loop 1 name val A n c l w HL.out HR.out h8' HS.out hn hq (by omega) _ hve (.inl rfl)).mono ?_
                rintro e w' ⟨rfl, hbel⟩
                exact ⟨ret_bool (by rw [← HF.out, hq, D8.out, DV.out]; simp), hbel⟩
              · obtain rfl : n = 0 := by omega
                clear h2n
                go_enter Try.func8, Try.ntmps8
                go_wp2_with fail
                refine (rname_any _ _ hn).mono ?_
                rintro e w' ⟨rfl, rfl⟩
                go_wp2
                go_ret
                exact ⟨ret_bool (by rw [← HF.out, HV.out]; simp), (Below.refl _ _).alloc (Nat.le_refl _) _⟩
              · clear h2n
                go_enter Try.func8, Try.ntmps8
                go_wp2_with fail
                refine (rname_any _ _ hn).mono ?_
                rintro e w' ⟨rfl, rfl⟩
                go_wp2
                go_ret
                exact ⟨ret_bool (by rw [← HF.out, HV.out]; simp), (Below.refl _ _).alloc (Nat.le_refl _) _⟩
            · have hvs : (val.size == 0) = true := by rw [← str_empty, hve]
              have hcase : op = 1 ∨ (op = 2 ∧ n = 0 ∧ true = true) ∨ (op = 3 ∧ true = true) := by
                rcases ho with h | h | h
                · exact .inl h
                · exact .inr (.inl ⟨h, by omega, rfl⟩)
                · exact .inr (.inr ⟨h, rfl⟩)
              refine (rformed_loop op name val A n c l w HL.out HR.out h8' HS.out hn hq (by omega) _ hve hcase).mono ?_
              rintro e w' ⟨rfl, hbel⟩
              refine ⟨ret_bool ?_, hbel⟩
              rw [← HF.out, hq, D8.out, DV.out, hvs]
              rcases ho with rfl | rfl | rfl
              · simp
              · obtain rfl : n = 0 := by omega
                simp
              · simp

end Go.Proofs.Ytdkadlifjmmcbaa
