/- The walks of changes: FormedChange, the program's and the reference's. -/
import Derived.Test.YtdkadlifjmmcbaaCh
namespace Go.Proofs.Ytdkadlifjmmcbaa
open Go.RowKit

theorem RS.keep {w w' : World} {A : Option Addr} {l : List ByteArray} (h : RS w A l) (hk : ∀ p : Addr, p.block < w.heap.size → w'.cell? p = w.cell? p) : RS w' A l := by
  intro j hj
  obtain ⟨b, o, e, hc⟩ := h j hj
  exact ⟨b, o, e, (hk _ (cell_lt hc)).trans hc⟩
theorem RS.below {w w' : World} {A : Option Addr} {l : List ByteArray} (h : RS w A l) (hb : Below w.heap.size w w') : RS w' A l := h.keep fun _ hp => hb.cell hp
theorem RS.alloc {w : World} {A : Option Addr} {l : List ByteArray} (h : RS w A l) (o : Obj) : RS (w.alloc o) A l := h.keep fun p hp => World.cell?_alloc_lt w o p hp

set_option maxRecDepth 100000 in
set_option maxHeartbeats 800000 in
theorem eformed_any (op : Int) (name val : ByteArray) (A : Option Addr) (n c : Nat) (l : List ByteArray) (w : World) (hl : l.length = n) (hr : RS w A l) (hb : n ≤ 140737488355328)
    (hs : ∀ s ∈ l, s.size ≤ 140737488355328) (hn : name.size ≤ 140737488355328) (hv : val.size ≤ 140737488355328) :
    Calls Try.prog 9 #[.agg #[.int .i64 op, .string name, .slice A n c, .string val]] w fun e w' => e = .returned (.bool (formedC op name l val)) ∧ Below w.heap.size w w' := by
  have ht := fun o => etags_any A n c l (w.alloc o) hl (hr.alloc o) hb hs
  obtain ⟨tb, htb⟩ : ∃ tb, tb = (tagsB l && decide (l.length ≤ 8)) := ⟨_, rfl⟩
  rw [← htb] at ht
  have hemp : l.isEmpty = (n == 0) := by rw [← hl]; cases l <;> rfl
  have HT := Lib.hid ht
  have hfin : (nameB name && tb && decide (val.size ≤ 512) && ((op == 1) || (op == 2 && (n == 0) && val.size == 0) || (op == 3 && val.size == 0))) = formedC op name l val := by
    unfold formedC
    rw [htb, hemp]
    simp only [Bool.and_assoc]
  have HF := Lib.hid hfin
  clear ht hfin hr hs htb hemp hl
  cases hq : nameB name
  · go_enter Try.func9, Try.ntmps9
    go_wp2_with fail
    refine (ename_any _ _ hn).mono ?_
    rintro e w' ⟨rfl, rfl⟩
    go_wp2
    go_ret
    exact ⟨ret_bool (by rw [← HF.out, hq]; rfl), (Below.refl _ _).alloc (Nat.le_refl _) _⟩
  · cases tb
    · go_enter Try.func9, Try.ntmps9
      go_wp2_with fail
      refine (ename_any _ _ hn).mono ?_
      rintro e w' ⟨rfl, rfl⟩
      go_wp2_with fail
      refine (HT.out _).mono ?_
      rintro e w' ⟨rfl, rfl⟩
      go_wp2
      go_ret
      exact ⟨ret_bool (by rw [← HF.out, hq]; rfl), (Below.refl _ _).alloc (Nat.le_refl _) _⟩
    · by_cases hv2 : val.size ≤ 512
      · by_cases h2 : op = 2
        · subst h2
          rcases Nat.eq_zero_or_pos n with rfl | hpos
          ·
            go_enter Try.func9, Try.ntmps9
            go_wp2_with fail
            refine (ename_any _ _ hn).mono ?_
            rintro e w' ⟨rfl, rfl⟩
            go_wp2_with fail
            refine (HT.out _).mono ?_
            rintro e w' ⟨rfl, rfl⟩
            go_wp2
            go_ret
            exact ⟨ret_bool (by rw [← HF.out, hq, str_empty]; simp [hv2]), (Below.refl _ _).alloc (Nat.le_refl _) _⟩
          ·
            go_enter Try.func9, Try.ntmps9
            go_wp2_with fail
            refine (ename_any _ _ hn).mono ?_
            rintro e w' ⟨rfl, rfl⟩
            go_wp2_with fail
            refine (HT.out _).mono ?_
            rintro e w' ⟨rfl, rfl⟩
            go_wp2
            go_ret
            exact ⟨ret_bool (by rw [← HF.out, hq, beq_eq_false_iff_ne.2 (show n ≠ 0 from by omega)]; simp), (Below.refl _ _).alloc (Nat.le_refl _) _⟩
        · by_cases h3 : op = 3
          · subst h3
            go_enter Try.func9, Try.ntmps9
            go_wp2_with fail
            refine (ename_any _ _ hn).mono ?_
            rintro e w' ⟨rfl, rfl⟩
            go_wp2_with fail
            refine (HT.out _).mono ?_
            rintro e w' ⟨rfl, rfl⟩
            go_wp2
            go_ret
            exact ⟨ret_bool (by rw [← HF.out, hq, str_empty]; simp [hv2]), (Below.refl _ _).alloc (Nat.le_refl _) _⟩
          · have q2 : (op == 2) = false := by simp [h2]
            have q3 : (op == 3) = false := by simp [h3]
            clear h2 h3
            go_enter Try.func9, Try.ntmps9
            go_wp2_with fail
            refine (ename_any _ _ hn).mono ?_
            rintro e w' ⟨rfl, rfl⟩
            go_wp2_with fail
            refine (HT.out _).mono ?_
            rintro e w' ⟨rfl, rfl⟩
            go_wp2
            go_ret
            exact ⟨ret_bool (by rw [← HF.out, hq, q2, q3]; simp [hv2]), (Below.refl _ _).alloc (Nat.le_refl _) _⟩
      ·
        go_enter Try.func9, Try.ntmps9
        go_wp2_with fail
        refine (ename_any _ _ hn).mono ?_
        rintro e w' ⟨rfl, rfl⟩
        go_wp2_with fail
        refine (HT.out _).mono ?_
        rintro e w' ⟨rfl, rfl⟩
        go_wp2
        go_ret
        exact ⟨ret_bool (by rw [← HF.out, hq]; simp [hv2]), (Below.refl _ _).alloc (Nat.le_refl _) _⟩

end Go.Proofs.Ytdkadlifjmmcbaa
