/- The walks of layer 5's In, the third part: Text, Flag, Read. -/
import Derived.Test.YtdkadlifjmmcbaaDoorPi2
import Derived.WalkLawsBesides
namespace Go.Proofs.YtdkadlifjmmcbaaDoor
open Go.RowKit

set_option maxRecDepth 100000 in
set_option maxHeartbeats 400000 in
theorem itext_in (R : Nat → Prop) (w : World) (g : Nat) (l : List UInt8) (bad : Bool) (h : InIs R w g l bad) (most : Nat) (hm : most ≤ 4096) (hb : l.length ≤ 140737488355328) :
    Calls Tryd.prog 32 #[.pointer (some ⟨g, 0, none⟩), .int .i64 most] w (RetIn R g (textT most l bad) w) := by
  have h0 := h
  have hle := numR_le l
  obtain ⟨hg, A, c, hblk, hr, hc, hA⟩ := h
  have hc0 : w.cell? ⟨g, 0, none⟩ = some (.slice A l.length c) := hblk.cell 0
  have hc1 : w.cell? ⟨g, 1, none⟩ = some (.bool bad) := hblk.cell 1
  have hf0 := hblk.free 0
  have fin : ∀ (e : Ending) (w1 : World), (e = .returned (.tuple #[]) ∧ InIs R w1 g l true ∧ Keep (· ≠ g) w w1) → RetIn R g ([], l, true) w (.returned (.slice none 0 0)) w1 :=
    fun e w1 ⟨_, hin, hk⟩ => ⟨none, 0, rfl, OwnB.nil _, (fun r h => by cases h), hin, hk⟩
  by_cases hbad : bad = true ∨ (numR l).2 = 0 ∨ min most (min 4096 (l.length - (numR l).2)) < (numR l).1
  · have e : textT most l bad = ([], l, true) := by rw [textT, if_pos hbad]
    rw [e]
    cases bad
    · have hbad : (numR l).2 = 0 ∨ min most (min 4096 (l.length - (numR l).2)) < (numR l).1 := by simpa using hbad
      rcases hq : (((numR l).2 : Int) == 0) with _ | _
      · have hx : min most (min 4096 (l.length - (numR l).2)) < (numR l).1 := by
          rcases hbad with h | h
          · rw [h] at hq; cases hq
          · exact h
        clear hbad
        rcases Nat.lt_or_ge (l.length - (numR l).2) most with hs | hs
        all_goals
          first
          | have hx2 : l.length - (numR l).2 < (numR l).1 := by omega
          | have hx2 : most < (numR l).1 := by omega
          clear hx
          go_enter Tryd.func32, Tryd.ntmps32
          go_wp2_with fail
          refine (number_in R w g l _ h0 hb).mono ?_
          rintro e w1 ⟨rfl, rfl⟩
          go_wp2_with fail
          refine (fail_in R w g l _ h0).mono ?_
          rintro e w1 hh
          have hfin := fin e w1 hh
          obtain ⟨rfl, hin, hk⟩ := hh
          go_wp2
          go_ret
          exact hfin
      · clear hbad
        go_enter Tryd.func32, Tryd.ntmps32
        go_wp2_with fail
        refine (number_in R w g l _ h0 hb).mono ?_
        rintro e w1 ⟨rfl, rfl⟩
        go_wp2_with fail
        refine (fail_in R w g l _ h0).mono ?_
        rintro e w1 hh
        have hfin := fin e w1 hh
        obtain ⟨rfl, hin, hk⟩ := hh
        go_wp2
        go_ret
        exact hfin
    · clear hbad
      go_enter Tryd.func32, Tryd.ntmps32
      go_wp2_with fail
      refine (number_in R w g l _ h0 hb).mono ?_
      rintro e w1 ⟨rfl, rfl⟩
      go_wp2_with fail
      refine (fail_in R w g l _ h0).mono ?_
      rintro e w1 hh
      have hfin := fin e w1 hh
      obtain ⟨rfl, hin, hk⟩ := hh
      go_wp2
      go_ret
      exact hfin
  · have e : textT most l bad = rawT (numR l).1 (l.drop (numR l).2) false := by rw [textT, if_neg hbad]
    rw [e]
    obtain rfl : bad = false := by cases bad <;> simp_all
    have h1 : ¬ (numR l).2 = 0 := fun h => hbad (.inr (.inl h))
    have hx : (numR l).1 ≤ min most (min 4096 (l.length - (numR l).2)) := Nat.le_of_not_lt fun h => hbad (.inr (.inr h))
    have q1 : (((numR l).2 : Int) == 0) = false := by rw [beq_eq_false_iff_ne]; omega
    clear hbad
    have fin2 : ∀ (w1 w2 : World) (e : Ending), Keep (· ≠ g) w w1 → RetIn R g (rawT (numR l).1 (l.drop (numR l).2) false) w1 e w2 → RetIn R g (rawT (numR l).1 (l.drop (numR l).2) false) w e w2 :=
      fun w1 w2 e hk ⟨A, c, he, ho, hf, hin, hk2⟩ => ⟨A, c, he, ho, fun b hb => Nat.le_trans hk.size (hf b hb), hin, hk.trans hk2⟩
    rcases Nat.lt_or_ge (l.length - (numR l).2) most with hs | hs
    all_goals
      have hx2 : (numR l).1 ≤ l.length - (numR l).2 := by omega
      have hx3 : decide (most < (numR l).1) = false := by simp; omega
      clear hx
      go_enter Tryd.func32, Tryd.ntmps32
      go_wp2_with fail
      refine (number_in R w g l _ h0 hb).mono ?_
      rintro e w1 ⟨rfl, rfl⟩
      go_wp2_with fail
      all_goals
        first
        | (have hck : c = (numR l).2 := by assumption
           subst hck
           refine (iraw_in R _ g _ _ (in_cut0 hg hblk hc hA hle) _ (by rw [List.length_drop]; omega)).mono ?_)
        | (refine (iraw_in R _ g _ _ (in_cut hg hblk hr hc hA hle) _ (by rw [List.length_drop]; omega)).mono ?_)
        rintro e w2 hh
        have h2 := fin2 _ w2 e ((Keep.refl _ _).setCell (by simp) _) hh
        obtain ⟨A2, c2, rfl, hrest⟩ := hh
        clear hrest fin fin2
        go_wp2
        go_ret
        exact h2

set_option maxRecDepth 100000 in
set_option maxHeartbeats 400000 in
theorem iflag_in (R : Nat → Prop) (w : World) (g : Nat) (l : List UInt8) (bad : Bool) (h : InIs R w g l bad) (hb : l.length ≤ 140737488355328) :
    Calls Tryd.prog 53 #[.pointer (some ⟨g, 0, none⟩)] w fun e w' =>
      e = .returned (.bool (flagT l bad).1) ∧ InIs R w' g (flagT l bad).2.1 (flagT l bad).2.2 ∧ Keep (· ≠ g) w w' := by
  have h0 := h
  obtain ⟨hg, A, c, hblk, hr, hc, hA⟩ := h
  have hc0 : w.cell? ⟨g, 0, none⟩ = some (.slice A l.length c) := hblk.cell 0
  have hc1 : w.cell? ⟨g, 1, none⟩ = some (.bool bad) := hblk.cell 1
  have hf0 := hblk.free 0
  cases bad
  · rcases l with _ | ⟨x, l⟩
    · have q : (((([] : List UInt8).length : Nat) : Int) == 0) = true := rfl
      go_enter Tryd.func53, Tryd.ntmps53
      go_wp2_with fail
      refine (fail_in R w g [] _ h0).mono ?_
      rintro e w1 ⟨rfl, hin, hk⟩
      go_wp2
      go_ret
      exact ⟨rfl, hin, hk⟩
    · have q : ((l.length : Int) + 1 == 0) = false := by rw [beq_eq_false_iff_ne]; omega
      obtain ⟨b, o, rfl, hcx'⟩ := hr 0 (by simp)
      have hcx : w.cell? ⟨b, o, none⟩ = some (.int .u8 (x.toNat : Int)) := hcx'
      clear hcx'
      have hx := x.toNat_lt
      by_cases h1 : 1 < x.toNat
      · have e : flagT (x :: l) false = (false, x :: l, true) := by simp [flagT, h1]
        rw [e]
        go_enter Tryd.func53, Tryd.ntmps53
        go_wp2_with fail
        refine (fail_in R w g _ _ h0).mono ?_
        rintro e w1 ⟨rfl, hin, hk⟩
        go_wp2
        go_ret
        exact ⟨rfl, hin, hk⟩
      · have e : flagT (x :: l) false = (x == 1, l, false) := by simp [flagT, h1]
        have e2 : (((x.toNat : Nat) : Int) == 1) = (x == 1) := by
          rw [Bool.eq_iff_iff, beq_iff_eq, beq_iff_eq, ← UInt8.toNat_inj]
          show ((x.toNat : Nat) : Int) = 1 ↔ x.toNat = 1
          omega
        have E2 := Lib.hid e2
        have hd : (x :: l).drop 1 = l := rfl
        have hl1 : (x :: l).length = l.length + 1 := rfl
        rw [e]
        have hck : 1 ≤ c := by simp at hc; omega
        clear e e2 hd hl1
        go_enter Tryd.func53, Tryd.ntmps53
        go_wp2
        · have hck : c = 1 := by assumption
          go_ret
          subst hck
          exact ⟨ret_bool E2.out, in_cut0 (l := x :: l) hg hblk hc hA (by simp), (Keep.refl _ _).setCell (by simp) _⟩
        · go_ret
          exact ⟨ret_bool E2.out, in_cut (l := x :: l) (k := 1) hg hblk hr hc hA (by simp), (Keep.refl _ _).setCell (by simp) _⟩
  · have e : flagT l true = (false, l, true) := by cases l <;> simp [flagT]
    rw [e]
    go_enter Tryd.func53, Tryd.ntmps53
    go_wp2_with fail
    refine (fail_in R w g l _ h0).mono ?_
    rintro e w1 ⟨rfl, hin, hk⟩
    go_wp2
    go_ret
    exact ⟨rfl, hin, hk⟩

end Go.Proofs.YtdkadlifjmmcbaaDoor
