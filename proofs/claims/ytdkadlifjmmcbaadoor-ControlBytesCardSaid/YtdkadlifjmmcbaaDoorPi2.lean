/- The walks of layer 5's In, the second part. -/
import Derived.Test.YtdkadlifjmmcbaaDoorPi
namespace Go.Proofs.YtdkadlifjmmcbaaDoor
open Go.RowKit

theorem InIs.bad {R : Nat → Prop} {w : World} {g : Nat} {l : List UInt8} {bad : Bool} (h : InIs R w g l bad) (b : Bool) : InIs R (w.setCell ⟨g, 1, none⟩ (.bool b)) g l b := by
  obtain ⟨hg, A, c, hb, hr, hc, hA⟩ := h
  refine ⟨hg, A, c, hb.set 1 _, ?_, hc, hA⟩
  intro j hj
  obtain ⟨b', o, e, hcell⟩ := hr j hj
  refine ⟨b', o, e, ?_⟩
  rw [World.cell?_of_block (Below.heap_setCell _ _ _ _ (hA b' (by rw [e]; rfl)).2), hcell]

set_option maxRecDepth 100000 in
set_option maxHeartbeats 400000 in
theorem fail_in (R : Nat → Prop) (w : World) (g : Nat) (l : List UInt8) (bad : Bool) (h : InIs R w g l bad) :
    Calls Tryd.prog 60 #[.pointer (some ⟨g, 0, none⟩)] w fun e w' => e = .returned (.tuple #[]) ∧ InIs R w' g l true ∧ Keep (· ≠ g) w w' := by
  obtain ⟨hg, A, c, hblk, hr, hc, hA⟩ := h
  have hc1 : w.cell? ⟨g, 1, none⟩ = some (.bool bad) := hblk.cell 1
  have hf1 := hblk.free 1
  go_enter Tryd.func60, Tryd.ntmps60
  go_wp2
  go_end0
  exact ⟨rfl, InIs.bad (bad := bad) ⟨hg, A, c, hblk, hr, hc, hA⟩ true, (Keep.refl _ _).setCell (by simp) _⟩

theorem blkOf_add (A : Option Addr) (k : Nat) : blkOf (A.map (·.add k)) = blkOf A := by
  cases A with
  | none => rfl
  | some a => simp [blkOf, Addr.add]; split <;> rfl

theorem RB.cut {w : World} {A : Option Addr} {l : List UInt8} (h : RB w A l) (k : Nat) : RB w (A.map (·.add k)) (l.drop k) := by
  intro j hj
  rw [List.length_drop] at hj
  obtain ⟨b, o, e, hc⟩ := h (k + j) (by omega)
  refine ⟨b, o + k, ?_, ?_⟩
  · rw [e]
    simp only [Option.map_some, Addr.add]
    split
    · subst_vars
      rfl
    · rfl
  · rw [List.getElem_drop, Nat.add_assoc, hc]

theorem RB.take {w : World} {A : Option Addr} {l : List UInt8} (h : RB w A l) (k : Nat) : RB w A (l.take k) := by
  intro j hj
  rw [List.length_take] at hj
  obtain ⟨b, o, e, hc⟩ := h j (by omega)
  exact ⟨b, o, e, by rw [List.getElem_take, hc]⟩

theorem Keep.fresh {S : Nat → Prop} {w w' : World} (h : Below w.heap.size w w') : Keep S w w' := Keep.of_below h fun _ hi _ => hi

/-- the first bytes are taken off -/
theorem in_cut {R : Nat → Prop} {w : World} {g : Nat} {l : List UInt8} {bad : Bool} {A : Option Addr} {c k : Nat} (hg : R g) (hblk : Blk w g 94 #[.slice A l.length c, .bool bad]) (hr : RB w A l)
    (hc : l.length ≤ c) (hA : ∀ r, blkOf A = some r → R r ∧ r ≠ g) (_hk : k ≤ l.length) :
    InIs R (w.setCell ⟨g, 0, none⟩ (.slice (A.map fun x => x.add k) (l.length - k) (c - k))) g (l.drop k) bad := by
  refine ⟨hg, A.map (·.add k), c - k, by rw [List.length_drop]; exact hblk.set 0 _, ?_, by rw [List.length_drop]; omega, by rw [blkOf_add]; exact hA⟩
  intro j hj
  obtain ⟨b', o, e, hcell⟩ := hr.cut k j hj
  refine ⟨b', o, e, ?_⟩
  rw [World.cell?_of_block (Below.heap_setCell _ _ _ _ (hA b' (by rw [← blkOf_add A k, e]; rfl)).2), hcell]

theorem in_cut0 {R : Nat → Prop} {w : World} {g : Nat} {l : List UInt8} {bad : Bool} {A : Option Addr} {k : Nat} (hg : R g) (hblk : Blk w g 94 #[.slice A l.length k, .bool bad])
    (hc : l.length ≤ k) (hA : ∀ r, blkOf A = some r → R r ∧ r ≠ g) (hk : k ≤ l.length) :
    InIs R (w.setCell ⟨g, 0, none⟩ (.slice A (l.length - k) 0)) g (l.drop k) bad := by
  have e : l.drop k = [] := List.drop_of_length_le hc
  rw [e, show l.length - k = ([] : List UInt8).length from by simp; omega]
  exact ⟨hg, A, 0, hblk.set 0 _, RB.nil, Nat.le_refl _, hA⟩

set_option maxRecDepth 100000 in
set_option maxHeartbeats 400000 in
theorem inum_in (R : Nat → Prop) (w : World) (g : Nat) (l : List UInt8) (bad : Bool) (h : InIs R w g l bad) (most : Nat) (hb : l.length ≤ 140737488355328) :
    Calls Tryd.prog 31 #[.pointer (some ⟨g, 0, none⟩), .int .u64 most] w fun e w' =>
      e = .returned (.int .u64 (numT most l bad).1) ∧ InIs R w' g (numT most l bad).2.1 (numT most l bad).2.2 ∧ Keep (· ≠ g) w w' := by
  have h0 := h
  have hle := numR_le l
  obtain ⟨hg, A, c, hblk, hr, hc, hA⟩ := h
  have hc0 : w.cell? ⟨g, 0, none⟩ = some (.slice A l.length c) := hblk.cell 0
  have hc1 : w.cell? ⟨g, 1, none⟩ = some (.bool bad) := hblk.cell 1
  have hf0 := hblk.free 0
  by_cases hbad : bad = true ∨ (numR l).2 = 0 ∨ most < (numR l).1
  · have e : numT most l bad = (0, l, true) := by rw [numT, if_pos hbad]
    rw [e]
    cases bad
    · have hbad : (numR l).2 = 0 ∨ most < (numR l).1 := by simpa using hbad
      have q : ((((numR l).2 : Int) == 0) || decide (most < (numR l).1)) = true := by
        rcases hbad with h | h
        · rw [h]; rfl
        · simp [h]
      clear hbad
      rcases hq : (((numR l).2 : Int) == 0) with _ | _
      · have q2 : decide (most < (numR l).1) = true := by simpa [hq] using q
        clear q
        go_enter Tryd.func31, Tryd.ntmps31
        go_wp2_with fail
        refine (number_in R w g l _ h0 hb).mono ?_
        rintro e w1 ⟨rfl, rfl⟩
        go_wp2_with fail
        refine (fail_in R w g l _ h0).mono ?_
        rintro e w1 ⟨rfl, hin, hk⟩
        go_wp2
        go_ret
        exact ⟨rfl, hin, hk⟩
      · clear q
        go_enter Tryd.func31, Tryd.ntmps31
        go_wp2_with fail
        refine (number_in R w g l _ h0 hb).mono ?_
        rintro e w1 ⟨rfl, rfl⟩
        go_wp2_with fail
        refine (fail_in R w g l _ h0).mono ?_
        rintro e w1 ⟨rfl, hin, hk⟩
        go_wp2
        go_ret
        exact ⟨rfl, hin, hk⟩
    · clear hbad
      go_enter Tryd.func31, Tryd.ntmps31
      go_wp2_with fail
      refine (number_in R w g l _ h0 hb).mono ?_
      rintro e w1 ⟨rfl, rfl⟩
      go_wp2_with fail
      refine (fail_in R w g l _ h0).mono ?_
      rintro e w1 ⟨rfl, hin, hk⟩
      go_wp2
      go_ret
      exact ⟨rfl, hin, hk⟩
  · have e : numT most l bad = ((numR l).1, l.drop (numR l).2, false) := by rw [numT, if_neg hbad]
    rw [e]
    obtain rfl : bad = false := by cases bad <;> simp_all
    have h1 : ¬ (numR l).2 = 0 := fun h => hbad (.inr (.inl h))
    have h2 : (numR l).1 ≤ most := Nat.le_of_not_lt fun h => hbad (.inr (.inr h))
    have q1 : (((numR l).2 : Int) == 0) = false := by rw [beq_eq_false_iff_ne]; omega
    have q2 : decide (most < (numR l).1) = false := by simp; omega
    clear hbad
    go_enter Tryd.func31, Tryd.ntmps31
    go_wp2_with fail
    refine (number_in R w g l _ h0 hb).mono ?_
    rintro e w1 ⟨rfl, rfl⟩
    go_wp2
    · have hck : c = (numR l).2 := by assumption
      go_ret
      subst hck
      exact ⟨rfl, in_cut0 hg hblk hc hA hle, (Keep.refl _ _).setCell (by simp) _⟩
    · go_ret
      exact ⟨rfl, in_cut hg hblk hr hc hA hle, (Keep.refl _ _).setCell (by simp) _⟩

/-- bytes that were taken -/
def RetIn (R : Nat → Prop) (g : Nat) (r : List UInt8 × List UInt8 × Bool) (w : World) (e : Ending) (w' : World) : Prop :=
  ∃ A c, e = .returned (.slice A r.1.length c) ∧ OwnB w' A r.1.length c r.1 ∧ (∀ b, blkOf A = some b → w.heap.size ≤ b) ∧ InIs R w' g r.2.1 r.2.2 ∧ Keep (· ≠ g) w w'

set_option maxRecDepth 100000 in
set_option maxHeartbeats 400000 in
theorem iraw_in (R : Nat → Prop) (w : World) (g : Nat) (l : List UInt8) (bad : Bool) (h : InIs R w g l bad) (n : Nat) (hb : l.length ≤ 140737488355328) :
    Calls Tryd.prog 61 #[.pointer (some ⟨g, 0, none⟩), .int .i64 n] w (RetIn R g (rawT n l bad) w) := by
  have h0 := h
  obtain ⟨hg, A, c, hblk, hr, hc, hA⟩ := h
  have hc0 : w.cell? ⟨g, 0, none⟩ = some (.slice A l.length c) := hblk.cell 0
  have hc1 : w.cell? ⟨g, 1, none⟩ = some (.bool bad) := hblk.cell 1
  by_cases hbad : bad = true ∨ l.length < n
  · have e : rawT n l bad = ([], l, true) := by rw [rawT, if_pos hbad]
    rw [e]
    cases bad
    · have hlt : l.length < n := by simpa using hbad
      have q : decide (l.length < n) = true := by simp [hlt]
      clear hbad
      go_enter Tryd.func61, Tryd.ntmps61
      go_wp2_with fail
      refine (fail_in R w g l _ h0).mono ?_
      rintro e w1 ⟨rfl, hin, hk⟩
      go_wp2
      go_ret
      exact ⟨none, 0, rfl, OwnB.nil _, (fun r h => by cases h), hin, hk⟩
    · clear hbad
      go_enter Tryd.func61, Tryd.ntmps61
      go_wp2_with fail
      refine (fail_in R w g l _ h0).mono ?_
      rintro e w1 ⟨rfl, hin, hk⟩
      go_wp2
      go_ret
      exact ⟨none, 0, rfl, OwnB.nil _, (fun r h => by cases h), hin, hk⟩
  · have e : rawT n l bad = (l.take n, l.drop n, false) := by rw [rawT, if_neg hbad]
    rw [e]
    obtain rfl : bad = false := by cases bad <;> simp_all
    have hle : n ≤ l.length := Nat.le_of_not_lt fun h => hbad (.inr h)
    have q : decide (l.length < n) = false := by simp; omega
    have hlen : (l.take n).length = n := by simp; omega
    have HL := Lib.hid hlen
    clear hbad hlen
    go_enter Tryd.func61, Tryd.ntmps61
    go_wp2_with fail
    refine (clone_any _ _ _ _ (l.take n) HL.out (hr.take n) (by omega)).mono ?_
    rintro e w1 ⟨A1, c1, rfl, ho1, hf1, hb1⟩
    have hblk1 : Blk w1 g 94 #[.slice A l.length c, .bool false] := hblk.below hb1 hblk.lt
    have hc0' : w1.cell? ⟨g, 0, none⟩ = some (.slice A l.length c) := hblk1.cell 0
    have hf0' := hblk1.free 0
    have hr1 := hr.below hb1
    clear hc0 hc1
    go_wp2
    · have hck : c = n := by assumption
      go_ret
      subst hck
      refine ⟨A1, c1, congrArg (fun m => Ending.returned (.slice A1 m c1)) HL.out.symm, ?_, hf1, in_cut0 hg hblk1 hc hA hle, (Keep.fresh hb1).setCell (by simp) _⟩
      exact ho1.keep fun r hr => Below.heap_setCell _ _ _ _ (ho1.ne hblk1 (by decide) hr)
    · go_ret
      refine ⟨A1, c1, congrArg (fun m => Ending.returned (.slice A1 m c1)) HL.out.symm, ?_, hf1, in_cut hg hblk1 hr1 hc hA hle, (Keep.fresh hb1).setCell (by simp) _⟩
      exact ho1.keep fun r hr => Below.heap_setCell _ _ _ _ (ho1.ne hblk1 (by decide) hr)

set_option maxRecDepth 100000 in
set_option maxHeartbeats 400000 in
theorem over_in (R : Nat → Prop) (w : World) (g : Nat) (l : List UInt8) (bad : Bool) (h : InIs R w g l bad) :
    Calls Tryd.prog 33 #[.pointer (some ⟨g, 0, none⟩)] w fun e w' => e = .returned (.bool (!bad && l.isEmpty)) ∧ w = w' := by
  obtain ⟨hg, A, c, hblk, hr, hc, hA⟩ := h
  have hc0 : w.cell? ⟨g, 0, none⟩ = some (.slice A l.length c) := hblk.cell 0
  have hc1 : w.cell? ⟨g, 1, none⟩ = some (.bool bad) := hblk.cell 1
  cases bad
  · rcases l with _ | ⟨x, l⟩
    · go_enter Tryd.func33, Tryd.ntmps33
      go_wp2
      go_ret
      exact ⟨rfl, rfl⟩
    · have q : (((x :: l).length : Int) == 0) = false := by rw [beq_eq_false_iff_ne]; simp; omega
      go_enter Tryd.func33, Tryd.ntmps33
      go_wp2
      go_ret
      exact ⟨ret_bool (by rw [beq_eq_false_iff_ne.2 (by omega)]; rfl), rfl⟩
  · go_enter Tryd.func33, Tryd.ntmps33
    go_wp2
    go_ret
    exact ⟨rfl, rfl⟩

end Go.Proofs.YtdkadlifjmmcbaaDoor
