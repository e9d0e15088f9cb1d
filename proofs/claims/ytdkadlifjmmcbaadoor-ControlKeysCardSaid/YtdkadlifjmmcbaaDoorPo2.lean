/- The walks of layer 5's Out, the second part; bytes.Clone. -/
import Derived.Test.YtdkadlifjmmcbaaDoorPo
import Derived.WalkSpells
namespace Go.Proofs.YtdkadlifjmmcbaaDoor
open Go.RowKit

/-- new bytes of the call's own beside whatever else comes back -/
def RetB (l : List UInt8) (f : Value → Value) (w : World) (e : Ending) (w' : World) : Prop :=
  ∃ A c, e = .returned (f (.slice A l.length c)) ∧ OwnB w' A l.length c l ∧ (∀ r, blkOf A = some r → w.heap.size ≤ r) ∧ Below w.heap.size w w'

set_option maxRecDepth 100000 in
set_option maxHeartbeats 400000 in
theorem clone_any (w : World) (A : Option Addr) (n c : Nat) (l : List UInt8) (hl : l.length = n) (hr : RB w A l) (hb : n ≤ 140737488355328) :
    Calls Tryd.prog 58 #[.slice A n c] w (RetB l (fun v => v) w) := by
  have hn := fun (W : World) => Lib.run_eql_slice_nil (P := Tryd.prog) W 31 5 A n c 0 0 Tryd.underlying31
  cases A with
  | none =>
    have h0 : l = [] := by
      cases l with
      | nil => rfl
      | cons x l =>
        obtain ⟨b, o, e, _⟩ := hr 0 (by simp)
        cases e
    subst h0
    obtain rfl : n = 0 := hl.symm
    go_enter Tryd.func58, Tryd.ntmps58
    go_wp2
    go_ret
    exact ⟨none, 0, rfl, OwnB.nil w, (fun r h => by cases h), Below.refl _ _⟩
  | some ad =>
    have hown : OwnB (w.alloc (.cells #[] 5)) (some ⟨w.heap.size, 0, none⟩) 0 0 [] := ⟨rfl, World.ownsRow_made w #[] 0 (Nat.zero_le _) (by simp [maxLen]) (by simp)⟩
    have hr2 : RB (w.alloc (.cells #[] 5)) (some ad) l := hr.keep fun p hp => World.cell?_alloc_lt w _ p hp
    go_enter Tryd.func58, Tryd.ntmps58
    go_wp2_with (at_builtin; refine wpList_app rfl (.tmp 5) (.tmp 6) rfl _ _ 0 0 [] rfl hown (some ad) n c l rfl hl hr2 (by omega) ?_; intro A' c' w1 hown1 hg1 hb1)
    go_ret
    refine ⟨A', c', ?_, ?_, ?_, ?_⟩
    · rw [hl]
      rfl
    · rw [hl]
      simpa using hown1
    · intro r hr'
      rcases hb1 with e | e
      · rw [e] at hr'
        cases hr'
        exact Nat.le_refl _
      · rw [e] at hr'
        cases hr'
        simp
    · exact ((Below.refl _ _).alloc (Nat.le_refl _) _).grown hg1 (by simp) (fun k hk => by cases hk; exact Nat.le_refl _)

set_option maxRecDepth 100000 in
set_option maxHeartbeats 400000 in
theorem oraw_any (S : Nat → Prop) (w : World) (g : Nat) (acc : List UInt8) (long : Bool) (h : OutIs S w g acc long) (A2 : Option Addr) (m c2 : Nat) (l : List UInt8) (hl : l.length = m) (hr : RB w A2 l)
    (hb : acc.length + m ≤ 140737488355328) :
    Calls Tryd.prog 63 #[.pointer (some ⟨g, 0, none⟩), .slice A2 m c2] w (RetOut S w g (acc ++ l) long) := by
  go_enter Tryd.func63, Tryd.ntmps63
  go_wp2_with fail
  refine (put_any S _ g acc long h _ _ _ l hl hr hb).mono ?_
  rintro e w1 ⟨rfl, hout1, hk1⟩
  go_wp2
  go_end0
  exact ⟨rfl, hout1, hk1⟩

set_option maxRecDepth 100000 in
set_option maxHeartbeats 400000 in
theorem oflag_any (S : Nat → Prop) (w : World) (g : Nat) (acc : List UInt8) (long : Bool) (h : OutIs S w g acc long) (b : Bool) (hb : acc.length ≤ 70000000000000) :
    Calls Tryd.prog 65 #[.pointer (some ⟨g, 0, none⟩), .bool b] w (RetOut S w g (acc ++ [if b then 1 else 0]) long) := by
  cases b
  all_goals
    go_enter Tryd.func65, Tryd.ntmps65
    go_wp2_with fail
    first
    | refine (put_any S _ g acc long (h.alloc _) _ _ _ [1] rfl (RB.one rfl) (by simp; omega)).mono ?_
    | refine (put_any S _ g acc long (h.alloc _) _ _ _ [0] rfl (RB.one rfl) (by simp; omega)).mono ?_
    rintro e w1 ⟨rfl, hout1, hk1⟩
    have hk2 : Keep S w w1 := ((Keep.refl S w).alloc _).trans hk1
    go_wp2
    go_end0
    exact ⟨rfl, hout1, hk2⟩

/-- what Text makes of an Out -/
def textO (acc l : List UInt8) : List UInt8 := if 4096 < l.length then acc else acc ++ numB l.length ++ l

set_option maxRecDepth 100000 in
set_option maxHeartbeats 400000 in
theorem otext_any (S : Nat → Prop) (w : World) (g : Nat) (acc : List UInt8) (long : Bool) (h : OutIs S w g acc long) (A2 : Option Addr) (m c2 : Nat) (l : List UInt8) (hl : l.length = m) (hr : RB w A2 l) (hA : In_ S A2)
    (hb : acc.length ≤ 70000000000000) :
    Calls Tryd.prog 37 #[.pointer (some ⟨g, 0, none⟩), .slice A2 m c2] w (RetOut S w g (textO acc l) (long || decide (4096 < l.length))) := by
  subst hl
  by_cases hlt : 4096 < l.length
  · obtain ⟨hlt', hng, A, c, hblk, hown, hS⟩ := h
    have hc1 : w.cell? ⟨g, 1, none⟩ = some (.bool long) := hblk.cell 1
    have hf1 := hblk.free 1
    have hx : textO acc l = acc := by rw [textO, if_pos hlt]
    have hd : (long || decide (4096 < l.length)) = true := by simp [hlt]
    rw [hx, hd]
    go_enter Tryd.func37, Tryd.ntmps37
    go_wp2
    go_end0
    have hk : Keep S w (w.setCell ⟨g, 1, none⟩ (.bool true)) := (Keep.refl S w).setCell hng _
    refine ⟨rfl, ⟨fun i hi => Nat.lt_of_lt_of_le (hlt' i hi) hk.size, hng, A, c, hblk.set 1 _, ?_, hS⟩, hk⟩
    exact hown.keep fun r hr => Below.heap_setCell _ _ _ _ (hown.ne hblk (by decide) hr)
  · have hx : textO acc l = acc ++ numB l.length ++ l := by rw [textO, if_neg hlt]
    have hd : (long || decide (4096 < l.length)) = long := by simp [hlt]
    rw [hx, hd]
    go_enter Tryd.func37, Tryd.ntmps37
    go_wp2_with fail
    refine (onum_any S _ g acc long h _ (by omega) hb).mono ?_
    rintro e w1 ⟨rfl, hout1, hk1⟩
    go_wp2_with fail
    refine (oraw_any S _ g _ long hout1 _ _ _ l rfl (hk1.rb hr hA) (by have := numB_len64 (x := l.length) (by omega); simp; omega)).mono ?_
    rintro e w2 ⟨rfl, hout2, hk2⟩
    go_wp2
    go_end0
    exact ⟨rfl, hout2, hk1.trans hk2⟩

set_option maxRecDepth 100000 in
set_option maxHeartbeats 400000 in
theorem oend_any (S : Nat → Prop) (w : World) (g : Nat) (acc : List UInt8) (h : OutIs S w g acc false) (hl : acc.length ≤ 16384) :
    Calls Tryd.prog 38 #[.pointer (some ⟨g, 0, none⟩)] w (RetB acc (fun v => .tuple #[v, .int .i64 0]) w) := by
  obtain ⟨hlt', hng, A, c, hblk, hown, hS⟩ := h
  have hc0 : w.cell? ⟨g, 0, none⟩ = some (.slice A acc.length c) := hblk.cell 0
  have hc1 : w.cell? ⟨g, 1, none⟩ = some (.bool false) := hblk.cell 1
  go_enter Tryd.func38, Tryd.ntmps38
  go_wp2_with fail
  refine (clone_any _ _ _ _ acc rfl hown.rb (by omega)).mono ?_
  rintro e w1 ⟨A1, c1, rfl, ho1, hf1, hb1⟩
  go_wp2
  go_ret2
  exact ⟨A1, c1, rfl, ho1, hf1, hb1⟩

end Go.Proofs.YtdkadlifjmmcbaaDoor
