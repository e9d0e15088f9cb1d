/- The walks of pack.Read, slices.Clip and the reference's SameChange. -/
import Derived.Test.YtdkadlifjmmcbaaPi3
import Derived.Test.YtdkadlifjmmcbaaRf2
import Derived.Test.YtdkadlifjmmcbaaCh2
namespace Go.Proofs.Ytdkadlifjmmcbaa
open Go.RowKit

set_option maxRecDepth 100000 in
set_option maxHeartbeats 400000 in
theorem read_any (w : World) (A : Option Addr) (n c : Nat) (l : List UInt8) (hl : l.length = n) (hr : RB w A l) (hb : n ≤ 140737488355328) :
    Calls Try.prog 24 #[.slice A n c] w fun e w' => ∃ (g : Nat) (R : Nat → Prop), e = .returned (.pointer (some ⟨g, 0, none⟩)) ∧ InIs R w' g l false ∧
      (∀ i, R i → w.heap.size ≤ i ∧ i < w'.heap.size) ∧ Below w.heap.size w w' := by
  subst hl
  go_enter Try.func24, Try.ntmps24
  go_wp2_with fail
  refine (clone_any _ _ _ _ l rfl hr hb).mono ?_
  rintro e w1 ⟨A1, c1, rfl, own1, fr1, bel1⟩
  go_wp2
  go_ret
  refine ⟨w1.heap.size, fun i => i = w1.heap.size ∨ blkOf A1 = some i, rfl, ⟨.inl rfl, A1, c1, Blk.new _ _ _, own1.alloc _ |>.rb, own1.cap, fun r hr => ⟨.inr hr, ?_⟩⟩, ?_, bel1.alloc bel1.size _⟩
  · have := own1.lt hr
    omega
  · intro i hi
    rcases hi with rfl | hi
    · exact ⟨bel1.size, by simp⟩
    · exact ⟨fr1 i hi, by have := own1.lt hi; simp; omega⟩

set_option maxRecDepth 100000 in
set_option maxHeartbeats 400000 in
theorem clip_any (w : World) (A : Option Addr) (n c : Nat) (hn : n ≤ c) (_hc : c ≤ 9223372036854775807) :
    Calls Try.prog 28 #[.slice A n c] w fun e w' => e = .returned (.slice A n n) ∧ w = w' := by
  go_enter Try.func28, Try.ntmps28
  go_wp2
  go_ret
  exact ⟨rfl, rfl⟩

/-- are two changes the same? -/
def sameC (op1 : Int) (name1 : ByteArray) (l1 : List ByteArray) (val1 : ByteArray) (op2 : Int) (name2 : ByteArray) (l2 : List ByteArray) (val2 : ByteArray) : Bool :=
  l1.map sB == l2.map sB && op1 == op2 && sB name1 == sB name2 && sB val1 == sB val2

theorem sameC_refl (op : Int) (name : ByteArray) (l : List ByteArray) (val : ByteArray) : sameC op name l val op name l val = true := by simp [sameC]
theorem map_sB_inj {a b : List ByteArray} (h : a.map sB = b.map sB) : a = b := by
  induction a generalizing b with
  | nil => cases b <;> simp_all
  | cons x a ih =>
    cases b with
    | nil => simp at h
    | cons y b =>
      simp only [List.map_cons, List.cons.injEq] at h
      rw [sB_inj h.1, ih h.2]
theorem sameC_ne {op1 : Int} {name1 : ByteArray} {l1 : List ByteArray} {val1 : ByteArray} {op2 : Int} {name2 : ByteArray} {l2 : List ByteArray} {val2 : ByteArray} (h : l1 ≠ l2) :
    sameC op1 name1 l1 val1 op2 name2 l2 val2 = false := by
  have : (l1.map sB == l2.map sB) = false := by
    rw [beq_eq_false_iff_ne]
    exact fun e => h (map_sB_inj e)
  simp [sameC, this]
theorem sameC_eq {op1 : Int} {name1 : ByteArray} {l : List ByteArray} {val1 : ByteArray} {op2 : Int} {name2 : ByteArray} {val2 : ByteArray} :
    sameC op1 name1 l val1 op2 name2 l val2 = (op1 == op2 && sB name1 == sB name2 && sB val1 == sB val2) := by simp [sameC]

set_option maxRecDepth 100000 in
set_option maxHeartbeats 1000000 in
theorem same_any (op1 op2 : Int) (name1 val1 name2 val2 : ByteArray) (A1 A2 : Option Addr) (n1 n2 c1 c2 : Nat) (l1 l2 : List ByteArray) (w : World) (hl1 : l1.length = n1) (hl2 : l2.length = n2) (hr1 : RS w A1 l1) (hr2 : RS w A2 l2)
    (hb1 : n1 ≤ 140737488355328) :
    Calls Try.prog 12 #[.agg #[.int .i64 op1, .string name1, .slice A1 n1 c1, .string val1], .agg #[.int .i64 op2, .string name2, .slice A2 n2 c2, .string val2]] w fun e w' =>
      e = .returned (.bool (sameC op1 name1 l1 val1 op2 name2 l2 val2)) ∧ Below w.heap.size w w' := by
  have HL1 := Lib.hid hl1
  have HL2 := Lib.hid hl2
  have HR1 := Lib.hid hr1
  have HR2 := Lib.hid hr2
  clear hl1 hl2 hr1 hr2
  by_cases hne : n1 = n2
  · subst hne
    go_enter Try.func12, Try.ntmps12
    go_wp2
    go_loopw [5] (fun i wr => ∃ (k m : Nat), k ≤ n1 ∧ i = .int .i64 k ∧ l1.take k = l2.take k ∧
        wr = ((w.alloc (.cells #[.int .i64 op1, .string name1, .slice A1 n1 c1, .string val1] 24)).alloc (.cells #[.int .i64 op2, .string name2, .slice A2 n1 c2, .string val2] 24)).drewN m)
      (fun i _ => n1 - (intOf i).toNat)
    case atStart => exact ⟨0, 0, Nat.zero_le _, rfl, rfl, rfl⟩
    case round =>
      obtain ⟨k, m, hk, rfl, htk, rfl⟩ := hrel
      have HT := Lib.hid htk
      clear htk
      by_cases hlt : k < n1
      · have hlt1 : k < l1.length := by have := HL1.out; omega
        have hlt2 : k < l2.length := by have := HL2.out; omega
        obtain ⟨b, o, rfl, hcx⟩ := HR1.out k hlt1
        obtain ⟨b', o', rfl, hcy⟩ := HR2.out k hlt2
        have hbl := cell_lt hcx
        have hbl' := cell_lt hcy
        have hno : (l1[k].toList == l2[k].toList) = false → l1 ≠ l2 := by
          intro h e
          subst e
          simp at h
        have hyes : (l1[k].toList == l2[k].toList) = true → l1.take (k + 1) = l2.take (k + 1) := by
          intro h
          rw [List.take_succ_eq_append_getElem hlt1, List.take_succ_eq_append_getElem hlt2, HT.out]
          rw [beq_iff_eq, sB_toList, sB_toList] at h
          rw [sB_inj h]
        have HN := Lib.hid hno
        have HY := Lib.hid hyes
        clear hno hyes
        cases hq : (l1[k].toList == l2[k].toList)
        all_goals
          go_wp2_with fail
          go_quiet (fail)
          go_wp2
        · go_ret
          exact ⟨ret_bool (sameC_ne (HN.out hq)).symm, by (repeat (refine bel_drewN ?_ _)); go_grown⟩
        · go_roundw
          case rel => exact ⟨k + 1, _, by omega, by go_num, HY.out hq, rfl⟩
          case measure => simp [intOf]; omega
      · have e : l1 = l2 := by
          have h1 := HT.out
          rw [List.take_of_length_le (by have := HL1.out; omega), List.take_of_length_le (by have := HL2.out; omega)] at h1
          exact h1
        subst e
        go_wp2
        all_goals
          go_ret
          exact ⟨ret_bool (by rw [sameC_eq, ← sB_toList, ← sB_toList, ← sB_toList, ← sB_toList]; simp [*]), by (repeat (refine bel_drewN ?_ _)); go_grown⟩
  · have e : l1 ≠ l2 := by
      rintro rfl
      exact hne (HL1.out.symm.trans HL2.out)
    have HE := Lib.hid e
    have q : ((n1 : Int) == n2) = false := by rw [beq_eq_false_iff_ne]; omega
    clear e
    go_enter Try.func12, Try.ntmps12
    go_wp2
    go_ret
    exact ⟨ret_bool (sameC_ne HE.out).symm, by go_grown⟩

end Go.Proofs.Ytdkadlifjmmcbaa
