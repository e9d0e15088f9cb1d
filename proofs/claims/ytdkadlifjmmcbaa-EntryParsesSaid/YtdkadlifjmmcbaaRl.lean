/- The walks of the reference's Less and Sorted: they answer what the comparison of bytes says. -/
import Derived.Test.YtdkadlifjmmcbaaSo3
namespace Go.Proofs.Ytdkadlifjmmcbaa
open Go.RowKit

theorem cmp_first : ∀ (k : Nat) (a b : List UInt8), a.take k = b.take k → ∀ (h1 : k < a.length) (h2 : k < b.length), a[k].toNat ≠ b[k].toNat → (Lib.compareBytes a b < 0 ↔ a[k].toNat < b[k].toNat)
  | 0, x :: a, y :: b, _, _, _, hne => by
    simp only [List.getElem_cons_zero, Lib.compareBytes, ne_eq] at hne ⊢
    by_cases h1 : x < y
    · have h : x.toNat < y.toNat := h1
      rw [if_pos h1]
      exact ⟨fun _ => h, fun _ => by decide⟩
    · have h : ¬ x.toNat < y.toNat := h1
      have h2 : y < x := by
        show y.toNat < x.toNat
        omega
      rw [if_neg h1, if_pos h2]
      exact ⟨fun e => by omega, fun e => absurd e h⟩
  | k + 1, x :: a, y :: b, ht, h1, h2, hne => by
    simp only [List.take_succ_cons, List.cons.injEq] at ht
    obtain ⟨rfl, ht⟩ := ht
    have hx : ¬ x < x := fun e => Nat.lt_irrefl x.toNat e
    simp only [List.getElem_cons_succ, Lib.compareBytes, if_neg hx] at hne ⊢
    exact cmp_first k a b ht (by simpa using h1) (by simpa using h2) hne
  | 0, [], _, _, h1, _, _ => by simp at h1
  | 0, _ :: _, [], _, _, h2, _ => by simp at h2
  | _ + 1, [], _, _, h1, _, _ => by simp at h1
  | _ + 1, _ :: _, [], _, _, h2, _ => by simp at h2
theorem cmp_self : ∀ a : List UInt8, Lib.compareBytes a a = 0
  | [] => rfl
  | x :: a => by
    have hx : ¬ x < x := fun e => Nat.lt_irrefl x.toNat e
    simp only [Lib.compareBytes, if_neg hx]
    exact cmp_self a

set_option maxRecDepth 100000 in
set_option maxHeartbeats 1000000 in
theorem less_any (w : World) (a b : List UInt8) (ha : a.length = 16) (hb : b.length = 16) :
    Calls Try.prog 50 #[.agg (bytesL a).toArray, .agg (bytesL b).toArray] w fun e w' => e = .returned (.bool (decide (Lib.compareBytes a b < 0))) ∧ Below w.heap.size w w' := by
  have HA := Lib.hid ha
  have HB := Lib.hid hb
  clear ha hb
  have hba := (Blk.new w 40 (bytesL a).toArray).alloc (.cells (bytesL b).toArray 40)
  have hbb := Blk.new (w.alloc (.cells (bytesL a).toArray 40)) 40 (bytesL b).toArray
  have HBA := Lib.hid hba
  have HBB := Lib.hid hbb
  clear hba hbb
  go_enter Try.func50, Try.ntmps50
  go_wp2
  go_loopw [5] (fun i wr => ∃ k m : Nat, k ≤ 16 ∧ i = .int .i64 (k : Int) ∧ a.take k = b.take k ∧ wr = ((w.alloc (.cells (bytesL a).toArray 40)).alloc (.cells (bytesL b).toArray 40)).drewN m) (fun i _ => 16 - (intOf i).toNat)
  case atStart => exact ⟨0, 0, by omega, rfl, rfl, rfl⟩
  case round =>
    obtain ⟨k, m, hk, rfl, hT, rfl⟩ := hrel
    have HT := Lib.hid hT
    clear hT
    by_cases hlt : k < 16
    · have hka : k < a.length := by rw [HA.out]; exact hlt
      have hkb : k < b.length := by rw [HB.out]; exact hlt
      have c0 := HBA.out.cell k
      have c1 := HBB.out.cell k
      rw [World.size_alloc] at c1
      have e0 : (bytesL a).toArray[k]? = some (.int .u8 (a[k].toNat : Int)) := by rw [List.getElem?_toArray]; exact bytesL_get a k hka
      have e1 : (bytesL b).toArray[k]? = some (.int .u8 (b[k].toNat : Int)) := by rw [List.getElem?_toArray]; exact bytesL_get b k hkb
      rw [e0] at c0
      rw [e1] at c1
      have hne : a[k].toNat ≠ b[k].toNat → (Lib.compareBytes a b < 0 ↔ a[k].toNat < b[k].toNat) := cmp_first k a b HT.out hka hkb
      have heq : a[k].toNat = b[k].toNat → a.take (k + 1) = b.take (k + 1) := by
        intro e
        rw [List.take_succ_eq_append_getElem hka, List.take_succ_eq_append_getElem hkb, HT.out, UInt8.toNat_inj.1 e]
      have hx := UInt8.toNat_lt a[k]
      have hy := UInt8.toNat_lt b[k]
      generalize a[k].toNat = x at *
      generalize b[k].toNat = y at *
      have HNE := Lib.hid hne
      have HEQ := Lib.hid heq
      have hrl : ∀ i W, Below w.heap.size w ((((w.alloc (.cells (bytesL a).toArray 40)).alloc (.cells (bytesL b).toArray 40)).drewN i)) := fun i _ => by
        refine bel_drewN ?_ _
        go_grown
      have HRL := Lib.hid hrl
      clear hne heq e0 e1 hrl
      by_cases he : x = y
      · have HE2 := Lib.hid (HEQ.out he)
        clear HEQ HNE
        subst he
        go_wp2_with fail
        go_quiet (fail)
        go_wp2
        exact ⟨⟨k + 1, _, by omega, by go_num, HE2.out, rfl⟩, by simp [intOf]; omega⟩
      · have hif := HNE.out he
        have t0 : ((x : Int) == (y : Int)) = false := by simp; omega
        by_cases hl : x < y
        · have t1 : decide ((x : Int) < (y : Int)) = true := decide_eq_true (by omega)
          go_wp2_with fail
          go_quiet (fail)
          go_wp2_with fail
          go_quiet (fail)
          go_wp2
          go_returns
          exact ⟨ret_bool (decide_eq_true (hif.2 hl)).symm, by (repeat (refine bel_drewN ?_ _)); go_grown⟩
        · have t1 : decide ((x : Int) < (y : Int)) = false := decide_eq_false (by omega)
          go_wp2_with fail
          go_quiet (fail)
          go_wp2_with fail
          go_quiet (fail)
          go_wp2
          go_returns
          exact ⟨ret_bool (decide_eq_false (fun e => hl (hif.1 e))).symm, by (repeat (refine bel_drewN ?_ _)); go_grown⟩
    · obtain rfl : k = 16 := by omega
      have he : a = b := by
        have h := HT.out
        rwa [List.take_of_length_le (by rw [HA.out]; omega), List.take_of_length_le (by rw [HB.out]; omega)] at h
      have hcs : decide (Lib.compareBytes a b < 0) = false := by
        rw [he, cmp_self]
        rfl
      go_wp2
      go_returns
      exact ⟨ret_bool hcs.symm, by (repeat (refine bel_drewN ?_ _)); go_grown⟩

end Go.Proofs.Ytdkadlifjmmcbaa
