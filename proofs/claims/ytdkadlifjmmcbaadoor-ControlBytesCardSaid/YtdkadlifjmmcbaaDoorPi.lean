/- The walks of layer 5's In. -/
import Derived.Test.YtdkadlifjmmcbaaDoorPo2
namespace Go.Proofs.YtdkadlifjmmcbaaDoor
open Go.RowKit

/-- an In at block g: what is left of its bytes, whether something was wrong; R: the blocks that it lives in -/
structure InIs (R : Nat → Prop) (w : World) (g : Nat) (l : List UInt8) (bad : Bool) : Prop where
  rg : R g
  ex : ∃ A c, Blk w g 94 #[.slice A l.length c, .bool bad] ∧ RB w A l ∧ l.length ≤ c ∧ ∀ r, blkOf A = some r → R r ∧ r ≠ g

theorem InIs.keep {R : Nat → Prop} {w w' : World} {g : Nat} {l : List UInt8} {bad : Bool} (h : InIs R w g l bad) (hk : Keep R w w') : InIs R w' g l bad := by
  obtain ⟨hg, A, c, hb, hr, hc, hA⟩ := h
  exact ⟨hg, A, c, hk.blk hb hg, hk.rb hr (fun r h => (hA r h).1), hc, hA⟩

theorem and127 (n : Int) : bits .and .u8 n 127 = n % 128 := by
  show IntKind.u8.wrap ((BitVec.ofInt 8 n &&& BitVec.ofInt 8 127).toNat : Int) = _
  rw [BitVec.toNat_and, BitVec.toNat_ofInt, BitVec.toNat_ofInt, show ((127 : Int) % ((2 ^ 8 : Nat) : Int)).toNat = 2 ^ 7 - 1 from rfl, Nat.and_two_pow_sub_one_eq_mod, IntKind.wrap_u8]
  omega
attribute [local go_sem] and127

theorem num_lim (acc c k : Nat) (ha : acc < 2 ^ (7 * k)) (hk : k ≤ 9) (h9 : k = 9 → c ≤ 1) : acc + 2 ^ (7 * k) * (c % 128) < 2 ^ 64 := by
  rcases Nat.lt_or_ge k 9 with h | h
  · have := acc_next (c := c) ha
    exact Nat.lt_of_lt_of_le this (Nat.pow_le_pow_right (by omega) (by omega))
  · obtain rfl : k = 9 := by omega
    have hc := h9 rfl
    have e : c % 128 = c := by omega
    have : 2 ^ (7 * 9) * c ≤ 2 ^ (7 * 9) * 1 := Nat.mul_le_mul_left _ hc
    rw [e]
    omega

theorem wrap_num (acc c k : Nat) (ha : acc < 2 ^ (7 * k)) (hk : k ≤ 9) (h9 : k = 9 → c ≤ 1) : IntKind.u64.wrap ((c : Int) % 128 * 2 ^ (7 * k)) = ((2 ^ (7 * k) * (c % 128) : Nat) : Int) := by
  have hlim := num_lim acc c k ha hk h9
  have e2 : (c : Int) % 128 * 2 ^ (7 * k) = ((2 ^ (7 * k) * (c % 128) : Nat) : Int) := by
    rw [Int.natCast_mul, Int.natCast_pow, Int.mul_comm]
    rfl
  rw [e2, IntWalk.u64_in _ (by omega)]

theorem nine_num (c k : Nat) (hk : k = 9) : (c : Int) % 128 * 9223372036854775808 = ((2 ^ (7 * k) * (c % 128) : Nat) : Int) := by
  subst hk
  rw [show 2 ^ (7 * 9) = 9223372036854775808 from rfl]
  omega

theorem zero_num (c k : Nat) (hc : c = 0) : IntKind.u64.wrap 0 = ((2 ^ (7 * k) * (c % 128) : Nat) : Int) := by
  subst hc
  simp
  rfl

theorem or_num (acc c k : Nat) (T : Int) (ha : acc < 2 ^ (7 * k)) (hk : k ≤ 9) (h9 : k = 9 → c ≤ 1) (hT : T = ((2 ^ (7 * k) * (c % 128) : Nat) : Int)) :
    bits .or .u64 (acc : Int) T = ((acc + 2 ^ (7 * k) * (c % 128) : Nat) : Int) := by
  have hlim := num_lim acc c k ha hk h9
  subst hT
  rw [u64_or_nat _ _ (by omega) (by omega)]
  congr 1
  rw [Nat.or_comm, Nat.add_comm]
  exact (Nat.two_pow_add_eq_or_of_lt ha _).symm

theorem ret_ui {a b c d : Int} (h : a = b) (h2 : c = d) : Ending.returned (.tuple #[.int .u64 a, .int .i64 c]) = .returned (.tuple #[.int .u64 b, .int .i64 d]) := by rw [h, h2]

set_option maxRecDepth 100000 in
set_option maxHeartbeats 1000000 in
theorem number_in (R : Nat → Prop) (w : World) (g : Nat) (l : List UInt8) (bad : Bool) (h : InIs R w g l bad) (_hb : l.length ≤ 140737488355328) :
    Calls Tryd.prog 59 #[.pointer (some ⟨g, 0, none⟩)] w fun e w' => e = .returned (.tuple #[.int .u64 (numR l).1, .int .i64 (numR l).2]) ∧ w = w' := by
  obtain ⟨hg, A, c, hblk, hr, hc, hA⟩ := h
  have hc0 : w.cell? ⟨g, 0, none⟩ = some (.slice A l.length c) := hblk.cell 0
  go_enter Tryd.func59, Tryd.ntmps59
  go_wp2
  go_loop [4, 12] (fun v i => ∃ (k acc : Nat), k ≤ l.length ∧ k ≤ 10 ∧ acc < 2 ^ (7 * k) ∧ i = .int .i64 k ∧ v = .int .u64 acc ∧ takeN 0 0 l = takeN k acc (l.drop k)) (fun _ i => l.length - (intOf i).toNat)
  case atStart => exact ⟨0, 0, Nat.zero_le _, by omega, by simp, rfl, rfl, rfl⟩
  case round =>
    obtain ⟨k, acc, hk, hk10, hacc, rfl, rfl, ht⟩ := hrel
    have HT := Lib.hid ht
    have HA := Lib.hid hacc
    clear ht hacc
    by_cases hlt : k < l.length
    · obtain ⟨b, o, rfl, hcx⟩ := hr k hlt
      have hx := (l[k]).toNat_lt
      have hd : l.drop k = l[k] :: l.drop (k + 1) := List.drop_eq_getElem_cons hlt
      have HD := Lib.hid hd
      clear hr hd
      by_cases h1 : (k = 9 ∧ 1 < l[k].toNat) ∨ 9 < k
      · go_wp2
        all_goals
          go_ret2
          exact ⟨by rw [numR, HT.out, HD.out, takeN_no h1]; rfl, rfl⟩
      · by_cases h2 : l[k].toNat < 128
        · by_cases h3 : l[k].toNat = 0 ∧ 0 < k
          · go_wp2
            all_goals
              go_ret2
              exact ⟨by rw [numR, HT.out, HD.out, takeN_zero h1 h3.1 h3.2]; rfl, rfl⟩
          · go_wp2
            all_goals
              go_ret2
              have e0 : numR l = (acc + 2 ^ (7 * k) * (l[k].toNat % 128), k + 1) := by rw [numR, HT.out, HD.out, takeN_end h1 h2 h3]; rfl
              rw [e0]
              refine ⟨ret_ui (or_num _ _ _ _ HA.out (by omega) (by omega) ?_) (by show _ = ((k + 1 : Nat) : Int); omega), rfl⟩
              first
              | exact wrap_num acc _ _ HA.out (by omega) (by omega)
              | exact nine_num _ _ (by omega)
              | exact zero_num _ _ (by omega)
        · go_wp2
          all_goals
            go_round
            case rel =>
              refine ⟨k + 1, acc + 2 ^ (7 * k) * (l[k].toNat % 128), by omega, by omega, acc_next HA.out, by go_num, ?_, ?_⟩
              · refine congrArg (Value.int IntKind.u64) (or_num _ _ _ _ HA.out (by omega) (by omega) ?_)
                first
                | exact wrap_num acc _ _ HA.out (by omega) (by omega)
                | exact nine_num _ _ (by omega)
                | exact zero_num _ _ (by omega)
              · rw [HT.out, HD.out, takeN_more h1 h2]
            case measure => simp [intOf]; omega
    · go_wp2
      go_ret2
      have ht := HT.out
      rw [List.drop_of_length_le (by omega), takeN_nil] at ht
      exact ⟨by rw [numR, ht]; rfl, rfl⟩

end Go.Proofs.YtdkadlifjmmcbaaDoor
