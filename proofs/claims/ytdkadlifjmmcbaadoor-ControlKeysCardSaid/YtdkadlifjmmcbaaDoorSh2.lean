/- Words as the walk's numbers; the walk of hash.big. -/
import Derived.Test.YtdkadlifjmmcbaaDoorSh1
namespace Go.Proofs.YtdkadlifjmmcbaaDoor
open Go.RowKit

/-- a word's number: a name that the walk does not look into -/
def wN (x : UInt32) : Nat := x.toNat
theorem wN_lt (x : UInt32) : wN x < 4294967296 := UInt32.toNat_lt x
theorem r_xor (x y : UInt32) : bits .xor .u32 (wN x : Int) (wN y : Int) = (wN (x ^^^ y) : Int) := by
  rw [u32_xor_nat _ _ (wN_lt x) (wN_lt y)]; unfold wN; rw [UInt32.toNat_xor]
theorem r_and (x y : UInt32) : bits .and .u32 (wN x : Int) (wN y : Int) = (wN (x &&& y) : Int) := by
  rw [u32_and_nat _ _ (wN_lt x) (wN_lt y)]; unfold wN; rw [UInt32.toNat_and]
theorem r_add (x y : UInt32) : ((wN x : Int) + (wN y : Int)) % 4294967296 = (wN (x + y) : Int) := by
  unfold wN; rw [UInt32.toNat_add]; simp
theorem r_not (x : UInt32) : bits .xor .u32 (if IntKind.u32.signed = true then -1 else IntKind.u32.max) (wN x : Int) = (wN (~~~x) : Int) := by
  have e0 : (if IntKind.u32.signed = true then -1 else IntKind.u32.max) = ((4294967295 : Nat) : Int) := by decide
  have h := u32_xor_nat 4294967295 (wN x) (by omega) (wN_lt x)
  have e : 4294967295 ^^^ wN x = wN (~~~x) := by
    have h2 : (4294967295#32 ^^^ x.toBitVec) = ~~~x.toBitVec := BitVec.allOnes_xor
    have h3 := congrArg BitVec.toNat h2
    rw [BitVec.toNat_xor] at h3
    exact h3
  rw [e0, h, e]
theorem r_addw (x y : UInt32) : IntKind.u32.wrap ((wN x : Int) + (wN y : Int)) = (wN (x + y) : Int) := by
  rw [IntKind.wrap_u32', r_add]
theorem r_sh (x : UInt32) (d : Nat) : ((wN x : Int) / (d : Int)) = (wN (UInt32.ofNat (x.toNat / d)) : Int) := by
  have h : x.toNat / d < 4294967296 := Nat.lt_of_le_of_lt (Nat.div_le_self _ _) (UInt32.toNat_lt x)
  unfold wN; rw [UInt32.toNat_ofNat', Nat.mod_eq_of_lt h]; simp
theorem r_sh8 (x : UInt32) : ((wN x : Int) / 8) = (wN (UInt32.ofNat (x.toNat / 8)) : Int) := r_sh x 8
theorem r_sh1024 (x : UInt32) : ((wN x : Int) / 1024) = (wN (UInt32.ofNat (x.toNat / 1024)) : Int) := r_sh x 1024

theorem rot_c (x : UInt32) (k : Nat) (z : Int) (hz : z = -(k : Int)) (hk : k = 7 ∨ k = 18 ∨ k = 17 ∨ k = 19 ∨ k = 6 ∨ k = 11 ∨ k = 25 ∨ k = 2 ∨ k = 13 ∨ k = 22) (w : World) :
    Calls Tryd.prog 83 #[.int .u32 (wN x : Int), .int .i64 z] w fun e w' => e = .returned (.int .u32 (wN (rot32 x k) : Int)) ∧ w = w' := by
  subst hz
  exact rot_any x k hk w
theorem turn_c (x : UInt32) (k : Nat) (z : Int) (hz : z = (k : Int)) (hk : k < 32) (w : World) :
    Calls Tryd.prog 49 #[.int .u32 (wN x : Int), .int .i64 z] w fun e w' => e = .returned (.int .u32 (wN (rot32 x k) : Int)) ∧ w = w' := by
  subst hz
  exact turn_any x k hk w

/-- some bytes as a number, the greatest first -/
def beN (l : List UInt8) : Nat := l.foldl (fun n c => n * 256 + c.toNat) 0
theorem beN_take (l : List UInt8) (j : Nat) (h : j < l.length) : beN (l.take (j + 1)) = beN (l.take j) * 256 + l[j].toNat := by
  unfold beN
  rw [List.take_succ_eq_append_getElem h, List.foldl_append]
  rfl
theorem beN_be32 (b : List UInt8) (i : Nat) (h : i + 4 ≤ b.length) : beN ((b.drop i).take 4) = wN (be32 b i) := by
  have e : (b.drop i).take 4 = [b.getD i 0, b.getD (i + 1) 0, b.getD (i + 2) 0, b.getD (i + 3) 0] := by
    refine List.ext_getElem (by simp; omega) fun j h1 h2 => ?_
    simp only [List.length_take, List.length_drop] at h1
    match j with
    | 0 => simp; rw [List.getElem?_eq_getElem (by omega)]; rfl
    | 1 => simp; rw [List.getElem?_eq_getElem (by omega)]; rfl
    | 2 => simp; rw [List.getElem?_eq_getElem (by omega)]; rfl
    | 3 => simp; rw [List.getElem?_eq_getElem (by omega)]; rfl
    | j + 4 => omega
  have h0 := UInt8.toNat_lt (b.getD i 0)
  have h1 := UInt8.toNat_lt (b.getD (i + 1) 0)
  have h2 := UInt8.toNat_lt (b.getD (i + 2) 0)
  have h3 := UInt8.toNat_lt (b.getD (i + 3) 0)
  rw [e]
  unfold wN be32 beN
  rw [UInt32.toNat_ofNat', Nat.mod_eq_of_lt (by omega)]
  simp

set_option maxRecDepth 100000 in
set_option maxHeartbeats 1000000 in
theorem big4_any (A : Option Addr) (c : Nat) (l : List UInt8) (w : World) (hl : l.length = 4) (hr : RB w A l) :
    Calls Tryd.prog 85 #[.slice A 4 c] w fun e w' => e = .returned (.int .u64 (beN l : Int)) ∧ w = w' := by
  have HL := Lib.hid hl
  have HR := Lib.hid hr
  clear hl hr
  go_enter Tryd.func85, Tryd.ntmps85
  go_wp2_with fail
  go_loopw [3, 8] (fun v i wr => ∃ (j q : Nat), j ≤ 4 ∧ i = .int .i64 (j : Int) ∧ v = .int .u64 (q : Int) ∧ q = beN (l.take j) ∧ q < 256 ^ j ∧ wr = w) (fun _ i _ => 4 - (intOf i).toNat)
  case atStart => exact ⟨0, 0, by omega, rfl, rfl, rfl, by decide, rfl⟩
  case round =>
    obtain ⟨j, q, hj, rfl, rfl, hq, hb, rfl⟩ := hrel
    have HQ := Lib.hid hq
    clear hq
    by_cases hlt : j < 4
    · have hln : j < l.length := by rw [HL.out]; exact hlt
      obtain ⟨b, o, rfl, hcx⟩ := HR.out j hln
      have hbl := cell_lt hcx
      have ht := beN_take l j hln
      have hx := UInt8.toNat_lt l[j]
      rw [← HQ.out] at ht
      have hq3 : q < 16777216 := by
        have : 256 ^ j ≤ 256 ^ 3 := Nat.pow_le_pow_right (by omega) (by omega)
        omega
      have hnb : q * 256 + l[j].toNat < 256 ^ (j + 1) := by rw [Nat.pow_succ]; omega
      generalize l[j].toNat = x at *
      have hor : bits .or .u64 ((q : Int) * 256) (x : Int) = ((q * 256 + x : Nat) : Int) := by
        have h := u64_or_nat (q * 256) x (by omega) (by omega)
        rw [nat_join 8 _ _ (by omega) (by omega)] at h
        simpa using h
      have HT := Lib.hid ht
      have HB := Lib.hid hnb
      clear ht hnb hb
      go_wp2
      refine ⟨⟨j + 1, q * 256 + x, by omega, by go_num, ?_, HT.out.symm, HB.out, trivial⟩, by simp [intOf]; omega⟩
      simp
    · obtain rfl : j = 4 := by omega
      have e := HQ.out
      rw [List.take_of_length_le (by rw [HL.out]; omega)] at e
      go_wp2
      go_returns
      exact ⟨by rw [← e]; rfl, rfl⟩

end Go.Proofs.YtdkadlifjmmcbaaDoor
