/- The walks of SHA-256's small functions: bits.RotateLeft32, the reference's turn. -/
import Derived.Test.YtdkadlifjmmcbaaDoorKaw
import Derived.Test.YtdkadlifjmmcbaaDoorSh0
namespace Go.Proofs.YtdkadlifjmmcbaaDoor
open Go.RowKit

theorem or_join32 {x k : Nat} (hx : x < 4294967296) (hk : k ≤ 32) : ((x * 2 ^ (32 - k)) % 4294967296) ||| (x / 2 ^ k) = x / 2 ^ k + x % 2 ^ k * 2 ^ (32 - k) := by
  have e : 2 ^ k * 2 ^ (32 - k) = 4294967296 := by rw [← Nat.pow_add, show k + (32 - k) = 32 from by omega]
  have h1 : (x * 2 ^ (32 - k)) % 4294967296 = x % 2 ^ k * 2 ^ (32 - k) := by rw [← e, Nat.mul_mod_mul_right]
  have hp : 0 < 2 ^ k := Nat.pow_pos (by omega)
  have h2 : x / 2 ^ k < 2 ^ (32 - k) := by
    rw [Nat.div_lt_iff_lt_mul hp, Nat.mul_comm, e]
    exact hx
  rw [h1, nat_join (32 - k) _ _ (Nat.mul_mod_left _ _) h2, Nat.add_comm]

set_option maxRecDepth 100000 in
set_option maxHeartbeats 1000000 in
theorem rot_any (x : UInt32) (k : Nat) (hk : k = 7 ∨ k = 18 ∨ k = 17 ∨ k = 19 ∨ k = 6 ∨ k = 11 ∨ k = 25 ∨ k = 2 ∨ k = 13 ∨ k = 22) (w : World) :
    Calls Tryd.prog 83 #[.int .u32 (x.toNat : Int), .int .i64 (-(k : Int))] w fun e w' => e = .returned (.int .u32 ((rot32 x k).toNat : Int)) ∧ w = w' := by
  have hx := UInt32.toNat_lt x
  have hr := rot_nat x (k := k) (by omega)
  have hj := or_join32 (k := k) hx (by omega)
  rw [← hr] at hj
  generalize (rot32 x k).toNat = r at *
  generalize x.toNat = n at *
  have HJ := Lib.hid hj
  clear hj hr
  rcases hk with rfl | rfl | rfl | rfl | rfl | rfl | rfl | rfl | rfl | rfl
  · have hc : bits .and .u64 (IntKind.u64.wrap (-7)) 31 = 25 := by decide
    have hv : bits .or .u32 ((n : Int) * 33554432 % 4294967296) ((n : Int) / 128) = (r : Int) := by
      have h := u32_or_nat (n * 33554432 % 4294967296) (n / 128) (by omega) (by omega)
      have e := HJ.out
      simp only [Nat.reducePow, Nat.reduceSub] at e
      rw [e] at h
      simpa using h
    go_enter Tryd.func83, Tryd.ntmps83
    go_wp2
    go_returns
    exact ⟨rfl, rfl⟩
  · have hc : bits .and .u64 (IntKind.u64.wrap (-18)) 31 = 14 := by decide
    have hv : bits .or .u32 ((n : Int) * 16384 % 4294967296) ((n : Int) / 262144) = (r : Int) := by
      have h := u32_or_nat (n * 16384 % 4294967296) (n / 262144) (by omega) (by omega)
      have e := HJ.out
      simp only [Nat.reducePow, Nat.reduceSub] at e
      rw [e] at h
      simpa using h
    go_enter Tryd.func83, Tryd.ntmps83
    go_wp2
    go_returns
    exact ⟨rfl, rfl⟩
  · have hc : bits .and .u64 (IntKind.u64.wrap (-17)) 31 = 15 := by decide
    have hv : bits .or .u32 ((n : Int) * 32768 % 4294967296) ((n : Int) / 131072) = (r : Int) := by
      have h := u32_or_nat (n * 32768 % 4294967296) (n / 131072) (by omega) (by omega)
      have e := HJ.out
      simp only [Nat.reducePow, Nat.reduceSub] at e
      rw [e] at h
      simpa using h
    go_enter Tryd.func83, Tryd.ntmps83
    go_wp2
    go_returns
    exact ⟨rfl, rfl⟩
  · have hc : bits .and .u64 (IntKind.u64.wrap (-19)) 31 = 13 := by decide
    have hv : bits .or .u32 ((n : Int) * 8192 % 4294967296) ((n : Int) / 524288) = (r : Int) := by
      have h := u32_or_nat (n * 8192 % 4294967296) (n / 524288) (by omega) (by omega)
      have e := HJ.out
      simp only [Nat.reducePow, Nat.reduceSub] at e
      rw [e] at h
      simpa using h
    go_enter Tryd.func83, Tryd.ntmps83
    go_wp2
    go_returns
    exact ⟨rfl, rfl⟩
  · have hc : bits .and .u64 (IntKind.u64.wrap (-6)) 31 = 26 := by decide
    have hv : bits .or .u32 ((n : Int) * 67108864 % 4294967296) ((n : Int) / 64) = (r : Int) := by
      have h := u32_or_nat (n * 67108864 % 4294967296) (n / 64) (by omega) (by omega)
      have e := HJ.out
      simp only [Nat.reducePow, Nat.reduceSub] at e
      rw [e] at h
      simpa using h
    go_enter Tryd.func83, Tryd.ntmps83
    go_wp2
    go_returns
    exact ⟨rfl, rfl⟩
  · have hc : bits .and .u64 (IntKind.u64.wrap (-11)) 31 = 21 := by decide
    have hv : bits .or .u32 ((n : Int) * 2097152 % 4294967296) ((n : Int) / 2048) = (r : Int) := by
      have h := u32_or_nat (n * 2097152 % 4294967296) (n / 2048) (by omega) (by omega)
      have e := HJ.out
      simp only [Nat.reducePow, Nat.reduceSub] at e
      rw [e] at h
      simpa using h
    go_enter Tryd.func83, Tryd.ntmps83
    go_wp2
    go_returns
    exact ⟨rfl, rfl⟩
  · have hc : bits .and .u64 (IntKind.u64.wrap (-25)) 31 = 7 := by decide
    have hv : bits .or .u32 ((n : Int) * 128 % 4294967296) ((n : Int) / 33554432) = (r : Int) := by
      have h := u32_or_nat (n * 128 % 4294967296) (n / 33554432) (by omega) (by omega)
      have e := HJ.out
      simp only [Nat.reducePow, Nat.reduceSub] at e
      rw [e] at h
      simpa using h
    go_enter Tryd.func83, Tryd.ntmps83
    go_wp2
    go_returns
    exact ⟨rfl, rfl⟩
  · have hc : bits .and .u64 (IntKind.u64.wrap (-2)) 31 = 30 := by decide
    have hv : bits .or .u32 ((n : Int) * 1073741824 % 4294967296) ((n : Int) / 4) = (r : Int) := by
      have h := u32_or_nat (n * 1073741824 % 4294967296) (n / 4) (by omega) (by omega)
      have e := HJ.out
      simp only [Nat.reducePow, Nat.reduceSub] at e
      rw [e] at h
      simpa using h
    go_enter Tryd.func83, Tryd.ntmps83
    go_wp2
    go_returns
    exact ⟨rfl, rfl⟩
  · have hc : bits .and .u64 (IntKind.u64.wrap (-13)) 31 = 19 := by decide
    have hv : bits .or .u32 ((n : Int) * 524288 % 4294967296) ((n : Int) / 8192) = (r : Int) := by
      have h := u32_or_nat (n * 524288 % 4294967296) (n / 8192) (by omega) (by omega)
      have e := HJ.out
      simp only [Nat.reducePow, Nat.reduceSub] at e
      rw [e] at h
      simpa using h
    go_enter Tryd.func83, Tryd.ntmps83
    go_wp2
    go_returns
    exact ⟨rfl, rfl⟩
  · have hc : bits .and .u64 (IntKind.u64.wrap (-22)) 31 = 10 := by decide
    have hv : bits .or .u32 ((n : Int) * 1024 % 4294967296) ((n : Int) / 4194304) = (r : Int) := by
      have h := u32_or_nat (n * 1024 % 4294967296) (n / 4194304) (by omega) (by omega)
      have e := HJ.out
      simp only [Nat.reducePow, Nat.reduceSub] at e
      rw [e] at h
      simpa using h
    go_enter Tryd.func83, Tryd.ntmps83
    go_wp2
    go_returns
    exact ⟨rfl, rfl⟩

set_option maxRecDepth 100000 in
set_option maxHeartbeats 1000000 in
theorem turn_any (x : UInt32) (k : Nat) (hk : k < 32) (w : World) :
    Calls Tryd.prog 49 #[.int .u32 (x.toNat : Int), .int .i64 (k : Int)] w fun e w' => e = .returned (.int .u32 ((rot32 x k).toNat : Int)) ∧ w = w' := by
  have hx := UInt32.toNat_lt x
  have hr := rot_nat x (k := k) (by omega)
  generalize (rot32 x k).toNat = r at *
  generalize x.toNat = n at *
  have HR := Lib.hid hr
  clear hr
  go_enter Tryd.func49, Tryd.ntmps49
  go_wp2_with fail
  go_loopw [0, 5] (fun v i wr => ∃ (j q : Nat), j ≤ k ∧ i = .int .i64 (j : Int) ∧ v = .int .u32 (q : Int) ∧ q = n / 2 ^ j + n % 2 ^ j * 2 ^ (32 - j) ∧ wr = w) (fun _ i _ => k - (intOf i).toNat)
  case atStart => exact ⟨0, n, by omega, rfl, rfl, by simp [Nat.mod_one], rfl⟩
  case round =>
    obtain ⟨j, q, hj, rfl, rfl, hq, rfl⟩ := hrel
    have hb : q < 4294967296 := by rw [hq]; exact rot_bound hx (by omega)
    have HQ := Lib.hid hq
    clear hq
    by_cases hlt : j < k
    · have hs := turn_step (x := n) (k := j) hx (by omega)
      rw [← HQ.out] at hs
      have HS := Lib.hid hs
      have hb2 : q / 2 + q % 2 * 2147483648 < 4294967296 := by omega
      clear hs
      go_wp2
      refine ⟨⟨j + 1, q / 2 + q % 2 * 2147483648, by omega, by go_num, ?_, HS.out, trivial⟩, by simp [intOf]; omega⟩
      simp
    · obtain rfl : j = k := by omega
      have e := HR.out
      rw [← HQ.out] at e
      go_wp2
      go_returns
      exact ⟨by rw [e]; rfl, rfl⟩

end Go.Proofs.YtdkadlifjmmcbaaDoor
