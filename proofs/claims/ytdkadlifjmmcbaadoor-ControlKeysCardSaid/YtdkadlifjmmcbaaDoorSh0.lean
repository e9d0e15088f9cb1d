/- SHA-256 in plain Lean: words, the schedule, the rounds, the padding. No program in sight. -/
import Derived.Laws.BitsAllLaws
import Derived.Test.YtdkadlifjmmcbaaDoorBase
namespace Go.Proofs.YtdkadlifjmmcbaaDoor
set_option linter.unusedVariables false

/-- a word turned right -/
def rot32 (x : UInt32) (k : Nat) : UInt32 := UInt32.ofNat (x.toNat / 2 ^ k + x.toNat % 2 ^ k * 2 ^ (32 - k))
theorem rot_bound {x k : Nat} (hx : x < 4294967296) (hk : k ≤ 32) : x / 2 ^ k + x % 2 ^ k * 2 ^ (32 - k) < 4294967296 := by
  have e : 2 ^ k * 2 ^ (32 - k) = 4294967296 := by rw [← Nat.pow_add, show k + (32 - k) = 32 from by omega]
  have hp : 0 < 2 ^ k := Nat.pow_pos (by omega)
  have h1 : x / 2 ^ k < 2 ^ (32 - k) := by
    rw [Nat.div_lt_iff_lt_mul hp, Nat.mul_comm, e]
    exact hx
  have h2 : x % 2 ^ k + 1 ≤ 2 ^ k := Nat.mod_lt _ hp
  have h3 : (x % 2 ^ k + 1) * 2 ^ (32 - k) ≤ 2 ^ k * 2 ^ (32 - k) := Nat.mul_le_mul_right _ h2
  rw [Nat.add_mul, e, Nat.one_mul] at h3
  omega
theorem rot_nat (x : UInt32) {k : Nat} (hk : k ≤ 32) : (rot32 x k).toNat = x.toNat / 2 ^ k + x.toNat % 2 ^ k * 2 ^ (32 - k) := by
  rw [rot32, UInt32.toNat_ofNat']
  exact Nat.mod_eq_of_lt (rot_bound (UInt32.toNat_lt x) hk)

/-- one place to the right, k times -/
theorem turn_step {x k : Nat} (hx : x < 4294967296) (hk : k < 32) :
    (x / 2 ^ k + x % 2 ^ k * 2 ^ (32 - k)) / 2 + (x / 2 ^ k + x % 2 ^ k * 2 ^ (32 - k)) % 2 * 2147483648 = x / 2 ^ (k + 1) + x % 2 ^ (k + 1) * 2 ^ (32 - (k + 1)) := by
  have e1 : 2 ^ (32 - k) = 2 * 2 ^ (32 - (k + 1)) := by rw [← Nat.pow_succ', show 32 - k = (32 - (k + 1)).succ from by omega]
  have e2 : 2 ^ k * 2 ^ (32 - (k + 1)) = 2147483648 := by rw [← Nat.pow_add, show k + (32 - (k + 1)) = 31 from by omega]
  have hp : 0 < 2 ^ k := Nat.pow_pos (by omega)
  have e3 : x / 2 ^ (k + 1) = x / 2 ^ k / 2 := by rw [Nat.pow_succ, Nat.div_div_eq_div_mul]
  have e4 : x % 2 ^ (k + 1) = x % 2 ^ k + 2 ^ k * (x / 2 ^ k % 2) := by rw [Nat.pow_succ, Nat.mod_mul]
  rw [e3, e4, Nat.add_mul, Nat.mul_right_comm, e2, e1]
  generalize x / 2 ^ k = q
  generalize x % 2 ^ k = r
  generalize 2 ^ (32 - (k + 1)) = s
  have e5 : r * (2 * s) = 2 * (r * s) := by rw [Nat.mul_left_comm]
  rw [e5]
  generalize r * s = t
  omega

/-- a word's value -/
def wv (x : UInt32) : Go.Value := .int .u32 (x.toNat : Int)

/-- what the schedule's words take -/
def sg0 (x : UInt32) : UInt32 := rot32 x 7 ^^^ rot32 x 18 ^^^ UInt32.ofNat (x.toNat / 8)
def sg1 (x : UInt32) : UInt32 := rot32 x 17 ^^^ rot32 x 19 ^^^ UInt32.ofNat (x.toNat / 1024)
/-- four bytes, the greatest first -/
def be32 (b : List UInt8) (i : Nat) : UInt32 := UInt32.ofNat ((((b.getD i 0).toNat * 256 + (b.getD (i + 1) 0).toNat) * 256 + (b.getD (i + 2) 0).toNat) * 256 + (b.getD (i + 3) 0).toNat)
/-- the first k words of a block's schedule -/
def sched (b : List UInt8) : Nat → List UInt32
  | 0 => []
  | k + 1 => sched b k ++ [if k < 16 then be32 b (4 * k) else (sched b k).getD (k - 16) 0 + sg0 ((sched b k).getD (k - 15) 0) + (sched b k).getD (k - 7) 0 + sg1 ((sched b k).getD (k - 2) 0)]
theorem sched_len (b : List UInt8) (k : Nat) : (sched b k).length = k := by
  induction k with
  | zero => rfl
  | succ k ih => simp [sched, ih]

/-- the eight words -/
structure St where
  a : UInt32
  b : UInt32
  c : UInt32
  d : UInt32
  e : UInt32
  f : UInt32
  g : UInt32
  h : UInt32
def St.start : St := ⟨1779033703, 3144134277, 1013904242, 2773480762, 1359893119, 2600822924, 528734635, 1541459225⟩
/-- one round -/
def St.step (v : St) (kk ww : UInt32) : St :=
  let t := v.h + (rot32 v.e 6 ^^^ rot32 v.e 11 ^^^ rot32 v.e 25) + ((v.e &&& v.f) ^^^ (~~~ v.e &&& v.g)) + kk + ww
  let u := (rot32 v.a 2 ^^^ rot32 v.a 13 ^^^ rot32 v.a 22) + ((v.a &&& v.b) ^^^ (v.a &&& v.c) ^^^ (v.b &&& v.c))
  ⟨t + u, v.a, v.b, v.c, v.d + t, v.e, v.f, v.g⟩
def St.add (x y : St) : St := ⟨x.a + y.a, x.b + y.b, x.c + y.c, x.d + y.d, x.e + y.e, x.f + y.f, x.g + y.g, x.h + y.h⟩
/-- SHA-256's words -/
def shaK : List UInt32 := [1116352408, 1899447441, 3049323471, 3921009573, 961987163, 1508970993, 2453635748, 2870763221, 3624381080, 310598401, 607225278, 1426881987, 1925078388, 2162078206, 2614888103, 3248222580, 3835390401, 4022224774, 264347078, 604807628, 770255983, 1249150122, 1555081692, 1996064986, 2554220882, 2821834349, 2952996808, 3210313671, 3336571891, 3584528711, 113926993, 338241895, 666307205, 773529912, 1294757372, 1396182291, 1695183700, 1986661051, 2177026350, 2456956037, 2730485921, 2820302411, 3259730800, 3345764771, 3516065817, 3600352804, 4094571909, 275423344, 430227734, 506948616, 659060556, 883997877, 958139571, 1322822218, 1537002063, 1747873779, 1955562222, 2024104815, 2227730452, 2361852424, 2428436474, 2756734187, 3204031479, 3329325298]
/-- k rounds over a schedule -/
def St.rounds (v : St) (w : List UInt32) : Nat → St
  | 0 => v
  | k + 1 => (St.rounds v w k).step (shaK.getD k 0) (w.getD k 0)
/-- a block is taken in -/
def St.mix (v : St) (block : List UInt8) : St := v.add (v.rounds (sched block 64) 64)
/-- n blocks are taken in, one behind the other -/
def St.blocks (v : St) (m : List UInt8) : Nat → St
  | 0 => v
  | k + 1 => (St.blocks v m k).mix ((m.drop (64 * k)).take 64)
def St.list (v : St) : List UInt32 := [v.a, v.b, v.c, v.d, v.e, v.f, v.g, v.h]

/-- a number's eight bytes, the greatest first -/
def be64 (n : Nat) : List UInt8 := [UInt8.ofNat (n / 72057594037927936), UInt8.ofNat (n / 281474976710656), UInt8.ofNat (n / 1099511627776), UInt8.ofNat (n / 4294967296), UInt8.ofNat (n / 16777216), UInt8.ofNat (n / 65536), UInt8.ofNat (n / 256), UInt8.ofNat n]
/-- how many noughts stand behind a text's bit -/
def padZ (n : Nat) : Nat := (119 - n % 64) % 64
/-- a text with what stands behind it -/
def padM (b : List UInt8) : List UInt8 := b ++ [128] ++ List.replicate (padZ b.length) 0 ++ be64 (8 * b.length)
theorem padZ_mod (n : Nat) : (n + 1 + padZ n) % 64 = 56 := by unfold padZ; omega
theorem padZ_least (n k : Nat) (h : k < padZ n) : (n + 1 + k) % 64 ≠ 56 := by unfold padZ at h; omega
theorem padM_len (b : List UInt8) : (padM b).length = b.length + 1 + padZ b.length + 8 := by simp [padM, be64]; omega
theorem padM_64 (b : List UInt8) : (padM b).length % 64 = 0 := by rw [padM_len]; have := padZ_mod b.length; omega
/-- four bytes of a word -/
def bytes4 (x : UInt32) : List UInt8 := [UInt8.ofNat (x.toNat / 16777216), UInt8.ofNat (x.toNat / 65536), UInt8.ofNat (x.toNat / 256), UInt8.ofNat x.toNat]
/-- SHA-256 -/
def shaB (b : List UInt8) : List UInt8 := ((St.start.blocks (padM b) ((padM b).length / 64)).list.map bytes4).flatten
theorem shaB_len (b : List UInt8) : (shaB b).length = 32 := by simp [shaB, St.list, bytes4]

end Go.Proofs.YtdkadlifjmmcbaaDoor
