/- Plain mathematics for layer 3: bytes as numbers, Poly1305 over numbers. No program in sight. -/
import Derived.Below
namespace Go.Proofs.YtdkadlifjmmcbaaDoor

/-- the number of some bytes, the least first -/
def leN : List UInt8 → Nat
  | [] => 0
  | b :: l => b.toNat + 256 * leN l

theorem leN_lt (l : List UInt8) : leN l < 2 ^ (8 * l.length) := by
  induction l with
  | nil => simp [leN]
  | cons b l ih =>
    have hb := b.toNat_lt
    have e : 2 ^ (8 * (b :: l).length) = 256 * 2 ^ (8 * l.length) := by
      rw [List.length_cons, Nat.mul_add, Nat.pow_add, Nat.mul_comm]
    rw [e, leN]
    omega

theorem leN_append (a b : List UInt8) : leN (a ++ b) = leN a + 2 ^ (8 * a.length) * leN b := by
  induction a with
  | nil => simp [leN]
  | cons x a ih =>
    have e : 2 ^ (8 * (x :: a).length) = 256 * 2 ^ (8 * a.length) := by
      rw [List.length_cons, Nat.mul_add, Nat.pow_add, Nat.mul_comm]
    rw [List.cons_append, leN, leN, ih, e, Nat.mul_add, Nat.mul_assoc]
    omega

theorem leN_take_succ (l : List UInt8) (k : Nat) (h : k < l.length) : leN (l.take (k + 1)) = leN (l.take k) + 2 ^ (8 * k) * l[k].toNat := by
  rw [List.take_succ_eq_append_getElem h, leN_append, List.length_take, Nat.min_eq_left (by omega)]
  simp [leN]

/-- n bytes of a number, the least first -/
def leB : Nat → Nat → List UInt8
  | 0, _ => []
  | n + 1, x => UInt8.ofNat x :: leB n (x / 256)

theorem leB_length (n x : Nat) : (leB n x).length = n := by
  induction n generalizing x with
  | zero => rfl
  | succ n ih => simp [leB, ih]

theorem leN_leB (n x : Nat) : leN (leB n x) = x % 2 ^ (8 * n) := by
  induction n generalizing x with
  | zero => simp [leB, leN, Nat.mod_one]
  | succ n ih =>
    have e : 2 ^ (8 * (n + 1)) = 256 * 2 ^ (8 * n) := by
      rw [Nat.mul_add, Nat.pow_add, Nat.mul_comm]
    rw [leB, leN, ih, e, Nat.mod_mul, UInt8.toNat_ofNat']

theorem leB_leN (l : List UInt8) : leB l.length (leN l) = l := by
  induction l with
  | nil => rfl
  | cons b l ih =>
    have hb := b.toNat_lt
    have h1 : (b.toNat + 256 * leN l) / 256 = leN l := by omega
    rw [List.length_cons, leB, leN, h1, ih]
    congr 1
    apply UInt8.toNat_inj.1
    rw [UInt8.toNat_ofNat']
    omega

theorem leN_inj {a b : List UInt8} (hl : a.length = b.length) (h : leN a = leN b) : a = b := by
  rw [← leB_leN a, ← leB_leN b, hl, h]

theorem leB_get (n x j : Nat) (h : j < (leB n x).length) : ((leB n x)[j]).toNat = x / 2 ^ (8 * j) % 256 := by
  induction n generalizing x j with
  | zero => simp [leB] at h
  | succ n ih =>
    cases j with
    | zero => simp [leB]
    | succ j =>
      simp only [leB, List.getElem_cons_succ]
      rw [ih, Nat.div_div_eq_div_mul]
      congr 2
      rw [Nat.mul_add, Nat.pow_add, Nat.mul_comm]

theorem leB_mod (n x : Nat) : leB n (x % 2 ^ (8 * n)) = leB n x := by
  apply leN_inj (by rw [leB_length, leB_length])
  rw [leN_leB, leN_leB, Nat.mod_mod]

/-- 2^130 - 5 -/
def p1305 : Nat := 1361129467683753853853498429727072845819

/-- the number of a block of at most 16 bytes, with a 1 behind it -/
def blkN (b : List UInt8) : Nat := leN b + 2 ^ (8 * b.length)

/-- the sum over all blocks -/
def accN (r : Nat) (acc : Nat) (b : List UInt8) : Nat :=
  match b with
  | [] => acc
  | x :: l => accN r ((acc + blkN ((x :: l).take 16)) * r % p1305) ((x :: l).drop 16)
termination_by b.length
decreasing_by simp; omega

theorem accN_nil (r acc : Nat) : accN r acc [] = acc := by rw [accN]
theorem accN_step (r acc : Nat) (b : List UInt8) (h : b ≠ []) : accN r acc b = accN r ((acc + blkN (b.take 16)) * r % p1305) (b.drop 16) := by
  cases b with
  | nil => exact absurd rfl h
  | cons x l => rw [accN]

theorem accN_lt (r acc : Nat) (b : List UInt8) (h : acc < p1305) : accN r acc b < p1305 := by
  induction hn : b.length using Nat.strongRecOn generalizing acc b with
  | _ n ih =>
    cases b with
    | nil => rw [accN_nil]; exact h
    | cons x l =>
      rw [accN]
      exact ih _ (by rw [← hn]; simp; omega) _ _ (Nat.mod_lt _ (by simp [p1305])) rfl

/-- the first half of the key, with the bits struck that the standard strikes -/
def clampB (k : List UInt8) : List UInt8 :=
  k.mapIdx fun i x => if i % 4 = 3 then x &&& 15 else if i % 4 = 0 ∧ i ≠ 0 then x &&& 252 else x

def rN (key : List UInt8) : Nat := leN (clampB (key.take 16))
def sN (key : List UInt8) : Nat := leN ((key.drop 16).take 16)

/-- Poly1305 -/
def polyN (key msg : List UInt8) : Nat := (accN (rN key) 0 msg + sN key) % 2 ^ 128
def polyB (key msg : List UInt8) : List UInt8 := leB 16 (polyN key msg)

end Go.Proofs.YtdkadlifjmmcbaaDoor
