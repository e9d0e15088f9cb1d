/- Plain mathematics for layer 5: packed numbers. -/
import Derived.Test.YtdkadlifjmmcbaaDoorPm
namespace Go.Proofs.YtdkadlifjmmcbaaDoor

/-- a number's bytes: seven bits a byte, the least first -/
def numB (x : Nat) : List UInt8 := if x < 128 then [UInt8.ofNat x] else UInt8.ofNat (x % 128 + 128) :: numB (x / 128)
termination_by x
decreasing_by omega

theorem numB_small {x : Nat} (h : x < 128) : numB x = [UInt8.ofNat x] := by rw [numB, if_pos h]
theorem numB_big {x : Nat} (h : 128 ≤ x) : numB x = UInt8.ofNat (x % 128 + 128) :: numB (x / 128) := by rw [numB, if_neg (by omega)]

theorem numB_len_pos (x : Nat) : 0 < (numB x).length := by
  rcases Nat.lt_or_ge x 128 with h | h
  · rw [numB_small h]; simp
  · rw [numB_big h]; simp

theorem numB_len_le (k : Nat) : ∀ x, x < 2 ^ (7 * (k + 1)) → (numB x).length ≤ k + 1 := by
  induction k with
  | zero => intro x h; rw [numB_small (by simpa using h)]; simp
  | succ k ih =>
    intro x h
    rcases Nat.lt_or_ge x 128 with h1 | h1
    · rw [numB_small h1]; simp
    · rw [numB_big h1, List.length_cons]
      have : x / 128 < 2 ^ (7 * (k + 1)) := by
        rw [Nat.div_lt_iff_lt_mul (by omega)]
        rw [show 7 * (k + 1 + 1) = 7 * (k + 1) + 7 from by omega, Nat.pow_add] at h
        exact h
      have := ih _ this
      omega

theorem numB_len64 {x : Nat} (h : x < 18446744073709551616) : (numB x).length ≤ 10 := numB_len_le 9 x (Nat.lt_of_lt_of_le h (by decide))

/-- a number that stands at a text's beginning, and how many bytes it has; from the n-th byte on -/
def takeN : Nat → Nat → List UInt8 → Option (Nat × Nat)
  | _, _, [] => none
  | n, acc, c :: l =>
    if (n = 9 ∧ 1 < c.toNat) ∨ 9 < n then none
    else if c.toNat < 128 then (if c.toNat = 0 ∧ 0 < n then none else some (acc + 2 ^ (7 * n) * (c.toNat % 128), n + 1))
    else takeN (n + 1) (acc + 2 ^ (7 * n) * (c.toNat % 128)) l

theorem takeN_nil (n acc : Nat) : takeN n acc [] = none := rfl
theorem takeN_no {n acc : Nat} {c : UInt8} {l : List UInt8} (h : (n = 9 ∧ 1 < c.toNat) ∨ 9 < n) : takeN n acc (c :: l) = none := by
  rw [takeN, if_pos h]
theorem takeN_zero {n acc : Nat} {c : UInt8} {l : List UInt8} (h : ¬((n = 9 ∧ 1 < c.toNat) ∨ 9 < n)) (h0 : c.toNat = 0) (hn : 0 < n) : takeN n acc (c :: l) = none := by
  rw [takeN, if_neg h, if_pos (by omega), if_pos ⟨h0, hn⟩]
theorem takeN_end {n acc : Nat} {c : UInt8} {l : List UInt8} (h : ¬((n = 9 ∧ 1 < c.toNat) ∨ 9 < n)) (h1 : c.toNat < 128) (h0 : ¬(c.toNat = 0 ∧ 0 < n)) :
    takeN n acc (c :: l) = some (acc + 2 ^ (7 * n) * (c.toNat % 128), n + 1) := by
  rw [takeN, if_neg h, if_pos h1, if_neg h0]
theorem takeN_more {n acc : Nat} {c : UInt8} {l : List UInt8} (h : ¬((n = 9 ∧ 1 < c.toNat) ∨ 9 < n)) (h1 : ¬c.toNat < 128) :
    takeN n acc (c :: l) = takeN (n + 1) (acc + 2 ^ (7 * n) * (c.toNat % 128)) l := by
  rw [takeN, if_neg h, if_neg h1]

/-- what 'number' answers -/
def numR (l : List UInt8) : Nat × Nat := (takeN 0 0 l).getD (0, 0)

theorem acc_next {k acc c : Nat} (ha : acc < 2 ^ (7 * k)) : acc + 2 ^ (7 * k) * (c % 128) < 2 ^ (7 * (k + 1)) := by
  have e : 2 ^ (7 * (k + 1)) = 2 ^ (7 * k) * 128 := by rw [Nat.mul_add, Nat.pow_add]
  have h1 : 2 ^ (7 * k) * (c % 128) ≤ 2 ^ (7 * k) * 127 := Nat.mul_le_mul_left _ (by omega)
  omega

theorem takeN_le (l : List UInt8) : ∀ n acc x m, takeN n acc l = some (x, m) → n < m ∧ m ≤ n + l.length := by
  induction l with
  | nil => intro n acc x m h; cases h
  | cons c l ih =>
    intro n acc x m h
    by_cases h1 : (n = 9 ∧ 1 < c.toNat) ∨ 9 < n
    · rw [takeN_no h1] at h; cases h
    · by_cases h2 : c.toNat < 128
      · by_cases h3 : c.toNat = 0 ∧ 0 < n
        · rw [takeN_zero h1 h3.1 h3.2] at h; cases h
        · rw [takeN_end h1 h2 h3] at h
          cases h
          simp only [List.length_cons]
          omega
      · rw [takeN_more h1 h2] at h
        have := ih _ _ _ _ h
        simp
        omega

theorem numR_le (l : List UInt8) : (numR l).2 ≤ l.length := by
  unfold numR
  cases h : takeN 0 0 l with
  | none => simp
  | some x =>
    obtain ⟨x, m⟩ := x
    have := (takeN_le l 0 0 x m h).2
    simp
    omega

/-- what Num takes: the number, what is left, whether something was wrong -/
def numT (most : Nat) (l : List UInt8) (bad : Bool) : Nat × List UInt8 × Bool :=
  if bad = true ∨ (numR l).2 = 0 ∨ most < (numR l).1 then (0, l, true) else ((numR l).1, l.drop (numR l).2, false)

/-- what Raw takes -/
def rawT (n : Nat) (l : List UInt8) (bad : Bool) : List UInt8 × List UInt8 × Bool :=
  if bad = true ∨ l.length < n then ([], l, true) else (l.take n, l.drop n, false)

/-- what Text takes -/
def textT (most : Nat) (l : List UInt8) (bad : Bool) : List UInt8 × List UInt8 × Bool :=
  if bad = true ∨ (numR l).2 = 0 ∨ min most (min 4096 (l.length - (numR l).2)) < (numR l).1 then ([], l, true) else rawT (numR l).1 (l.drop (numR l).2) false

/-- what Flag takes -/
def flagT (l : List UInt8) (bad : Bool) : Bool × List UInt8 × Bool :=
  match l with
  | [] => (false, [], true)
  | c :: r => if bad = true ∨ 1 < c.toNat then (false, c :: r, true) else (c == 1, r, false)

end Go.Proofs.YtdkadlifjmmcbaaDoor
