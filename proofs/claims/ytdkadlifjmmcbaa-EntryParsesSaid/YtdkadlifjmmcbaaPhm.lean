/- Plain mathematics: what entry.Parse takes of some bytes, and that what is taken whole has these bytes. -/
import Derived.Test.YtdkadlifjmmcbaaInv
import Derived.Test.YtdkadlifjmmcbaaCo
namespace Go.Proofs.Ytdkadlifjmmcbaa

/-- bytes that were taken, or else what stood there -/
def pickB (s old : List UInt8) : List UInt8 := if s = [] then old else s

/-- tokens, one behind the other -/
def toksTo (l : List UInt8) (bad : Bool) : Nat → List (List UInt8) × List UInt8 × Bool
  | 0 => ([], l, bad)
  | k + 1 => ((toksTo l bad k).1 ++ [pickB (rawT 16 (toksTo l bad k).2.1 (toksTo l bad k).2.2).1 (zeros 16)], (rawT 16 (toksTo l bad k).2.1 (toksTo l bad k).2.2).2)
/-- numbers, one behind the other -/
def numsTo (most : Nat) (l : List UInt8) (bad : Bool) : Nat → List Nat × List UInt8 × Bool
  | 0 => ([], l, bad)
  | k + 1 => ((numsTo most l bad k).1 ++ [(numT most (numsTo most l bad k).2.1 (numsTo most l bad k).2.2).1], (numT most (numsTo most l bad k).2.1 (numsTo most l bad k).2.2).2)

theorem flagT_len (l : List UInt8) (bad : Bool) : (flagT l bad).2.1.length ≤ l.length := by
  cases l with
  | nil => simp [flagT]
  | cons c r =>
    simp only [flagT]
    split <;> simp

theorem toksTo_len (l : List UInt8) (bad : Bool) (k : Nat) : (toksTo l bad k).1.length = k ∧ (toksTo l bad k).2.1.length ≤ l.length := by
  induction k with
  | zero => simp [toksTo]
  | succ k ih =>
    have := rawT_len 16 (toksTo l bad k).2.1 (toksTo l bad k).2.2
    simp only [toksTo, List.length_append, List.length_cons, List.length_nil]
    omega
theorem numsTo_len (most : Nat) (l : List UInt8) (bad : Bool) (k : Nat) : (numsTo most l bad k).1.length = k ∧ (numsTo most l bad k).2.1.length ≤ l.length := by
  induction k with
  | zero => simp [numsTo]
  | succ k ih =>
    have := numT_len most (numsTo most l bad k).2.1 (numsTo most l bad k).2.2
    simp only [numsTo, List.length_append, List.length_cons, List.length_nil]
    omega

theorem rawT_inv {n : Nat} {l : List UInt8} {bad : Bool} (h : (rawT n l bad).2.2 = false) : bad = false ∧ (rawT n l bad).1.length = n ∧ l = (rawT n l bad).1 ++ (rawT n l bad).2.1 := by
  unfold rawT at h ⊢
  split at h
  · cases h
  · rename_i hn
    rw [if_neg hn]
    refine ⟨by cases bad <;> simp_all, ?_, by simp⟩
    simp only [List.length_take]
    have : ¬ l.length < n := fun e => hn (.inr e)
    omega
theorem pickB_of {s old : List UInt8} {n : Nat} (h : s.length = n) (hn : 0 < n) : pickB s old = s := by
  unfold pickB
  rw [if_neg]
  rintro rfl
  simp at h
  omega
theorem flagT_inv {l : List UInt8} {bad : Bool} (h : (flagT l bad).2.2 = false) : bad = false ∧ l = [if (flagT l bad).1 then 1 else 0] ++ (flagT l bad).2.1 := by
  cases l with
  | nil => simp [flagT] at h
  | cons c r =>
    by_cases hc : bad = true ∨ 1 < c.toNat
    · simp [flagT, hc] at h
    · have hb : bad = false := by cases bad <;> simp_all
      have h1 : ¬ 1 < c.toNat := fun e => hc (.inr e)
      have hcc : c = 0 ∨ c = 1 := by
        rcases Nat.lt_or_ge c.toNat 1 with h2 | h2
        · left; apply UInt8.toNat_inj.1; show c.toNat = 0; omega
        · right; apply UInt8.toNat_inj.1; show c.toNat = 1; omega
      refine ⟨hb, ?_⟩
      rw [flagT, if_neg hc]
      rcases hcc with rfl | rfl <;> simp

theorem toksTo_inv (l : List UInt8) (bad : Bool) : ∀ k, (toksTo l bad k).2.2 = false → bad = false ∧ l = (toksTo l bad k).1.flatten ++ (toksTo l bad k).2.1 ∧ ∀ t ∈ (toksTo l bad k).1, t.length = 16
  | 0, h => ⟨h, by simp [toksTo], by simp [toksTo]⟩
  | k + 1, h => by
    obtain ⟨h1, h2, h3⟩ := rawT_inv (l := (toksTo l bad k).2.1) h
    obtain ⟨h4, h5, h6⟩ := toksTo_inv l bad k h1
    have hp := pickB_of (old := zeros 16) h2 (by omega)
    refine ⟨h4, ?_, ?_⟩
    · simp only [toksTo, hp, List.flatten_append, List.flatten_cons, List.flatten_nil, List.append_nil, List.append_assoc]
      rw [← h3]
      exact h5
    · intro t ht
      simp only [toksTo, hp, List.mem_append, List.mem_singleton] at ht
      rcases ht with ht | rfl
      · exact h6 t ht
      · exact h2
theorem numsTo_inv (most : Nat) (l : List UInt8) (bad : Bool) : ∀ k, (numsTo most l bad k).2.2 = false → bad = false ∧ l = ((numsTo most l bad k).1.map numB).flatten ++ (numsTo most l bad k).2.1
  | 0, h => ⟨h, by simp [numsTo]⟩
  | k + 1, h => by
    obtain ⟨h1, h2⟩ := numT_inv (l := (numsTo most l bad k).2.1) h
    obtain ⟨h4, h5⟩ := numsTo_inv most l bad k h1
    refine ⟨h4, ?_⟩
    simp only [numsTo, List.map_append, List.flatten_append, List.map_cons, List.map_nil, List.flatten_cons, List.flatten_nil, List.append_nil, List.append_assoc]
    rw [← h2]
    exact h5
theorem numsTo_le (most : Nat) (l : List UInt8) (bad : Bool) (k : Nat) : ∀ x ∈ (numsTo most l bad k).1, x ≤ most := by
  induction k with
  | zero => simp [numsTo]
  | succ k ih =>
    intro x hx
    simp only [numsTo, List.mem_append, List.mem_singleton] at hx
    rcases hx with h | rfl
    · exact ih x h
    · exact numT_le _ _ _

/-- what is taken of a header's bytes: the fields, the tokens, what is left, and whether it went wrong -/
structure Prs where
  h : Hdr
  toks : List (List UInt8)
  over : Bool

def parseH (b : List UInt8) : Prs :=
  let r0 := numT 6 b false
  let r1 := numT 1048576 r0.2.1 r0.2.2
  let r2 := rawT 32 r1.2.1 r1.2.2
  let r3 := numT 255 r2.2.1 r2.2.2
  let r4 := flagT r3.2.1 r3.2.2
  let r5 := numT 1099511627776 r4.2.1 r4.2.2
  let r6 := rawT 16 r5.2.1 r5.2.2
  let r7 := numT 8 r6.2.1 r6.2.2
  let q := toksTo r7.2.1 r7.2.2 r7.1
  let s := numsTo 1048576 q.2.1 q.2.2 6
  let r8 := rawT 32 s.2.1 s.2.2
  let r9 := numT 2064 r8.2.1 r8.2.2
  let r10 := rawT 32 r9.2.1 r9.2.2
  ⟨⟨r0.1, r1.1, pickB r2.1 (zeros 32), r3.1, r4.1, r5.1, pickB r6.1 (zeros 16), none, r7.1, 0, s.1, pickB r8.1 (zeros 32), r9.1, pickB r10.1 (zeros 32)⟩, q.1, !r10.2.2 && r10.2.1.isEmpty⟩

/-- what is taken whole has these bytes -/
theorem parseH_bytes (b : List UInt8) (h : (parseH b).over = true) : coreB (parseH b).h (parseH b).toks ++ (parseH b).h.cd = b := by
  simp only [parseH, Bool.and_eq_true, Bool.not_eq_true', List.isEmpty_iff] at h
  obtain ⟨h1, h2⟩ := h
  obtain ⟨b9, l10, e10⟩ := rawT_inv h1
  obtain ⟨b8, e9⟩ := numT_inv b9
  obtain ⟨bs, l8, e8⟩ := rawT_inv b8
  obtain ⟨bq, es⟩ := numsTo_inv _ _ _ _ bs
  obtain ⟨b7, eq, _⟩ := toksTo_inv _ _ _ bq
  obtain ⟨b6, e7⟩ := numT_inv b7
  obtain ⟨b5, l6, e6⟩ := rawT_inv b6
  obtain ⟨b4, e5⟩ := numT_inv b5
  obtain ⟨b3, e4⟩ := flagT_inv b4
  obtain ⟨b2, e3⟩ := numT_inv b3
  obtain ⟨b1, l2, e2⟩ := rawT_inv b2
  obtain ⟨b0, e1⟩ := numT_inv b1
  obtain ⟨_, e0⟩ := numT_inv b0
  rw [h2, List.append_nil] at e10
  simp only [parseH, coreB, Int.toNat_natCast, pickB_of l2 (by omega), pickB_of l6 (by omega), pickB_of l8 (by omega), pickB_of l10 (by omega), List.append_assoc]
  rw [← e10, ← e9, ← e8, ← es, ← eq, ← e7, ← e6, ← e5, ← e4, ← e3, ← e2, ← e1, ← e0]

end Go.Proofs.Ytdkadlifjmmcbaa
