/- Plain mathematics: what ParseChange takes. -/
import Derived.Test.YtdkadlifjmmcbaaDoorChm
import Derived.Test.YtdkadlifjmmcbaaDoorStr
namespace Go.Proofs.YtdkadlifjmmcbaaDoor

theorem numT_le (most : Nat) (l : List UInt8) (bad : Bool) : (numT most l bad).1 ≤ most := by
  unfold numT
  split
  · exact Nat.zero_le _
  · rename_i h
    exact Nat.le_of_not_lt fun h2 => h (.inr (.inr h2))
theorem numT_len (most : Nat) (l : List UInt8) (bad : Bool) : (numT most l bad).2.1.length ≤ l.length := by
  unfold numT
  split
  · exact Nat.le_refl _
  · simp
theorem rawT_len (n : Nat) (l : List UInt8) (bad : Bool) : (rawT n l bad).2.1.length ≤ l.length ∧ (rawT n l bad).1.length ≤ n := by
  unfold rawT
  split
  · simp
  · simp
    omega
theorem textT_len (most : Nat) (l : List UInt8) (bad : Bool) : (textT most l bad).2.1.length ≤ l.length ∧ (textT most l bad).1.length ≤ most := by
  unfold textT
  split
  · simp
  · rename_i h
    have h1 := rawT_len (numR l).1 (l.drop (numR l).2) false
    have h2 : (numR l).1 ≤ min most (min 4096 (l.length - (numR l).2)) := Nat.le_of_not_lt fun h3 => h (.inr (.inr h3))
    rw [List.length_drop] at h1
    omega

/-- some texts, one behind the other -/
def tagsTo (l : List UInt8) (bad : Bool) : Nat → List ByteArray × List UInt8 × Bool
  | 0 => ([], l, bad)
  | k + 1 => ((tagsTo l bad k).1 ++ [mkS (textT 24 (tagsTo l bad k).2.1 (tagsTo l bad k).2.2).1], (textT 24 (tagsTo l bad k).2.1 (tagsTo l bad k).2.2).2)
theorem tagsTo_len (l : List UInt8) (bad : Bool) (k : Nat) : (tagsTo l bad k).1.length = k ∧ (tagsTo l bad k).2.1.length ≤ l.length := by
  induction k with
  | zero => simp [tagsTo]
  | succ k ih =>
    have := textT_len 24 (tagsTo l bad k).2.1 (tagsTo l bad k).2.2
    simp only [tagsTo, List.length_append, List.length_cons, List.length_nil]
    omega
theorem tagsTo_size (l : List UInt8) (bad : Bool) (k : Nat) : ∀ s ∈ (tagsTo l bad k).1, s.size ≤ 24 := by
  induction k with
  | zero => simp [tagsTo]
  | succ k ih =>
    intro s hs
    simp only [tagsTo, List.mem_append, List.mem_singleton] at hs
    rcases hs with h | rfl
    · exact ih s h
    · rw [mkS_size]
      exact (textT_len 24 _ _).2

/-- what is taken of a change's bytes: the number, the name, the tags, the value; and whether it is a formed change, and all -/
structure Chg where
  op : Nat
  name : ByteArray
  tags : List ByteArray
  val : ByteArray
  over : Bool

def parseC (b : List UInt8) : Chg :=
  let r0 := numT 3 b false
  let r1 := textT 24 r0.2.1 r0.2.2
  let r2 := numT 8 r1.2.1 r1.2.2
  let q := tagsTo r2.2.1 r2.2.2 r2.1
  let r3 := textT 512 q.2.1 q.2.2
  ⟨r0.1, mkS r1.1, q.1, mkS r3.1, !r3.2.2 && r3.2.1.isEmpty⟩

def okC (b : List UInt8) : Bool := (parseC b).over && formedC (parseC b).op (parseC b).name (parseC b).tags (parseC b).val

end Go.Proofs.YtdkadlifjmmcbaaDoor
