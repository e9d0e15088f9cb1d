/- Plain mathematics for changes: which are formed. -/
import Derived.Test.YtdkadlifjmmcbaaDoorPkm
import Derived.Laws.Strings
namespace Go.Proofs.YtdkadlifjmmcbaaDoor

def nameB (s : ByteArray) : Bool := decide (1 ≤ s.size) && decide (s.size ≤ 24)
def lessB (a b : ByteArray) : Bool := Op.bytesLess a.toList b.toList
def tagOK (l : List ByteArray) (i : Nat) : Bool := nameB (l.getD i ByteArray.empty) && (i == 0 || lessB (l.getD (i - 1) ByteArray.empty) (l.getD i ByteArray.empty))
def tagsB (l : List ByteArray) : Bool := (List.range l.length).all (tagOK l)
def formedC (op : Int) (name : ByteArray) (tags : List ByteArray) (val : ByteArray) : Bool :=
  nameB name && tagsB tags && decide (tags.length ≤ 8) && decide (val.size ≤ 512) && (op == 1 || (op == 2 && tags.isEmpty && val.size == 0) || (op == 3 && val.size == 0))

theorem tagsB_true {l : List ByteArray} (h : ∀ i, i < l.length → tagOK l i = true) : tagsB l = true := by
  unfold tagsB
  rw [List.all_eq_true]
  intro i hi
  exact h i (by simpa using hi)
theorem tagsB_false {l : List ByteArray} {i : Nat} (hi : i < l.length) (h : tagOK l i = false) : tagsB l = false := by
  unfold tagsB
  rw [List.all_eq_false]
  exact ⟨i, by simpa using hi, by simp [h]⟩
theorem tagsB_get {l : List ByteArray} (h : tagsB l = true) {i : Nat} (hi : i < l.length) : tagOK l i = true := by
  unfold tagsB at h
  rw [List.all_eq_true] at h
  exact h i (by simpa using hi)

theorem tagOK_zero {l : List ByteArray} (h : 0 < l.length) : tagOK l 0 = nameB l[0] := by
  simp [tagOK, h]
theorem tagOK_succ {l : List ByteArray} {k : Nat} (h : k + 1 < l.length) : tagOK l (k + 1) = (nameB l[k + 1] && Op.bytesLess l[k].toList l[k + 1].toList) := by
  have h' : k < l.length := by omega
  simp [tagOK, lessB, h, h']

theorem strlen (s : ByteArray) : s.toList.length = s.size := by rw [ByteArray.toList_eq]; rfl
theorem str_empty (s : ByteArray) : s.toList.isEmpty = (s.size == 0) := by
  rw [← strlen]
  cases s.toList <;> rfl

theorem bl_total (x y : List UInt8) : (Op.bytesLess x y || x == y) = !Op.bytesLess y x := by
  induction x generalizing y with
  | nil => cases y <;> simp [Op.bytesLess]
  | cons a x ih =>
    cases y with
    | nil => simp [Op.bytesLess]
    | cons b y =>
      simp only [Op.bytesLess]
      have h := ih y
      have hc : (a :: x == b :: y) = (a == b && x == y) := rfl
      rw [hc]
      by_cases h1 : a < b
      · have h2 : ¬ b < a := fun h3 => by rw [UInt8.lt_iff_toNat_lt] at h1 h3; omega
        have h3 : (b == a) = false := by
          rw [beq_eq_false_iff_ne]
          rintro rfl
          exact h2 h1
        simp [h1, h2, h3]
      · by_cases h2 : b < a
        · have h3 : (a == b) = false := by
            rw [beq_eq_false_iff_ne]
            rintro rfl
            exact h1 h2
          simp [h1, h2, h3]
        · have h3 : a = b := by
            rw [UInt8.lt_iff_toNat_lt] at h1 h2
            exact UInt8.toNat_inj.1 (by omega)
          subst h3
          simp [h1]
          simpa using h

/-- a string's bytes -/
def sB (s : ByteArray) : List UInt8 := s.data.toList
theorem sB_len (s : ByteArray) : (sB s).length = s.size := by unfold sB; rfl
/-- a text's bytes -/
def textB (s : ByteArray) : List UInt8 := numB s.size ++ sB s
/-- a change's bytes -/
def packC (op : Nat) (name : ByteArray) (tags : List ByteArray) (val : ByteArray) : List UInt8 :=
  numB op ++ textB name ++ numB tags.length ++ (tags.map textB).flatten ++ textB val

theorem textB_len (s : ByteArray) (h : s.size < 18446744073709551616) : (textB s).length ≤ s.size + 10 := by
  have := numB_len64 h
  simp only [textB, List.length_append, sB_len]
  omega
theorem flat_take (l : List ByteArray) (k : Nat) (h : k < l.length) : ((l.take (k + 1)).map textB).flatten = ((l.take k).map textB).flatten ++ textB l[k] := by
  rw [List.take_succ_eq_append_getElem h, List.map_append, List.flatten_append, List.map_cons, List.map_nil, List.flatten_cons, List.flatten_nil, List.append_nil]
set_option maxRecDepth 100000 in
theorem flat_len (l : List ByteArray) (k : Nat) (h : ∀ s ∈ l, s.size ≤ 1000) : (((l.take k).map textB).flatten).length ≤ k * 1010 := by
  induction k with
  | zero => simp
  | succ k ih =>
    rcases Nat.lt_or_ge k l.length with hk | hk
    · rw [flat_take l k hk, List.length_append]
      have h1 := h _ (List.getElem_mem hk)
      have := textB_len l[k] (by omega)
      omega
    · have e1 : l.take (k + 1) = l := List.take_of_length_le (by omega)
      have e2 : l.take k = l := List.take_of_length_le hk
      rw [e1]
      rw [e2] at ih
      exact Nat.le_trans ih (Nat.mul_le_mul_right _ (by omega))

end Go.Proofs.YtdkadlifjmmcbaaDoor
