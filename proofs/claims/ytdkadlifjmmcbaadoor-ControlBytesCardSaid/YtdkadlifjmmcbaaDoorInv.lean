/- Plain mathematics: what is parsed whole as a change packs to the same bytes. -/
import Derived.Test.YtdkadlifjmmcbaaDoorPcm
namespace Go.Proofs.YtdkadlifjmmcbaaDoor

theorem takeN_inv (l : List UInt8) : ∀ (n acc x m : Nat), takeN n acc l = some (x, m) →
    ∃ y k, m = n + k ∧ 0 < k ∧ k ≤ l.length ∧ x = acc + 2 ^ (7 * n) * y ∧ l.take k = numB y ∧ (0 < n → 0 < y) := by
  induction l with
  | nil => intro n acc x m h; simp [takeN] at h
  | cons c l ih =>
    intro n acc x m h
    by_cases h0 : (n = 9 ∧ 1 < c.toNat) ∨ 9 < n
    · rw [takeN_no h0] at h
      cases h
    · by_cases h1 : c.toNat < 128
      · by_cases h2 : c.toNat = 0 ∧ 0 < n
        · rw [takeN_zero h0 h2.1 h2.2] at h
          cases h
        · rw [takeN_end h0 h1 h2] at h
          cases h
          refine ⟨c.toNat, 1, rfl, by omega, by simp, by rw [Nat.mod_eq_of_lt h1], ?_, by omega⟩
          rw [numB_small h1]
          simp
      · rw [takeN_more h0 h1] at h
        obtain ⟨y, k, rfl, hk0, hk, rfl, ht, hy⟩ := ih _ _ _ _ h
        have hy0 := hy (by omega)
        refine ⟨c.toNat % 128 + 128 * y, k + 1, by omega, by omega, by simp; omega, ?_, ?_, by omega⟩
        · have e : 2 ^ (7 * (n + 1)) = 2 ^ (7 * n) * 128 := by rw [Nat.mul_add, Nat.pow_add]
          rw [e, Nat.mul_add, Nat.mul_assoc, Nat.add_assoc]
        · have hc := c.toNat_lt
          rw [numB_big (by omega), List.take_succ_cons, ht]
          have e1 : (c.toNat % 128 + 128 * y) % 128 + 128 = c.toNat := by omega
          have e2 : (c.toNat % 128 + 128 * y) / 128 = y := by omega
          rw [e1, e2]
          simp

theorem numR_inv {l : List UInt8} (h : (numR l).2 ≠ 0) : l.take (numR l).2 = numB (numR l).1 := by
  unfold numR at h ⊢
  cases hq : takeN 0 0 l with
  | none => simp [hq] at h
  | some p =>
    obtain ⟨x, m⟩ := p
    obtain ⟨y, k, rfl, _, _, rfl, ht, _⟩ := takeN_inv l 0 0 x m hq
    simpa using ht

theorem numT_inv {most : Nat} {l : List UInt8} {bad : Bool} (h : (numT most l bad).2.2 = false) : bad = false ∧ l = numB (numT most l bad).1 ++ (numT most l bad).2.1 := by
  unfold numT at h ⊢
  split at h
  · cases h
  · rename_i hn
    rw [if_neg hn]
    refine ⟨by cases bad <;> simp_all, ?_⟩
    have h2 := numR_inv (l := l) (fun e => hn (.inr (.inl e)))
    rw [← h2, List.take_append_drop]

theorem textT_inv {most : Nat} {l : List UInt8} {bad : Bool} (h : (textT most l bad).2.2 = false) : bad = false ∧ l = numB (textT most l bad).1.length ++ (textT most l bad).1 ++ (textT most l bad).2.1 := by
  unfold textT at h ⊢
  split at h
  · cases h
  · rename_i hn
    rw [if_neg hn]
    refine ⟨by cases bad <;> simp_all, ?_⟩
    have h2 := numR_inv (l := l) (fun e => hn (.inr (.inl e)))
    have h3 : (numR l).1 ≤ (l.drop (numR l).2).length := by
      have := Nat.le_of_not_lt fun h3 => hn (.inr (.inr h3))
      rw [List.length_drop]
      omega
    unfold rawT
    split
    · rename_i h4
      unfold rawT at h
      rw [if_pos h4] at h
      cases h
    · rw [List.length_take, Nat.min_eq_left h3, List.append_assoc, List.take_append_drop, ← h2, List.take_append_drop]

theorem text_part {most : Nat} {l : List UInt8} {bad : Bool} (h : (textT most l bad).2.2 = false) : bad = false ∧ l = textB (mkS (textT most l bad).1) ++ (textT most l bad).2.1 := by
  obtain ⟨h1, h2⟩ := textT_inv h
  refine ⟨h1, ?_⟩
  rw [textB, sB_mkS, mkS_size]
  exact h2

theorem tagsTo_inv (l : List UInt8) (bad : Bool) : ∀ k, (tagsTo l bad k).2.2 = false → bad = false ∧ l = ((tagsTo l bad k).1.map textB).flatten ++ (tagsTo l bad k).2.1
  | 0, h => ⟨h, by simp [tagsTo]⟩
  | k + 1, h => by
    obtain ⟨h1, h2⟩ := text_part (l := (tagsTo l bad k).2.1) h
    obtain ⟨h3, h4⟩ := tagsTo_inv l bad k h1
    refine ⟨h3, ?_⟩
    simp only [tagsTo, List.map_append, List.flatten_append, List.map_cons, List.map_nil, List.flatten_cons, List.flatten_nil, List.append_nil, List.append_assoc]
    rw [← h2]
    exact h4

/-- what is parsed whole packs to the same bytes -/
theorem parse_pack (b : List UInt8) (h : (parseC b).over = true) : packC (parseC b).op (parseC b).name (parseC b).tags (parseC b).val = b := by
  simp only [parseC, Bool.and_eq_true, Bool.not_eq_true', List.isEmpty_iff] at h
  obtain ⟨h1, h2⟩ := h
  obtain ⟨b3, e3⟩ := text_part h1
  obtain ⟨b2, e2⟩ := tagsTo_inv _ _ _ b3
  obtain ⟨b1, e1⟩ := numT_inv b2
  obtain ⟨b0, e0⟩ := text_part b1
  obtain ⟨_, e⟩ := numT_inv b0
  rw [h2, List.append_nil] at e3
  simp only [parseC, packC, (tagsTo_len _ _ _).1, List.append_assoc]
  rw [← e3, ← e2, ← e1, ← e0, ← e]

theorem ok_pack (b : List UInt8) (h : okC b = true) : packC (parseC b).op (parseC b).name (parseC b).tags (parseC b).val = b ∧ formedC (parseC b).op (parseC b).name (parseC b).tags (parseC b).val = true := by
  unfold okC at h
  rw [Bool.and_eq_true] at h
  exact ⟨parse_pack b h.1, h.2⟩

end Go.Proofs.YtdkadlifjmmcbaaDoor
