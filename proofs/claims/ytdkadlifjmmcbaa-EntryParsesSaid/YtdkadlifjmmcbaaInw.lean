/- Plain mathematics: what a formed change packs to is parsed whole as that change. -/
import Derived.Test.YtdkadlifjmmcbaaInv
import Derived.Test.YtdkadlifjmmcbaaEp
namespace Go.Proofs.Ytdkadlifjmmcbaa

theorem takeN_num (k : Nat) : ∀ (n acc y : Nat) (rest : List UInt8), y < 2 ^ (7 * k) → n + k ≤ 9 → (0 < n → 0 < y) →
    takeN n acc (numB y ++ rest) = some (acc + 2 ^ (7 * n) * y, n + (numB y).length) := by
  induction k with
  | zero =>
    intro n acc y rest h1 h2 h3
    have hy : y = 0 := by simpa using h1
    subst hy
    have hn : n = 0 := by omega
    subst hn
    rw [numB_small (by omega), List.singleton_append, takeN_end (by simp) (by simp) (by simp)]
    simp
  | succ k ih =>
    intro n acc y rest h1 h2 h3
    by_cases hy : y < 128
    · have e : (UInt8.ofNat y).toNat = y := by simp; omega
      rw [numB_small hy, List.singleton_append, takeN_end (by omega) (by omega) (by omega), e, Nat.mod_eq_of_lt hy]
      rfl
    · have e : (UInt8.ofNat (y % 128 + 128)).toNat = y % 128 + 128 := by simp; omega
      have e2 : y / 128 < 2 ^ (7 * k) := by
        rw [Nat.div_lt_iff_lt_mul (by omega)]
        rw [show 7 * (k + 1) = 7 * k + 7 from by omega, Nat.pow_add] at h1
        exact h1
      rw [numB_big (by omega), List.cons_append, takeN_more (by omega) (by omega), ih (n + 1) _ (y / 128) rest e2 (by omega) (by omega), e]
      have e3 : (y % 128 + 128) % 128 = y % 128 := by omega
      have e4 : 2 ^ (7 * (n + 1)) = 2 ^ (7 * n) * 128 := by rw [Nat.mul_add, Nat.pow_add]
      have e5 : y % 128 + 128 * (y / 128) = y := by omega
      rw [e3, e4, Nat.mul_assoc, Nat.add_assoc, ← Nat.mul_add, e5, List.length_cons]
      congr 2
      omega

theorem numR_num {y : Nat} (h : y < 9223372036854775808) (rest : List UInt8) : numR (numB y ++ rest) = (y, (numB y).length) := by
  unfold numR
  rw [takeN_num 9 0 0 y rest (Nat.lt_of_lt_of_le h (by decide)) (by omega) (by omega)]
  simp

theorem numT_num {most y : Nat} (h : y ≤ most) (h2 : y < 9223372036854775808) (rest : List UInt8) : numT most (numB y ++ rest) false = (y, rest, false) := by
  have hp := numB_len_pos y
  rw [numT, numR_num h2, if_neg (by rintro (hh | hh | hh); cases hh; (have hh' : (numB y).length = 0 := hh; omega); (have hh' : most < y := hh; omega))]
  simp

theorem textT_text {most : Nat} {s : ByteArray} (h : s.size ≤ most) (hm : most ≤ 4096) (rest : List UInt8) : textT most (textB s ++ rest) false = (sB s, rest, false) := by
  have hp := numB_len_pos s.size
  have hl := sB_len s
  have e : textB s ++ rest = numB s.size ++ (sB s ++ rest) := by rw [textB, List.append_assoc]
  have e2 : (numB s.size ++ (sB s ++ rest)).length - (numB s.size).length = s.size + rest.length := by simp [hl]
  rw [textT, e, numR_num (by omega), if_neg (by rintro (hh | hh | hh); cases hh; (have hh' : (numB s.size).length = 0 := hh; omega); (simp only [e2] at hh; omega)), List.drop_left', rawT, if_neg (by simp [hl])]
  · rw [← hl, List.take_left, List.drop_left]
  · rfl

theorem tagsTo_tags (l : List ByteArray) (rest : List UInt8) (hs : ∀ s ∈ l, s.size ≤ 24) : ∀ k, k ≤ l.length → tagsTo ((l.map textB).flatten ++ rest) false k = (l.take k, ((l.drop k).map textB).flatten ++ rest, false)
  | 0, _ => by simp [tagsTo]
  | k + 1, h => by
    have hk : k < l.length := by omega
    have ih := tagsTo_tags l rest hs k (by omega)
    have e : ((l.drop k).map textB).flatten ++ rest = textB l[k] ++ (((l.drop (k + 1)).map textB).flatten ++ rest) := by
      rw [List.drop_eq_getElem_cons hk, List.map_cons, List.flatten_cons, List.append_assoc]
    have ht := textT_text (most := 24) (hs _ (List.getElem_mem hk)) (by omega) (((l.drop (k + 1)).map textB).flatten ++ rest)
    simp only [tagsTo, ih, e, ht, mkS_sB]
    rw [List.take_succ_eq_append_getElem hk]

/-- what a formed change packs to is parsed as that change -/
theorem pack_parse {op : Nat} {name val : ByteArray} {l : List ByteArray} (hf : formedC op name l val = true) : parseC (packC op name l val) = ⟨op, name, l, val, true⟩ := by
  obtain ⟨hn, h8, hv, ho1, ho3, hs⟩ := formed_sizes hf
  have a0 : numT 3 (packC op name l val) false = (op, textB name ++ (numB l.length ++ ((l.map textB).flatten ++ (textB val ++ []))), false) := by
    have e : packC op name l val = numB op ++ (textB name ++ (numB l.length ++ ((l.map textB).flatten ++ (textB val ++ [])))) := by simp [packC]
    rw [e]
    exact numT_num (by omega) (by omega) _
  have a1 := textT_text (most := 24) hn (by omega) (numB l.length ++ ((l.map textB).flatten ++ (textB val ++ [])))
  have a2 := numT_num (most := 8) h8 (by omega) ((l.map textB).flatten ++ (textB val ++ []))
  have a3 := tagsTo_tags l (textB val ++ []) hs l.length (Nat.le_refl _)
  have a4 := textT_text (most := 512) hv (by omega) []
  rw [List.take_length, List.drop_length, List.map_nil, List.flatten_nil, List.nil_append] at a3
  simp only [parseC, a0, a1, a2, a3, a4, mkS_sB]
  rfl

theorem pack_ok {op : Nat} {name val : ByteArray} {l : List ByteArray} (hf : formedC op name l val = true) : okC (packC op name l val) = true := by
  rw [okC, pack_parse hf]
  exact hf

end Go.Proofs.Ytdkadlifjmmcbaa
