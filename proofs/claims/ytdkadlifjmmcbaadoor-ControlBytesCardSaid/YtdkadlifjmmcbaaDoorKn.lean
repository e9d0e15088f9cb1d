/- Plain mathematics: the bytes of a formed control are parsed whole as that control. -/
import Derived.Test.YtdkadlifjmmcbaaDoorKm
namespace Go.Proofs.YtdkadlifjmmcbaaDoor

theorem takeN_num (k : Nat) : ∀ (n acc y : Nat) (rest : List UInt8), y < 2 ^ (7 * k) → n + k ≤ 9 → (0 < n → 0 < y) →
    takeN n acc (numB y ++ rest) = some (acc + 2 ^ (7 * n) * y, n + (numB y).length) := by
  induction k with
  | zero =>
    intro n acc y rest h1 h2 h3
    have hy : y = 0 := by simpa using h1
    subst hy
    have hn : n = 0 := by omega
    subst hn
    rw [numB_small (by omega), List.singleton_append, takeN_end (by simp) (by simp) (by simp)]
    simp
  | succ k ih =>
    intro n acc y rest h1 h2 h3
    by_cases hy : y < 128
    · have e : (UInt8.ofNat y).toNat = y := by simp; omega
      rw [numB_small hy, List.singleton_append, takeN_end (by omega) (by omega) (by omega), e, Nat.mod_eq_of_lt hy]
      rfl
    · have e : (UInt8.ofNat (y % 128 + 128)).toNat = y % 128 + 128 := by simp; omega
      have e2 : y / 128 < 2 ^ (7 * k) := by
        rw [Nat.div_lt_iff_lt_mul (by omega)]
        rw [show 7 * (k + 1) = 7 * k + 7 from by omega, Nat.pow_add] at h1
        exact h1
      rw [numB_big (by omega), List.cons_append, takeN_more (by omega) (by omega), ih (n + 1) _ (y / 128) rest e2 (by omega) (by omega), e]
      have e3 : (y % 128 + 128) % 128 = y % 128 := by omega
      have e4 : 2 ^ (7 * (n + 1)) = 2 ^ (7 * n) * 128 := by rw [Nat.mul_add, Nat.pow_add]
      have e5 : y % 128 + 128 * (y / 128) = y := by omega
      rw [e3, e4, Nat.mul_assoc, Nat.add_assoc, ← Nat.mul_add, e5, List.length_cons]
      congr 2
      omega

theorem numR_num {y : Nat} (h : y < 9223372036854775808) (rest : List UInt8) : numR (numB y ++ rest) = (y, (numB y).length) := by
  unfold numR
  rw [takeN_num 9 0 0 y rest (Nat.lt_of_lt_of_le h (by decide)) (by omega) (by omega)]
  simp

theorem numT_num {most y : Nat} (h : y ≤ most) (h2 : y < 9223372036854775808) (rest : List UInt8) : numT most (numB y ++ rest) false = (y, rest, false) := by
  have hp := numB_len_pos y
  rw [numT, numR_num h2, if_neg (by rintro (hh | hh | hh); cases hh; (have hh' : (numB y).length = 0 := hh; omega); (have hh' : most < y := hh; omega))]
  simp

theorem textT_txt {most : Nat} {s : List UInt8} (h : s.length ≤ most) (hm : most ≤ 4096) (rest : List UInt8) : textT most (txtB s ++ rest) false = (s, rest, false) := by
  have hp := numB_len_pos s.length
  have e : txtB s ++ rest = numB s.length ++ (s ++ rest) := by rw [txtB, List.append_assoc]
  have e2 : (numB s.length ++ (s ++ rest)).length - (numB s.length).length = s.length + rest.length := by simp
  rw [textT, e, numR_num (by omega), if_neg (by rintro (hh | hh | hh); cases hh; (have hh' : (numB s.length).length = 0 := hh; omega); (simp only [e2] at hh; omega)), List.drop_left', rawT, if_neg (by simp)]
  · rw [List.take_left, List.drop_left]
  · rfl

theorem textsTo_texts (l : List (List UInt8)) (rest : List UInt8) (hs : ∀ s ∈ l, s.length ≤ 48) : ∀ k, k ≤ l.length → textsTo 48 ((l.map txtB).flatten ++ rest) false k = (l.take k, ((l.drop k).map txtB).flatten ++ rest, false)
  | 0, _ => by simp [textsTo]
  | k + 1, h => by
    have hk : k < l.length := by omega
    have ih := textsTo_texts l rest hs k (by omega)
    have e : ((l.drop k).map txtB).flatten ++ rest = txtB l[k] ++ (((l.drop (k + 1)).map txtB).flatten ++ rest) := by
      rw [List.drop_eq_getElem_cons hk, List.map_cons, List.flatten_cons, List.append_assoc]
    have ht := textT_txt (most := 48) (hs _ (List.getElem_mem hk)) (by omega) (((l.drop (k + 1)).map txtB).flatten ++ rest)
    simp only [textsTo, ih, e, ht]
    rw [List.take_succ_eq_append_getElem hk]

/-- a formed control's numbers and lengths -/
theorem formedK_facts {op me : Int} {cut : Nat} {ns : List Nat} {hn : Nat} (h : formedK op me cut ns hn = true) : 1 ≤ op ∧ op ≤ 5 ∧ 0 ≤ me ∧ me ≤ 6 ∧ cut ≤ 1048576 ∧ (∀ n ∈ ns, n ≤ 48) ∧ hn ≤ 48 := by
  unfold formedK at h
  rw [Bool.and_eq_true, List.all_eq_true] at h
  obtain ⟨h1, h2⟩ := h
  have h3 : ∀ n ∈ ns, n ≤ 48 := fun n hn => okSl_le (h1 n hn)
  split at h2
  · simp only [Bool.and_eq_true, beq_iff_eq] at h2
    exact ⟨by omega, by omega, by omega, by omega, by omega, h3, by omega⟩
  split at h2
  · simp only [Bool.and_eq_true, beq_iff_eq, decide_eq_true_eq] at h2
    exact ⟨by omega, by omega, by omega, by omega, by omega, h3, by omega⟩
  split at h2
  · simp only [Bool.and_eq_true, beq_iff_eq, decide_eq_true_eq] at h2
    exact ⟨by omega, by omega, by omega, by omega, by omega, h3, by omega⟩
  split at h2
  · simp only [Bool.and_eq_true, beq_iff_eq, decide_eq_true_eq] at h2
    exact ⟨by omega, by omega, by omega, by omega, by omega, h3, by omega⟩
  · cases h2

/-- the bytes of a formed control are parsed as that control -/
theorem bytesK_parse {op me cut : Nat} {ts : List (List UInt8)} {hd : List UInt8} (h6 : ts.length = 6) (hf : formedK op me cut (ts.map List.length) hd.length = true) : parseK (bytesK op me cut ts hd) = ⟨op, me, cut, ts, hd, true⟩ := by
  obtain ⟨_, o2, _, m2, hc, hs, hh⟩ := formedK_facts hf
  have hs' : ∀ s ∈ ts, s.length ≤ 48 := fun s h => hs _ (List.mem_map.2 ⟨s, h, rfl⟩)
  have e : bytesK op me cut ts hd = numB op ++ (numB me ++ (numB cut ++ ((ts.map txtB).flatten ++ (txtB hd ++ [])))) := by simp [bytesK]
  have a0 := numT_num (most := 5) (y := op) (by omega) (by omega) (numB me ++ (numB cut ++ ((ts.map txtB).flatten ++ (txtB hd ++ []))))
  have a1 := numT_num (most := 6) (y := me) (by omega) (by omega) (numB cut ++ ((ts.map txtB).flatten ++ (txtB hd ++ [])))
  have a2 := numT_num (most := 1048576) (y := cut) hc (by omega) ((ts.map txtB).flatten ++ (txtB hd ++ []))
  have a3 := textsTo_texts ts (txtB hd ++ []) hs' 6 (by omega)
  have a4 := textT_txt (most := 48) hh (by omega) []
  rw [List.take_of_length_le (by omega), List.drop_of_length_le (by omega), List.map_nil, List.flatten_nil, List.nil_append] at a3
  simp only [parseK, e, a0, a1, a2, a3, a4]
  rfl
theorem bytesK_ok {op me cut : Nat} {ts : List (List UInt8)} {hd : List UInt8} (h6 : ts.length = 6) (hf : formedK op me cut (ts.map List.length) hd.length = true) : okK (bytesK op me cut ts hd) = true := by
  unfold okK PrsK.formed
  rw [bytesK_parse h6 hf]
  simpa using hf

end Go.Proofs.YtdkadlifjmmcbaaDoor
