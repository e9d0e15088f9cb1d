/- HMAC and what comes of a key, in plain Lean; parts of a text as they lie. -/
import Derived.Test.YtdkadlifjmmcbaaDoorSh9
import Derived.Laws.CopyOwn
namespace Go.Proofs.YtdkadlifjmmcbaaDoor
open Go.RowKit
set_option linter.unusedSimpArgs false
set_option linter.unusedVariables false

/-- a key's 64 bytes, each turned with x -/
def padK (k : List UInt8) (x : UInt8) : List UInt8 := (List.range 64).map fun i => k.getD i 0 ^^^ x
theorem padK_len (k : List UInt8) (x : UInt8) : (padK k x).length = 64 := by simp [padK]
/-- HMAC -/
def macB (k t : List UInt8) : List UInt8 := shaB (padK k 92 ++ shaB (padK k 54 ++ t))
theorem macB_len (k t : List UInt8) : (macB k t).length = 32 := shaB_len _
/-- the label -/
def labB : List UInt8 := [106, 97, 108, 111, 117, 115, 105, 101, 32, 98, 97, 99, 107]
/-- a key of a key -/
def derB (k : List UInt8) : List UInt8 := macB k (labB ++ [1])
theorem derB_len (k : List UInt8) : (derB k).length = 32 := macB_len _ _
/-- n times -/
def iterD : Nat → List UInt8 → List UInt8
  | 0, k => k
  | n + 1, k => derB (iterD n k)
theorem iterD_len (n : Nat) (k : List UInt8) (h : k.length = 32) : (iterD n k).length = 32 := by
  cases n with
  | zero => exact h
  | succ n => exact derB_len _
theorem iterD_add (n m : Nat) (k : List UInt8) : iterD (n + m) k = iterD n (iterD m k) := by
  induction n with
  | zero => rw [Nat.zero_add]; rfl
  | succ n ih => rw [show n + 1 + m = n + m + 1 from by omega, iterD, iterD, ih]

/-- the 64 bytes when j of them are turned -/
def padJ (k : List UInt8) (x : UInt8) (j : Nat) : List UInt8 := (List.range 64).map fun i => if i < j then k.getD i 0 ^^^ x else k.getD i 0
theorem padJ_len (k : List UInt8) (x : UInt8) (j : Nat) : (padJ k x j).length = 64 := by simp [padJ]
theorem padJ_64 (k : List UInt8) (x : UInt8) : padJ k x 64 = padK k x := by
  unfold padJ padK
  refine List.map_congr_left fun i hi => ?_
  rw [List.mem_range] at hi
  rw [if_pos hi]
theorem padJ_0 (k : List UInt8) (x : UInt8) (hk : k.length = 32) : padJ k x 0 = k ++ zeros 32 := by
  refine List.ext_getElem (by simp [padJ, zeros, hk]) fun i h1 h2 => ?_
  simp only [padJ, List.getElem_map, List.getElem_range, Nat.not_lt_zero, if_false, List.getElem_append]
  split
  · next h => simp [h]
  · next h =>
    rw [List.getD_eq_getElem?_getD, List.getElem?_eq_none (by omega)]
    unfold zeros
    rw [List.getElem_replicate]
    rfl
theorem padJ_get (k : List UInt8) (x : UInt8) (j : Nat) (hj : j < 64) : (bytesL (padJ k x j)).toArray[j]? = some (.int .u8 ((k.getD j 0).toNat : Int)) := by
  rw [List.getElem?_toArray, bytesL_get _ _ (by rw [padJ_len]; exact hj)]
  simp [padJ]
theorem padJ_set (k : List UInt8) (x : UInt8) (j : Nat) (hj : j < 64) : (bytesL (padJ k x j)).toArray.setIfInBounds j (.int .u8 ((k.getD j 0 ^^^ x).toNat : Int)) = (bytesL (padJ k x (j + 1))).toArray := by
  rw [List.setIfInBounds_toArray]
  congr 1
  refine List.ext_getElem? fun i => ?_
  by_cases hi : i < 64
  · rw [List.getElem?_set]
    split
    · next h =>
      subst h
      rw [if_pos (by rw [bytesL_len, padJ_len]; exact hj), bytesL_get _ _ (by rw [padJ_len]; exact hj)]
      simp [padJ]
    · next h =>
      rw [bytesL_get _ _ (by rw [padJ_len]; exact hi), bytesL_get _ _ (by rw [padJ_len]; exact hi)]
      simp only [padJ, List.getElem_map, List.getElem_range]
      by_cases h2 : i < j
      · rw [if_pos h2, if_pos (by omega)]
      · rw [if_neg h2, if_neg (by omega)]
  · rw [List.getElem?_eq_none (by rw [List.length_set, bytesL_len, padJ_len]; omega), List.getElem?_eq_none (by rw [bytesL_len, padJ_len]; omega)]
theorem xor_u8 (z : UInt8) (n : Nat) (x : UInt8) (hx : x.toNat = n) : bits .xor .u8 (z.toNat : Int) (n : Int) = ((z ^^^ x).toNat : Int) := by
  rw [u8_xor_nat _ _ (UInt8.toNat_lt z) (by rw [← hx]; exact UInt8.toNat_lt x), UInt8.toNat_xor, hx]

theorem holds_below {w w' : World} {v : Value} {l : List UInt8} (h : Lib.HoldsBytes w v l) (hb : Below w.heap.size w w') : Lib.HoldsBytes w' v l := by
  obtain ⟨p, cap, e, h1, h2⟩ := h
  exact ⟨p, cap, e, h1, fun a ha i x hx => (hb.cell (cell_lt (h2 a ha i x hx))).trans (h2 a ha i x hx)⟩
theorem parts_below {w w' : World} {a : Addr} {vs : List Value} {ls : List (List UInt8)} (h : Lib.PartsAt w a vs ls) (hb : Below w.heap.size w w') : Lib.PartsAt w' a vs ls :=
  ⟨h.1, fun i v hv => (hb.cell (cell_lt (h.2.1 i v hv))).trans (h.2.1 i v hv), fun i v l hv hl => holds_below (h.2.2 i v l hv hl) hb⟩
theorem rb_blk {w : World} {g : Nat} {t : TypeId} {l : List UInt8} (h : Blk w g t (bytesL l).toArray) : RB w (some ⟨g, 0, none⟩) l := by
  intro j hj
  refine ⟨g, 0, rfl, ?_⟩
  rw [Nat.zero_add, h.cell, List.getElem?_toArray, bytesL_get l j hj]
/-- copy(block[:], key): 32 bytes into 64 noughts -/
theorem wpList_copy_key {ops : Array Oper} {rest : List Oper} {o : Oper} {a : Act} {w : World} {Q : Exit → Act → World → Prop} (hgd : o.guard = none) (d s : Operand)
    (ho : o.op = .call { callee := .builtin .copy, args := #[d, s], argTypes := #[31, 31] }) (g : Nat) (Kp : Option Addr) (ck : Nat) (k : List UInt8)
    (hd : a.eval d = .slice (some ⟨g, 0, none⟩) 64 64) (hs : a.eval s = .slice Kp 32 ck) (t : TypeId) (hg : Blk w g t (bytesL (zeros 64)).toArray) (hr : RB w Kp k) (hk : k.length = 32)
    (h : ∀ w1, Blk w1 g t (bytesL (k ++ zeros 32)).toArray → Keep (· ≠ g) w w1 → wpList Tryd.prog ops Q rest (a.put o.dst (goInt 32)) w1) : wpList Tryd.prog ops Q (o :: rest) a w := by
  obtain ⟨b, off, rfl, _, hc⟩ := hr.head (by omega)
  have hl : (bytesL k).length = 32 := by rw [bytesL_len, hk]
  have e : ((bytesL (zeros 64)).toArray.toList.take 0 ++ (bytesL k ++ (bytesL (zeros 64)).toArray.toList.drop (0 + (bytesL k).length))).toArray = (bytesL (k ++ zeros 32)).toArray := by
    rw [hl, bytesL_app]
    rfl
  have e2 : goInt ((bytesL k).length : Int) = goInt 32 := by rw [hl]; rfl
  have hz : (bytesL (zeros 64)).length = 64 := by rw [bytesL_len, zeros_len]
  refine wpList_copy_own hgd d s 31 31 ho 5 Tryd.underlying31 (by kernel_rfl) g 0 64 64 ⟨b, off, none⟩ 32 ck hd hs (bytesL (zeros 64)).toArray t hg (bytesL k) (by rw [hl]; rfl) ?_ (by rw [hl, List.size_toArray, hz]; omega) ?_ ?_
  · intro j v hv
    have hj : j < k.length := by
      rw [← bytesL_len]
      exact (List.getElem?_eq_some_iff.1 hv).1
    rw [bytesL_get k j hj] at hv
    injection hv with hv
    subst hv
    rw [Addr.add_lit]
    exact hc j hj
  · intro v hv
    simp only [bytesL, List.mem_map] at hv
    obtain ⟨x, _, rfl⟩ := hv
    rfl
  · rw [e, e2]
    exact h _ (setRow_heap _ _ _ _ _ _ hg) ⟨rfl, rfl, rfl, by simp [World.setRow], fun i _ hi => setRow_other _ _ _ _ hi⟩
theorem info_sl : (Tryd.prog.info? 31).map (fun i => (i.zero, i.size, i.bytes)) = some (some (.slice none 0 0), 1, 24) := by kernel_rfl
/-- append([][]byte{v0}, parts...) -/
theorem wpList_append_parts {ops : Array Oper} {rest : List Oper} {o : Oper} {a : Act} {w : World} {Q : Exit → Act → World → Prop} (hgd : o.guard = none) (s x : Operand)
    (ho : o.op = .call { callee := .builtin .append, args := #[s, x], argTypes := #[107, 107] }) (b0 : Nat) (v0 : Value) (hs : a.eval s = .slice (some ⟨b0, 0, none⟩) 1 1) (h0 : w.cell? ⟨b0, 0, none⟩ = some v0)
    (b off n c : Nat) (vs : List Value) (hx : a.eval x = .slice (some ⟨b, off, none⟩) n c) (hl : vs.length = n) (hc : ∀ i u, vs[i]? = some u → w.cell? ((⟨b, off, none⟩ : Addr).add i) = some u) (hone : ∀ u ∈ vs, u.oneCell' = true) (h1 : 1 ≤ n) (hn : n ≤ 1000)
    (h : ∀ g cap w', 1 + n ≤ cap → w.heap.size ≤ g → (∀ j u, (v0 :: vs)[j]? = some u → w'.cell? ((⟨g, 0, none⟩ : Addr).add j) = some u) → w.grownBy w' none → wpList Tryd.prog ops Q rest (a.put o.dst (.slice (some ⟨g, 0, none⟩) (1 + n) cap)) w') :
    wpList Tryd.prog ops Q (o :: rest) a w := by
  obtain ⟨i0, hi0, hz0, hz1, hz2⟩ := info_parts info_sl
  refine wpList_append_grows (P := Tryd.prog) w hgd s x 107 ho 31 i0 _ 1 24 Tryd.underlying107 hi0 hz0 hz1 hz2 rfl (by decide) (some ⟨b0, 0, none⟩) 1 1 [v0] hs (fun e => by cases e) rfl ?_ ⟨b, off, none⟩ n c vs hx (by rw [hl, Nat.mul_one]) hc hone (by omega) (by simp only [maxLen]; omega) (by omega) ?_
  · intro bb hbb j u hj
    cases hbb
    obtain rfl : j = 0 := by
      rcases j with _ | j
      · rfl
      · simp at hj
    simp only [List.getElem?_cons_zero] at hj
    cases hj
    rw [Addr.add_lit]
    exact h0
  · intro v' w' hown hg
    rcases hown.2 with ⟨_, hz⟩ | ⟨g, cap, cur, rfl, hb, hgc, hnc, _, _, ht⟩
    · omega
    · refine h g cap w' (by omega) hb (fun j u hj => ?_) hg
      rw [Addr.add_lit, Nat.zero_add, cell_of_row w' g _ cur _ _ hgc]
      have := hj
      rw [show v0 :: vs = [v0] ++ vs from rfl, ← ht, List.getElem?_take] at this
      split at this
      · simpa using this
      · cases this
theorem holds_one {w : World} {v : Value} {l : List UInt8} (h : Lib.HoldsBytes w v l) : v.oneCell' = true := by
  obtain ⟨p, cap, rfl, _⟩ := h
  rfl
theorem parts_nil (w : World) (a : Addr) : Lib.PartsAt w a [] [] := ⟨rfl, fun i v h => by simp at h, fun i v l h => by simp at h⟩
theorem parts_cons {w : World} {a : Addr} {v0 : Value} {l0 : List UInt8} {vs : List Value} {ls : List (List UInt8)} (hc : ∀ j u, (v0 :: vs)[j]? = some u → w.cell? (a.add j) = some u) (h0 : Lib.HoldsBytes w v0 l0)
    (hl : vs.length = ls.length) (h : ∀ (i : Nat) v l, vs[i]? = some v → ls[i]? = some l → Lib.HoldsBytes w v l) : Lib.PartsAt w a (v0 :: vs) (l0 :: ls) := by
  refine ⟨by simp [hl], hc, fun i v l hv hl => ?_⟩
  rcases i with _ | i
  · simp only [List.getElem?_cons_zero] at hv hl
    cases hv
    cases hl
    exact h0
  · simp only [List.getElem?_cons_succ] at hv hl
    exact h i v l hv hl
theorem holds_blk {w : World} {g n : Nat} {t : TypeId} {l : List UInt8} (h : Blk w g t (bytesL l).toArray) (hl : l.length = n) (c : Nat) : Lib.HoldsBytes w (.slice (some ⟨g, 0, none⟩) n c) l := by
  subst hl
  exact rb_holds (rb_blk h)
theorem grown_below {w w' : World} (h : w.grownBy w' none) : Below w.heap.size w w' := ⟨h.os, h.tape, h.output, h.size, fun k hk => h.block k hk (by simp)⟩
end Go.Proofs.YtdkadlifjmmcbaaDoor
