/- Small laws for the walk of the reference's Sum. -/
import Derived.Test.YtdkadlifjmmcbaaDoorSh8
namespace Go.Proofs.YtdkadlifjmmcbaaDoor
open Go.RowKit
set_option linter.unusedSimpArgs false
set_option linter.unusedVariables false

theorem wrap_small (x : Int) (h0 : 0 ≤ x) (h1 : x < 9223372036854775808) : IntKind.i64.wrap x = x := by
  rw [IntKind.wrap_i64]
  omega
theorem wrap_nat (n d : Nat) (h : n + d < 9223372036854775808) (k : Nat) (e : k = n + d) : IntKind.i64.wrap ((n : Int) + (d : Int)) = (k : Int) := by
  subst e
  rw [wrap_small _ (by omega) (by omega)]
  omega
theorem ofNat_wN (n : Nat) (h : n < 4294967296) : wN (UInt32.ofNat n) = n := by
  unfold wN
  rw [UInt32.toNat_ofNat', Nat.mod_eq_of_lt h]
theorem wrap_sub (n d k : Nat) (e : n = k + d) (h : n < 9223372036854775808) : IntKind.i64.wrap ((n : Int) - (d : Int)) = (k : Int) := by
  subst e
  rw [wrap_small _ (by omega) (by omega)]
  omega
theorem r_mod (x : UInt32) : ((wN x : Int) % 4294967296) = (wN x : Int) := by
  have := wN_lt x
  omega
theorem rb_far {w : World} {bb oo : Nat} {l : List UInt8} (h : RB w (some ⟨bb, oo, none⟩) l) {p : Addr} (hp : p.block ≠ bb) (u : Value) : RB (w.setCell p u) (some ⟨bb, oo, none⟩) l := by
  intro j hj
  obtain ⟨b, o, e, hc⟩ := h j hj
  cases e
  exact ⟨_, _, rfl, (World.cell?_setCell_far w p _ u hp).trans hc⟩
theorem r_nsub (x : UInt32) : (4294967295 - (wN x : Int)) = (wN (~~~x) : Int) := by
  have h := wN_lt x
  unfold wN at *
  rw [UInt32.toNat_not]
  simp only [UInt32.size]
  omega
/-- the reference's table as it lies -/
def RTabOK (w : World) : Prop := ∀ j, j < 64 → w.cell? ⟨0, j, none⟩ = some (.int .u32 (wN (shaK.getD j 0) : Int))
theorem RTabOK.below {w w' : World} (h : RTabOK w) (hb : Below w.heap.size w w') : RTabOK w' := fun j hj => (hb.cell (cell_lt (h j hj))).trans (h j hj)
theorem rb_row {w : World} {bb oo g : Nat} {l : List UInt8} (h : RB w (some ⟨bb, oo, none⟩) l) (hp : bb ≠ g) (cs : Array Value) : RB (w.setRow g cs) (some ⟨bb, oo, none⟩) l := by
  intro j hj
  obtain ⟨b, o, e, hc⟩ := h j hj
  cases e
  refine ⟨_, _, rfl, ?_⟩
  rw [← hc]
  unfold World.cell?
  rw [setRow_other _ _ _ _ hp]
theorem fill_set (H : List UInt8) (i : Nat) (hH : H.length = 32) (h : i < 32) (v : Value) (hv : v = .int .u8 ((H.getD i 0).toNat : Int)) :
    (bytesL (H.take i ++ zeros (32 - i))).toArray.setIfInBounds i v = (bytesL (H.take (i + 1) ++ zeros (32 - (i + 1)))).toArray := by
  have e1 : zeros (32 - i) = 0 :: zeros (32 - (i + 1)) := by
    unfold zeros
    rw [show 32 - i = (32 - (i + 1)) + 1 from by omega, List.replicate_succ]
  have e2 : H.take (i + 1) = H.take i ++ [H.getD i 0] := by
    rw [List.take_succ_eq_append_getElem (by omega)]
    simp [hH, h]
  have hl : (bytesL (H.take i)).length = i := by rw [bytesL_len]; simp; omega
  rw [e1, e2, List.setIfInBounds_toArray, bytesL_app, bytesL_app, bytesL_app]
  congr 1
  rw [List.set_append_right _ _ (by omega), hl, Nat.sub_self, hv, List.append_assoc]
  rfl
theorem sha_byte (s : St) (x y : Nat) (hx : x < 8) (hy : y < 4) : ((s.list.map bytes4).flatten).getD (4 * x + y) 0 = UInt8.ofNat ((s.list.getD x 0).toNat / 256 ^ (3 - y)) := by
  have h8 : x = 0 ∨ x = 1 ∨ x = 2 ∨ x = 3 ∨ x = 4 ∨ x = 5 ∨ x = 6 ∨ x = 7 := by omega
  have h4 : y = 0 ∨ y = 1 ∨ y = 2 ∨ y = 3 := by omega
  rcases h8 with rfl | rfl | rfl | rfl | rfl | rfl | rfl | rfl <;> rcases h4 with rfl | rfl | rfl | rfl <;> (first | rfl | (show UInt8.ofNat _ = UInt8.ofNat (_ / 1); rw [Nat.div_one]; rfl))
theorem st_cell {w : World} {g : Nat} {t : TypeId} {s : St} (h : Blk w g t (stA s)) (x : Nat) (hx : x < 8) : w.cell? ⟨g, x, none⟩ = some (.int .u32 (wN (s.list.getD x 0) : Int)) := by
  rw [h.cell]
  have h8 : x = 0 ∨ x = 1 ∨ x = 2 ∨ x = 3 ∨ x = 4 ∨ x = 5 ∨ x = 6 ∨ x = 7 := by omega
  rcases h8 with rfl | rfl | rfl | rfl | rfl | rfl | rfl | rfl <;> rfl
theorem stA_size (s r : St) : (stA s).size = (stA r).size := rfl
theorem stA_info (s : St) : (Tryd.prog.info? 81).map (·.size) = some (stA s).size := by kernel_rfl
end Go.Proofs.YtdkadlifjmmcbaaDoor
