/- The walk of hash.putBig for four bytes. -/
import Derived.Test.YtdkadlifjmmcbaaDoorSh5
namespace Go.Proofs.YtdkadlifjmmcbaaDoor
open Go.RowKit
set_option linter.unusedSimpArgs false
set_option linter.unusedVariables false

theorem set4 (p q : List UInt8) (y0 y1 y2 y3 z0 z1 z2 z3 : UInt8) (o : Nat) (hp : p.length = o) :
    ((((bytesL (p ++ y0 :: y1 :: y2 :: y3 :: q)).toArray.setIfInBounds o (.int .u8 (z0.toNat : Int))).setIfInBounds (o + 1) (.int .u8 (z1.toNat : Int))).setIfInBounds (o + 2) (.int .u8 (z2.toNat : Int))).setIfInBounds (o + 3) (.int .u8 (z3.toNat : Int)) = (bytesL (p ++ z0 :: z1 :: z2 :: z3 :: q)).toArray := by
  subst hp
  have e : ∀ r : List UInt8, bytesL (p ++ r) = bytesL p ++ bytesL r := fun r => bytesL_app p r
  have hl : (bytesL p).length = p.length := bytesL_len p
  simp only [List.setIfInBounds_toArray, e]
  rw [List.set_append_right _ _ (by omega), List.set_append_right _ _ (by omega), List.set_append_right _ _ (by omega), List.set_append_right _ _ (by omega), hl]
  simp [bytesL]

set_option maxRecDepth 100000 in
set_option maxHeartbeats 1000000 in
theorem putbig_any (g o c : Nat) (t : TypeId) (p q : List UInt8) (y0 y1 y2 y3 : UInt8) (x : UInt32) (w : World) (hp : p.length = o) (hB : Blk w g t (bytesL (p ++ y0 :: y1 :: y2 :: y3 :: q)).toArray) (hc : 4 ≤ c) :
    Calls Tryd.prog 73 #[.slice (some ⟨g, o, none⟩) 4 c, .int .u64 (wN x : Int)] w fun e w' => e = .returned (.tuple #[]) ∧ Blk w' g t (bytesL (p ++ (bytes4 x ++ q))).toArray ∧ Keep (· ≠ g) w w' := by
  have hx := wN_lt x
  have h4 := set4 p q y0 y1 y2 y3 (UInt8.ofNat (x.toNat / 16777216)) (UInt8.ofNat (x.toNat / 65536)) (UInt8.ofNat (x.toNat / 256)) (UInt8.ofNat x.toNat) o hp
  have hb4 : p ++ (bytes4 x ++ q) = p ++ UInt8.ofNat (x.toNat / 16777216) :: UInt8.ofNat (x.toNat / 65536) :: UInt8.ofNat (x.toNat / 256) :: UInt8.ofNat x.toNat :: q := rfl
  rw [← hb4] at h4
  have hcell : ∀ j, j < 4 → ∃ y : UInt8, (bytesL (p ++ y0 :: y1 :: y2 :: y3 :: q))[o + j]? = some (.int .u8 (y.toNat : Int)) := by
    intro j hj
    have hlen : o + j < (p ++ y0 :: y1 :: y2 :: y3 :: q).length := by simp; omega
    exact ⟨_, bytesL_get _ _ hlen⟩
  generalize bytesL (p ++ y0 :: y1 :: y2 :: y3 :: q) = cs at *
  generalize bytesL (p ++ (bytes4 x ++ q)) = ds at *
  have e0 : ((UInt8.ofNat (x.toNat / 16777216)).toNat : Int) = (wN x : Int) / 16777216 := by unfold wN at hx ⊢; simp; omega
  have e1 : ((UInt8.ofNat (x.toNat / 65536)).toNat : Int) = (wN x : Int) / 65536 % 256 := by unfold wN; simp
  have e2 : ((UInt8.ofNat (x.toNat / 256)).toNat : Int) = (wN x : Int) / 256 % 256 := by unfold wN; simp
  have e3 : ((UInt8.ofNat x.toNat).toNat : Int) = (wN x : Int) % 256 := by unfold wN; simp
  rw [e0, e1, e2, e3] at h4
  generalize wN x = m at *
  have H4 := Lib.hid h4
  have HB0 := Lib.hid hB
  have HK0 := Lib.hid (Keep.refl (· ≠ g) w)
  have hsz := cs.size_toArray
  obtain ⟨z0, k0⟩ := hcell 0 (by omega)
  obtain ⟨z1, k1⟩ := hcell 1 (by omega)
  obtain ⟨z2, k2⟩ := hcell 2 (by omega)
  obtain ⟨z3, k3⟩ := hcell 3 (by omega)
  have N0 := Lib.hid k0
  have N1 := Lib.hid k1
  have N2 := Lib.hid k2
  have N3 := Lib.hid k3
  clear h4 hB hcell hsz k0 k1 k2 k3 e0 e1 e2 e3 hb4 hp
  go_enter Tryd.func73, Tryd.ntmps73
  go_wp2_with fail
  refine wp_loop_rounds 5 ?_
  rw [rounds_succ]
  have c0 : (w).cell? ⟨g, o, none⟩ = some (.int .u8 (z0.toNat : Int)) := by rw [HB0.out.cell]; simpa using N0.out
  have f0 := HB0.out.free (o)
  have HB1 := Lib.hid (show Blk ((w).setCell ⟨g, o, none⟩ (.int .u8 ((m : Int) / 16777216))) g t ((cs.toArray).setIfInBounds (o) (.int .u8 ((m : Int) / 16777216))) from HB0.out.set (o) _)
  have HK1 := Lib.hid (show Keep (· ≠ g) w ((w).setCell ⟨g, o, none⟩ (.int .u8 ((m : Int) / 16777216))) from HK0.out.setCell (fun h => h rfl) _)
  go_wp2_with fail
  clear c0 f0
  generalize ((w).setCell ⟨g, o, none⟩ (.int .u8 ((m : Int) / 16777216))) = x1 at *
  rw [rounds_succ]
  have c1 : (x1).cell? ⟨g, o + 1, none⟩ = some (.int .u8 (z1.toNat : Int)) := by rw [HB1.out.cell]; simpa using N1.out
  have f1 := HB1.out.free (o + 1)
  have HB2 := Lib.hid (show Blk ((x1).setCell ⟨g, o + 1, none⟩ (.int .u8 ((m : Int) / 65536 % 256))) g t ((((cs.toArray).setIfInBounds (o) (.int .u8 ((m : Int) / 16777216)))).setIfInBounds (o + 1) (.int .u8 ((m : Int) / 65536 % 256))) from HB1.out.set (o + 1) _)
  have HK2 := Lib.hid (show Keep (· ≠ g) w ((x1).setCell ⟨g, o + 1, none⟩ (.int .u8 ((m : Int) / 65536 % 256))) from HK1.out.setCell (fun h => h rfl) _)
  go_wp2_with fail
  clear c1 f1
  generalize ((x1).setCell ⟨g, o + 1, none⟩ (.int .u8 ((m : Int) / 65536 % 256))) = x2 at *
  rw [rounds_succ]
  have c2 : (x2).cell? ⟨g, o + 2, none⟩ = some (.int .u8 (z2.toNat : Int)) := by rw [HB2.out.cell]; simpa using N2.out
  have f2 := HB2.out.free (o + 2)
  have HB3 := Lib.hid (show Blk ((x2).setCell ⟨g, o + 2, none⟩ (.int .u8 ((m : Int) / 256 % 256))) g t ((((((cs.toArray).setIfInBounds (o) (.int .u8 ((m : Int) / 16777216)))).setIfInBounds (o + 1) (.int .u8 ((m : Int) / 65536 % 256)))).setIfInBounds (o + 2) (.int .u8 ((m : Int) / 256 % 256))) from HB2.out.set (o + 2) _)
  have HK3 := Lib.hid (show Keep (· ≠ g) w ((x2).setCell ⟨g, o + 2, none⟩ (.int .u8 ((m : Int) / 256 % 256))) from HK2.out.setCell (fun h => h rfl) _)
  go_wp2_with fail
  clear c2 f2
  generalize ((x2).setCell ⟨g, o + 2, none⟩ (.int .u8 ((m : Int) / 256 % 256))) = x3 at *
  rw [rounds_succ]
  have c3 : (x3).cell? ⟨g, o + 3, none⟩ = some (.int .u8 (z3.toNat : Int)) := by rw [HB3.out.cell]; simpa using N3.out
  have f3 := HB3.out.free (o + 3)
  have HB4 := Lib.hid (show Blk ((x3).setCell ⟨g, o + 3, none⟩ (.int .u8 ((m : Int) % 256))) g t ((((((((cs.toArray).setIfInBounds (o) (.int .u8 ((m : Int) / 16777216)))).setIfInBounds (o + 1) (.int .u8 ((m : Int) / 65536 % 256)))).setIfInBounds (o + 2) (.int .u8 ((m : Int) / 256 % 256)))).setIfInBounds (o + 3) (.int .u8 ((m : Int) % 256))) from HB3.out.set (o + 3) _)
  have HK4 := Lib.hid (show Keep (· ≠ g) w ((x3).setCell ⟨g, o + 3, none⟩ (.int .u8 ((m : Int) % 256))) from HK3.out.setCell (fun h => h rfl) _)
  go_wp2_with fail
  clear c3 f3
  generalize ((x3).setCell ⟨g, o + 3, none⟩ (.int .u8 ((m : Int) % 256))) = x4 at *
  rw [rounds_succ]
  go_wp2
  go_end0
  refine ⟨rfl, ?_, HK4.out⟩
  have e := HB4.out
  rw [H4.out] at e
  exact e

end Go.Proofs.YtdkadlifjmmcbaaDoor
