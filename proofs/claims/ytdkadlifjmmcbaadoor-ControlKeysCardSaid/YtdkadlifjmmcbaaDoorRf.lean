/- The walks of the reference's packing: Num, text. -/
import Derived.Test.YtdkadlifjmmcbaaDoorPo2
namespace Go.Proofs.YtdkadlifjmmcbaaDoor
open Go.RowKit

def Fresh (B : Nat) (A : Option Addr) : Prop := ∀ r, blkOf A = some r → B ≤ r
theorem Fresh.none (B : Nat) : Fresh B none := fun r h => by cases h
theorem Fresh.app {B : Nat} {A A' : Option Addr} {m : Nat} (h : Fresh B A) (hb : blkOf A' = blkOf A ∨ blkOf A' = some m) (hm : B ≤ m) : Fresh B A' := by
  intro r hr
  rcases hb with e | e
  · exact h r (by rw [← e]; exact hr)
  · rw [e] at hr
    cases hr
    exact hm
theorem OwnB.below {B : Nat} {w w' : World} {A : Option Addr} {n c : Nat} {acc : List UInt8} (h : OwnB w A n c acc) (hb : Below B w w') (hB : ∀ r, blkOf A = some r → r < B) : OwnB w' A n c acc :=
  h.keep fun r hr => hb.block r (hB r hr)
theorem OwnB.next {w w' : World} {A : Option Addr} {n c : Nat} {acc : List UInt8} (h : OwnB w A n c acc) (hb : Below w.heap.size w w') : OwnB w' A n c acc := h.below hb fun _ hr => h.lt hr
theorem OwnB.alloc {w : World} {A : Option Addr} {n c : Nat} {acc : List UInt8} (h : OwnB w A n c acc) (o : Obj) : OwnB (w.alloc o) A n c acc := h.keep fun r hr => Below.heap_alloc w o r (h.lt hr)
theorem bel_app {B : Nat} {w0 w w' : World} {A : Option Addr} (h : Below B w0 w) (hg : w.grownBy w' (blkOf A)) (hB : B ≤ w.heap.size) (hf : Fresh B A) : Below B w0 w' := h.grown hg hB hf

theorem quo128 (y : Nat) (h : y < 18446744073709551616) : IntKind.u64.wrap ((y : Int).tdiv 128) = ((y / 128 : Nat) : Int) := by
  rw [IntWalk.u64_quo _ _ (by omega)]
  rfl

theorem mod128 (y : Nat) : Value.int .u8 ((y : Int) % 128 + 128) = .int .u8 ((UInt8.ofNat (y % 128 + 128)).toNat : Int) := by
  rw [UInt8.toNat_ofNat', Nat.mod_eq_of_lt (by omega)]
  rfl

set_option maxRecDepth 100000 in
set_option maxHeartbeats 400000 in
theorem rnum_any (x : Nat) (w : World) (hx : x < 18446744073709551616) : Calls Tryd.prog 34 #[.int .u64 x] w (RetB (numB x) (fun v => v) w) := by
  have hl0 := numB_len64 hx
  have HX := Lib.hid hx
  clear hx
  go_enter Tryd.func34, Tryd.ntmps34
  go_wp2
  go_loopw [0, 3] (fun v o wr => ∃ (y : Nat) (acc : List UInt8) (A : Option Addr) (c : Nat), y ≤ x ∧ acc.length + (numB y).length ≤ 10 ∧ v = .int .u64 y ∧ o = .slice A acc.length c ∧ acc ++ numB y = numB x ∧
      OwnB wr A acc.length c acc ∧ Fresh w.heap.size A ∧ Below w.heap.size w wr) (fun v _ _ => (intOf v).toNat)
  case atStart => exact ⟨x, [], none, 0, Nat.le_refl _, by simpa using hl0, rfl, rfl, rfl, OwnB.nil _, Fresh.none _, Below.refl _ _⟩
  case round =>
    obtain ⟨y, acc, A, c, hy, hlen, rfl, rfl, hacc, hown, hfr, hbel⟩ := hrel
    have HA := Lib.hid hacc
    have HL := Lib.hid hlen
    have hq : y ≤ 18446744073709551615 := by have := HX.out; omega
    have HY := Lib.hid hy
    clear hacc hlen hl0 hy
    by_cases hlt : 128 ≤ y
    · go_wp2_with (at_builtin; refine wpList_app rfl (.tmp 7) (.tmp 12) rfl _ A acc.length c acc rfl (hown.alloc _) _ 1 1 [UInt8.ofNat (y % 128 + 128)] rfl rfl (RB.one (by rw [mod128])) (by have := HL.out; omega) ?_; intro A' c' w1 hown1 hg1 hb1)
      have hsz := hbel.size
      have hbel1 : Below w.heap.size w w1 := bel_app (hbel.alloc hsz _) hg1 (by simp; omega) hfr
      have hfr1 : Fresh w.heap.size A' := hfr.app hb1 (by simp; omega)
      clear hg1 hb1 hown hfr hbel hsz
      go_wp2
      go_roundw
      case rel =>
        have e1 := HA.out
        have e2 := HL.out
        rw [numB_big hlt] at e1 e2
        refine ⟨y / 128, acc ++ [UInt8.ofNat (y % 128 + 128)], A', c', by have := HY.out; omega, ?_, by go_num, by simp, ?_, by simpa using hown1, hfr1, hbel1⟩
        · simp only [List.length_append, List.length_cons, List.length_nil] at e2 ⊢
          omega
        · rw [← e1, List.append_assoc]
          rfl
      case measure => simp [intOf]; omega
    · go_wp2_with (at_builtin; refine wpList_app rfl (.tmp 16) (.tmp 19) rfl _ A acc.length c acc rfl (hown.alloc _) _ 1 1 [UInt8.ofNat y] rfl rfl (RB.one (by rw [UInt8.toNat_ofNat', Nat.mod_eq_of_lt (by omega)])) (by have := HL.out; omega) ?_; intro A' c' w1 hown1 hg1 hb1)
      have hsz := hbel.size
      have hbel1 : Below w.heap.size w w1 := bel_app (hbel.alloc hsz _) hg1 (by simp; omega) hfr
      have hfr1 : Fresh w.heap.size A' := hfr.app hb1 (by simp; omega)
      have e1 := HA.out
      rw [numB_small (by omega)] at e1
      have E1 := Lib.hid e1
      clear e1 hg1 hb1 hown hfr hbel hsz
      go_ret
      rw [← E1.out]
      exact ⟨A', c', by simp, by simpa using hown1, hfr1, hbel1⟩

theorem blk_app {w w' : World} {g : Nat} {t : TypeId} {cs : Array Value} {A : Option Addr} {n c : Nat} {acc : List UInt8} (hb : Blk w g t cs) (ht : t ≠ 5) (ho : OwnB w A n c acc) (hg : w.grownBy w' (blkOf A)) : Blk w' g t cs :=
  (hg.block g hb.lt (fun e => ho.ne hb ht e.symm rfl)).trans hb
theorem Blk.next {w w' : World} {g : Nat} {t : TypeId} {cs : Array Value} (h : Blk w g t cs) (hb : Below w.heap.size w w') : Blk w' g t cs := h.below hb h.lt

end Go.Proofs.YtdkadlifjmmcbaaDoor
