/- The walks of layer 5's Out. -/
import Derived.Test.YtdkadlifjmmcbaaDoorMem
import Derived.Test.YtdkadlifjmmcbaaDoorPkm
namespace Go.Proofs.YtdkadlifjmmcbaaDoor
open Go.RowKit

/-- an Out at block g: what it holds, and whether it was too long; S: the blocks that its calls leave alone -/
structure OutIs (S : Nat → Prop) (w : World) (g : Nat) (acc : List UInt8) (long : Bool) : Prop where
  lt : ∀ i, S i → i < w.heap.size
  ng : ¬ S g
  ex : ∃ A c, Blk w g 67 #[.slice A acc.length c, .bool long] ∧ OwnB w A acc.length c acc ∧ ∀ r, blkOf A = some r → ¬ S r

def RetOut (S : Nat → Prop) (w : World) (g : Nat) (acc : List UInt8) (long : Bool) (e : Ending) (w' : World) : Prop :=
  e = .returned (.tuple #[]) ∧ OutIs S w' g acc long ∧ Keep S w w'

set_option maxHeartbeats 400000 in
theorem put_any (S : Nat → Prop) (w : World) (g : Nat) (acc : List UInt8) (long : Bool) (h : OutIs S w g acc long) (A2 : Option Addr) (m c2 : Nat) (l : List UInt8) (hl : l.length = m) (hr : RB w A2 l)
    (hb : acc.length + m ≤ 140737488355328) :
    Calls Tryd.prog 62 #[.pointer (some ⟨g, 0, none⟩), .slice A2 m c2] w (RetOut S w g (acc ++ l) long) := by
  obtain ⟨hlt, hng, A, c, hblk, hown, hS⟩ := h
  have hc0 : w.cell? ⟨g, 0, none⟩ = some (.slice A acc.length c) := hblk.cell 0
  go_enter Tryd.func62, Tryd.ntmps62
  go_wp2_with (at_builtin; refine wpList_app rfl (.tmp 8) (.tmp 9) rfl w A acc.length c acc rfl hown A2 m c2 l rfl hl hr hb ?_; intro A' c' w1 hown1 hg1 hb1; have hne : some g ≠ blkOf A := fun e => hown.ne hblk (by decide) e.symm rfl; have hblk1 : Blk w1 g 67 #[.slice A acc.length c, .bool long] := (hg1.block g hblk.lt hne).trans hblk; have hc1 := hblk1.cell 0; have hf1 := hblk1.free 0)
  go_end0
  have hk : Keep S w (w1.setCell ⟨g, 0, none⟩ (.slice A' (acc.length + m) c')) := (Keep.of_grown hg1 hS).setCell hng _
  refine ⟨rfl, ⟨fun i hi => Nat.lt_of_lt_of_le (hlt i hi) hk.size, hng, A', c', ?_, ?_, ?_⟩, hk⟩
  · rw [List.length_append, hl]
    exact hblk1.set 0 _
  · rw [List.length_append, hl]
    refine hown1.keep fun r hr => Below.heap_setCell _ _ _ _ ?_
    exact hown1.ne hblk1 (by decide) hr
  · intro r hr
    rcases hb1 with e | e
    · exact hS r (by rw [← e]; exact hr)
    · rw [e] at hr
      injection hr with hr
      intro hs
      have := hlt r hs
      omega

theorem OutIs.alloc {S : Nat → Prop} {w : World} {g : Nat} {acc : List UInt8} {long : Bool} (h : OutIs S w g acc long) (o : Obj) : OutIs S (w.alloc o) g acc long := by
  obtain ⟨hlt, hng, A, c, hblk, hown, hS⟩ := h
  exact ⟨fun i hi => by have := hlt i hi; simp; omega, hng, A, c, hblk.alloc o, hown.keep fun r hr => Below.heap_alloc w o r (hown.lt hr), hS⟩

/-- a new row of one byte -/
theorem RB.one {w : World} {t : TypeId} {u : Value} {x : UInt8} (hu : u = .int .u8 (x.toNat : Int)) : RB (w.alloc (.cells #[u] t)) (some ⟨w.heap.size, 0, none⟩) [x] := by
  intro j hj
  have : j = 0 := by simp at hj; omega
  subst this
  exact ⟨_, _, rfl, by rw [(Blk.new w t #[u]).cell]; simp [hu]⟩

theorem or128 (y : Nat) : Value.int .u8 (bits .or .u8 ((y : Int) % 256) 128) = .int .u8 ((UInt8.ofNat (y % 128 + 128)).toNat : Int) := by
  have e1 : (y : Int) % 256 = ((y % 256 : Nat) : Int) := rfl
  rw [e1, show (128 : Int) = ((128 : Nat) : Int) from rfl, u8_or_nat _ _ (by omega) (by omega), UInt8.toNat_ofNat']
  congr 2
  have h : ∀ z, z < 256 → z ||| 128 = (z % 128 + 128) % 256 := by decide +kernel
  rw [h _ (by omega)]
  omega

set_option maxRecDepth 100000 in
set_option maxHeartbeats 400000 in
theorem onum_any (S : Nat → Prop) (w : World) (g : Nat) (acc : List UInt8) (long : Bool) (h : OutIs S w g acc long) (x : Nat) (hx : x < 18446744073709551616) (hb : acc.length ≤ 70000000000000) :
    Calls Tryd.prog 36 #[.pointer (some ⟨g, 0, none⟩), .int .u64 x] w (RetOut S w g (acc ++ numB x) long) := by
  have hl0 := numB_len64 hx
  clear hx
  go_enter Tryd.func36, Tryd.ntmps36
  go_wp2
  go_loopw [1] (fun v wr => ∃ (y : Nat) (acc' : List UInt8), y ≤ x ∧ acc'.length + (numB y).length ≤ acc.length + 10 ∧ v = .int .u64 y ∧ acc' ++ numB y = acc ++ numB x ∧ OutIs S wr g acc' long ∧ Keep S w wr) (fun v _ => (intOf v).toNat)
  case atStart => exact ⟨x, acc, Nat.le_refl _, by omega, rfl, rfl, h, Keep.refl _ _⟩
  case round =>
    obtain ⟨y, acc', hy, hlen, rfl, hacc, hout, hk⟩ := hrel
    have HA := Lib.hid hacc
    have HL := Lib.hid hlen
    clear hacc hlen
    by_cases hlt : 128 ≤ y
    · go_wp2_with fail
      refine (put_any S _ g acc' long (hout.alloc _) _ _ _ [UInt8.ofNat (y % 128 + 128)] rfl (RB.one (by rw [or128])) (by have := HL.out; simp; omega)).mono ?_
      rintro e w1 ⟨rfl, hout1, hk1⟩
      have hk2 : Keep S w w1 := (hk.alloc _).trans hk1
      clear hk1 hout hk
      go_wp2
      go_roundw
      case rel =>
        have e1 := HA.out
        have e2 := HL.out
        rw [numB_big hlt] at e1 e2
        refine ⟨y / 128, acc' ++ [UInt8.ofNat (y % 128 + 128)], by omega, ?_, by go_num, ?_, hout1, hk2⟩
        · simp only [List.length_append, List.length_cons, List.length_nil] at e2 ⊢
          omega
        · rw [← e1, List.append_assoc]
          rfl
      case measure => simp [intOf]; omega
    · go_wp2_with fail
      refine (put_any S _ g acc' long (hout.alloc _) _ _ _ [UInt8.ofNat y] rfl (RB.one (by rw [UInt8.toNat_ofNat', Nat.mod_eq_of_lt (by omega)])) (by have := HL.out; simp; omega)).mono ?_
      rintro e w1 ⟨rfl, hout1, hk1⟩
      have hk2 : Keep S w w1 := (hk.alloc _).trans hk1
      clear hk1 hout hk
      go_wp2
      go_end0
      have e1 := HA.out
      rw [numB_small (by omega)] at e1
      exact ⟨rfl, by rw [← e1]; exact hout1, hk2⟩

end Go.Proofs.YtdkadlifjmmcbaaDoor
