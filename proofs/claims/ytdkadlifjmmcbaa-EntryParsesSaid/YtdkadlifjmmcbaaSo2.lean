/- The walks of keys.compare and keys.Sorted. -/
import Derived.Test.YtdkadlifjmmcbaaSo
import Derived.Deep.RegionHeldLaw
namespace Go.Proofs.Ytdkadlifjmmcbaa
open Go.RowKit

theorem quiet_0 {P : Program} {f : FuncId} {args : Array Value} {w : World} {n : Nat} {v : Value} (h : Calls P f args (w.drewN n) fun e w' => e = .returned v ∧ w.drewN n = w') :
    Calls P f args (w.drewN n) fun e w'' => e = .returned v ∧ ∃ m, w'' = w.drewN m := h.mono fun _ _ ⟨he, hm⟩ => ⟨he, n, hm.symm⟩

set_option maxRecDepth 100000 in
set_option maxHeartbeats 400000 in
theorem kcompare_any (w : World) (l l2 : List UInt8) (hl : l.length = 16) (hl2 : l2.length = 16) :
    Calls Try.prog 52 #[.agg (bytesL l).toArray, .agg (bytesL l2).toArray] w fun e w' => e = .returned (.int .i64 (Lib.compareBytes l l2)) ∧ Below w.heap.size w w' := by
  have hb1 := (Blk.new w 40 (bytesL l).toArray).alloc (.cells (bytesL l2).toArray 40)
  have hb2 := Blk.new (w.alloc (.cells (bytesL l).toArray 40)) 40 (bytesL l2).toArray
  rw [World.size_alloc] at hb2
  have r1 : RB ((w.alloc (.cells (bytesL l).toArray 40)).alloc (.cells (bytesL l2).toArray 40)) (some ⟨w.heap.size, 0, none⟩) l := fun j hj => ⟨_, _, rfl, by rw [hb1.cell]; simp [bytesL, hj]⟩
  have r2 : RB ((w.alloc (.cells (bytesL l).toArray 40)).alloc (.cells (bytesL l2).toArray 40)) (some ⟨w.heap.size + 1, 0, none⟩) l2 := fun j hj => ⟨_, _, rfl, by rw [hb2.cell]; simp [bytesL, hj]⟩
  have hc := fun m => bcompare_any (((w.alloc (.cells (bytesL l).toArray 40)).alloc (.cells (bytesL l2).toArray 40)).drewN m) _ _ 16 16 16 16 l l2 hl r1 hl2 r2
  have HC := Lib.hid hc
  clear hc hb1 hb2 r1 r2
  go_enter Try.func52, Try.ntmps52
  go_wp2_with fail
  go_quiet ((go_at_call 54; exact quiet_0 (HC.out _)))
  go_wp2
  go_returns
  exact ⟨rfl, by (repeat (refine bel_drewN ?_ _)); go_grown⟩

end Go.Proofs.Ytdkadlifjmmcbaa
