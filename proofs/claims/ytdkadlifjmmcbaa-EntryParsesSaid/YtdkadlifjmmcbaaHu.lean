/- A header in a block, one field written anew: the block is the turned header. -/
import Derived.Test.YtdkadlifjmmcbaaAr
namespace Go.Proofs.Ytdkadlifjmmcbaa
open Go.RowKit

theorem set_skip {a b : List Value} {k i : Nat} (v : Value) (h : a.length = k) (hi : k ≤ i) : (a ++ b).set i v = a ++ b.set (i - k) v := by
  rw [List.set_append_right _ _ (by omega), h]
theorem laid_skip {a b : List Value} {k o : Nat} {s : List UInt8} (h : a.length = k) (hi : k ≤ o) : laidB (a ++ b) o s = a ++ laidB b (o - k) s := by
  unfold laidB
  rw [List.take_append, List.drop_append, List.take_of_length_le (by omega), List.drop_of_length_le (by omega), h, List.nil_append, List.append_assoc]
  congr 4
  omega
theorem laid_here {p s : List UInt8} {b : List Value} (h : s.length = p.length) : laidB (bytesL p ++ b) 0 s = bytesL s ++ b := by
  unfold laidB
  rw [List.take_zero, List.nil_append, Nat.zero_add, bytesL_len, h, ← bytesL_len p, List.drop_left]

section
variable {h : Hdr} (o : h.ok)
include o
theorem Hdr.set_wr (x : Int) : h.cells.set 0 (.int .i64 x) = { h with wr := x }.cells := by
  have := o.pv
  rfl
theorem Hdr.set_sq (x : Nat) : h.cells.set 1 (.int .u64 x) = { h with sq := x }.cells := by
  have := o.pv
  rfl
theorem Hdr.lay_pv {s : List UInt8} (hs : s.length = 32) : laidB h.cells 2 s = { h with pv := s }.cells := by
  unfold Hdr.cells
  rw [laid_skip (k := 2) rfl (by omega), show 2 - 2 = 0 from rfl, laid_here (by rw [hs, o.pv])]
theorem Hdr.set_ep (x : Int) : h.cells.set 34 (.int .i64 x) = { h with ep := x }.cells := by
  unfold Hdr.cells
  rw [set_skip (k := 2) _ rfl (by omega), set_skip (k := 32) _ (by rw [bytesL_len, o.pv]) (by omega)]; rfl
theorem Hdr.set_ct (x : Bool) : h.cells.set 35 (.bool x) = { h with ct := x }.cells := by
  unfold Hdr.cells
  rw [set_skip (k := 2) _ rfl (by omega), set_skip (k := 32) _ (by rw [bytesL_len, o.pv]) (by omega)]; rfl
theorem Hdr.set_tm (x : Nat) : h.cells.set 36 (.int .u64 x) = { h with tm := x }.cells := by
  unfold Hdr.cells
  rw [set_skip (k := 2) _ rfl (by omega), set_skip (k := 32) _ (by rw [bytesL_len, o.pv]) (by omega)]; rfl
theorem Hdr.lay_it {s : List UInt8} (hs : s.length = 16) : laidB h.cells 37 s = { h with it := s }.cells := by
  unfold Hdr.cells
  rw [laid_skip (k := 2) rfl (by omega), laid_skip (k := 32) (by rw [bytesL_len, o.pv]) (by omega), laid_skip (k := 3) rfl (by omega), show 37 - 2 - 32 - 3 = 0 from rfl, laid_here (by rw [hs, o.it])]
theorem Hdr.set_toks (A : Option Addr) (n c : Nat) : h.cells.set 53 (.slice A n c) = { h with A := A, n := n, c := c }.cells := by
  unfold Hdr.cells
  rw [set_skip (k := 2) _ rfl (by omega), set_skip (k := 32) _ (by rw [bytesL_len, o.pv]) (by omega), set_skip (k := 3) _ rfl (by omega), set_skip (k := 16) _ (by rw [bytesL_len, o.it]) (by omega)]; rfl
theorem Hdr.set_kn (i : Nat) (hi : i < 6) (x : Nat) : h.cells.set (54 + i) (.int .u64 x) = { h with kn := h.kn.set i x }.cells := by
  unfold Hdr.cells
  rw [set_skip (k := 2) _ rfl (by omega), set_skip (k := 32) _ (by rw [bytesL_len, o.pv]) (by omega), set_skip (k := 3) _ rfl (by omega), set_skip (k := 16) _ (by rw [bytesL_len, o.it]) (by omega), set_skip (k := 1) _ rfl (by omega),
    List.set_append_left _ _ (by rw [List.length_map, o.kn]; omega), show 54 + i - 2 - 32 - 3 - 16 - 1 = i from by omega, List.map_set]
theorem Hdr.lay_sm {s : List UInt8} (hs : s.length = 32) : laidB h.cells 60 s = { h with sm := s }.cells := by
  unfold Hdr.cells
  rw [laid_skip (k := 2) rfl (by omega), laid_skip (k := 32) (by rw [bytesL_len, o.pv]) (by omega), laid_skip (k := 3) rfl (by omega), laid_skip (k := 16) (by rw [bytesL_len, o.it]) (by omega), laid_skip (k := 1) rfl (by omega),
    laid_skip (k := 6) (by rw [List.length_map, o.kn]) (by omega), show 60 - 2 - 32 - 3 - 16 - 1 - 6 = 0 from rfl, laid_here (by rw [hs, o.sm])]
theorem Hdr.set_sz (x : Int) : h.cells.set 92 (.int .i64 x) = { h with sz := x }.cells := by
  unfold Hdr.cells
  rw [set_skip (k := 2) _ rfl (by omega), set_skip (k := 32) _ (by rw [bytesL_len, o.pv]) (by omega), set_skip (k := 3) _ rfl (by omega), set_skip (k := 16) _ (by rw [bytesL_len, o.it]) (by omega), set_skip (k := 1) _ rfl (by omega),
    set_skip (k := 6) _ (by rw [List.length_map, o.kn]) (by omega), set_skip (k := 32) _ (by rw [bytesL_len, o.sm]) (by omega)]; rfl
theorem Hdr.lay_cd {s : List UInt8} (hs : s.length = 32) : laidB h.cells 93 s = { h with cd := s }.cells := by
  unfold Hdr.cells
  rw [laid_skip (k := 2) rfl (by omega), laid_skip (k := 32) (by rw [bytesL_len, o.pv]) (by omega), laid_skip (k := 3) rfl (by omega), laid_skip (k := 16) (by rw [bytesL_len, o.it]) (by omega), laid_skip (k := 1) rfl (by omega),
    laid_skip (k := 6) (by rw [List.length_map, o.kn]) (by omega), laid_skip (k := 32) (by rw [bytesL_len, o.sm]) (by omega), laid_skip (k := 1) rfl (by omega), show 93 - 2 - 32 - 3 - 16 - 1 - 6 - 32 - 1 = 0 from rfl]
  have := laid_here (p := h.cd) (s := s) (b := []) (by rw [hs, o.cd])
  simpa using this
end

/-- one cell of a header's block is stored to -/
theorem HAt.put {w : World} {g : Nat} {h h' : Hdr} (H : HAt w g h) {i : Nat} {v : Value} (e : h.cells.set i v = h'.cells) (o : h'.ok) : HAt (w.setCell ⟨g, i, none⟩ v) g h' := by
  refine ⟨?_, o⟩
  have := H.blk.set i v
  rw [show h'.arr = h.arr.setIfInBounds i v from by rw [Hdr.arr, ← e, Hdr.arr]; simp]
  exact this

/-- the numbers' laws: a field written anew keeps the arrays' lengths -/
theorem Hdr.ok.wr {h : Hdr} (o : h.ok) (x : Int) : { h with wr := x }.ok := ⟨o.pv, o.it, o.kn, o.sm, o.cd⟩
theorem Hdr.ok.sq {h : Hdr} (o : h.ok) (x : Nat) : { h with sq := x }.ok := ⟨o.pv, o.it, o.kn, o.sm, o.cd⟩
theorem Hdr.ok.ep {h : Hdr} (o : h.ok) (x : Int) : { h with ep := x }.ok := ⟨o.pv, o.it, o.kn, o.sm, o.cd⟩
theorem Hdr.ok.ct {h : Hdr} (o : h.ok) (x : Bool) : { h with ct := x }.ok := ⟨o.pv, o.it, o.kn, o.sm, o.cd⟩
theorem Hdr.ok.tm {h : Hdr} (o : h.ok) (x : Nat) : { h with tm := x }.ok := ⟨o.pv, o.it, o.kn, o.sm, o.cd⟩
theorem Hdr.ok.sz {h : Hdr} (o : h.ok) (x : Int) : { h with sz := x }.ok := ⟨o.pv, o.it, o.kn, o.sm, o.cd⟩
theorem Hdr.ok.toks {h : Hdr} (o : h.ok) (A : Option Addr) (n c : Nat) : { h with A := A, n := n, c := c }.ok := ⟨o.pv, o.it, o.kn, o.sm, o.cd⟩
theorem Hdr.ok.knw {h : Hdr} (o : h.ok) (i x : Nat) : { h with kn := h.kn.set i x }.ok := ⟨o.pv, o.it, by simp [o.kn], o.sm, o.cd⟩

end Go.Proofs.Ytdkadlifjmmcbaa
