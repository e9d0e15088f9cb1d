/- The state of a header's parse: In, the header's block, the tokens in a row of their own. -/
import Derived.Test.YtdkadlifjmmcbaaHu
import Derived.Test.YtdkadlifjmmcbaaPc
namespace Go.Proofs.Ytdkadlifjmmcbaa
open Go.RowKit

/-- tokens as cells -/
def tokC (l : List (List UInt8)) : List Value := (l.map bytesL).flatten

structure HInv (w0 : World) (B : Nat) (R : Nat → Prop) (gi g : Nat) (h : Hdr) (toks : List (List UInt8)) (l : List UInt8) (bad : Bool) (w : World) : Prop where
  inn : InIs R w gi l bad
  hat : HAt w g h
  own : w.ownsRow 0 40 16 (.slice h.A h.n h.c) h.n (tokC toks)
  sep : ∀ r, blkOf h.A = some r → ¬ R r ∧ r ≠ g ∧ B ≤ r
  nr : ¬ R g
  bg : B ≤ g
  bi : B ≤ gi
  bel : Below B w0 w
  hB : B ≤ w0.heap.size
  rlt : ∀ i, R i → i < w.heap.size

section
variable {w0 : World} {B : Nat} {R : Nat → Prop} {gi g : Nat} {h h' : Hdr} {toks : List (List UInt8)} {l l' : List UInt8} {bad bad' : Bool} {w w' : World}

/-- In went on -/
theorem HInv.inp (H : HInv w0 B R gi g h toks l bad w) (hin : InIs R w' gi l' bad') (hk : Keep (· ≠ gi) w w') : HInv w0 B R gi g h toks l' bad' w' := by
  obtain ⟨h1, h2, h3, h4, hn, hg, hi, h5, hB, h6⟩ := H
  have hne : g ≠ gi := fun e => hn (e ▸ h1.rg)
  refine ⟨hin, h2.keep hk hne, ?_, h4, hn, hg, hi, bel_keep h5 (Nat.le_trans hB h5.size) hk (fun i hi' => by omega), hB, fun i hi => Nat.lt_of_lt_of_le (h6 i hi) hk.size⟩
  exact own_keep h3 fun r hr hlt => hk.block r hlt (by rintro rfl; exact (h4 _ hr).1 h1.rg)

/-- a field was stored to -/
theorem HInv.put (H : HInv w0 B R gi g h toks l bad w) {i : Nat} {v : Value} (e : h.cells.set i v = h'.cells) (o : h'.ok) (eA : h'.A = h.A) (en : h'.n = h.n) (ec : h'.c = h.c) : HInv w0 B R gi g h' toks l bad (w.setCell ⟨g, i, none⟩ v) := by
  obtain ⟨h1, h2, h3, h4, hn, hg, hi, h5, hB, h6⟩ := H
  refine ⟨h1.keep ((Keep.refl R w).setCell hn v), h2.put e o, ?_, by rw [eA]; exact h4, hn, hg, hi, h5.setCell hg v, hB, fun i hi => by simpa using h6 i hi⟩
  rw [eA, en, ec]
  exact own_keep h3 fun r hr _ => Below.heap_setCell _ _ _ _ (h4 r hr).2.1

/-- an array was taken -/
theorem HInv.arr (H : HInv w0 B R gi g h toks l bad w) {t : TypeId} {o : Nat} {r : List UInt8 × List UInt8 × Bool} {e : Ending} (hr : RetArr R gi g t h.cells o r w e w') (ht : t = 44) (e1 : laidB h.cells o r.1 = h'.cells) (ok : h'.ok) (eA : h'.A = h.A) (en : h'.n = h.n) (ec : h'.c = h.c) :
    HInv w0 B R gi g h' toks r.2.1 r.2.2 w' := by
  obtain ⟨h1, h2, h3, h4, hn, hg, hi, h5, hB, h6⟩ := H
  obtain ⟨_, hin, hblk, hk⟩ := hr
  subst ht
  refine ⟨hin, ⟨?_, ok⟩, ?_, by rw [eA]; exact h4, hn, hg, hi, bel_keep h5 (Nat.le_trans hB h5.size) hk (fun i hi' => ⟨by omega, by omega⟩), hB, fun i hi => Nat.lt_of_lt_of_le (h6 i hi) hk.size⟩
  · rw [Hdr.arr, ← e1]
    exact hblk
  · rw [eA, en, ec]
    exact own_keep h3 fun r hr hlt => hk.block r hlt ⟨by rintro rfl; exact (h4 _ hr).1 h1.rg, (h4 r hr).2.1⟩

/-- an array of another, new, block was taken -/
theorem HInv.other (H : HInv w0 B R gi g h toks l bad w) {t : TypeId} {cs : List Value} {o gt : Nat} {r : List UInt8 × List UInt8 × Bool} {e : Ending} (hr : RetArr R gi gt t cs o r w e w') (hA : ∀ q, blkOf h.A = some q → q ≠ gt) (hg : g ≠ gt) (hBt : B ≤ gt) :
    HInv w0 B R gi g h toks r.2.1 r.2.2 w' := by
  obtain ⟨h1, h2, h3, h4, hn, hgB, hi, h5, hB, h6⟩ := H
  obtain ⟨_, hin, _, hk⟩ := hr
  have hne : g ≠ gi := fun e => hn (e ▸ h1.rg)
  refine ⟨hin, h2.keep hk ⟨hne, hg⟩, ?_, h4, hn, hgB, hi, bel_keep h5 (Nat.le_trans hB h5.size) hk (fun i hi' => ⟨by omega, by omega⟩), hB, fun i hi => Nat.lt_of_lt_of_le (h6 i hi) hk.size⟩
  exact own_keep h3 fun r hr hlt => hk.block r hlt ⟨by rintro rfl; exact (h4 _ hr).1 h1.rg, hA r hr⟩

theorem tokC_push (toks : List (List UInt8)) (t : List UInt8) : tokC (toks ++ [t]) = tokC toks ++ bytesL t := by simp [tokC]

/-- a token was appended, and the header's field stored to -/
theorem HInv.push (H : HInv w0 B R gi g h toks l bad w) {g' c' : Nat} {t : List UInt8} (hlt : g' < w'.heap.size)
    (hown : w'.ownsRow 0 40 16 (.slice (some ⟨g', 0, none⟩) (h.n + 1) c') (h.n + 1) (tokC toks ++ bytesL t)) (hgr : w.grownBy w' (blkOf h.A)) (hb : blkOf h.A = some g' ∨ g' = w.heap.size) :
    HInv w0 B R gi g { h with A := some ⟨g', 0, none⟩, n := h.n + 1, c := c' } (toks ++ [t]) l bad (w'.setCell ⟨g, 53, none⟩ (.slice (some ⟨g', 0, none⟩) (h.n + 1) c')) := by
  obtain ⟨h1, h2, h3, h4, hn, hgB, hi, h5, hB, h6⟩ := H
  have hgl : ¬ R g' ∧ g' ≠ g ∧ B ≤ g' := by
    rcases hb with hx | rfl
    · exact h4 _ hx
    · exact ⟨fun hr => by have := h6 _ hr; omega, fun e => by have := h2.blk.lt; omega, Nat.le_trans hB h5.size⟩
  have hkR : Keep R w (w'.setCell ⟨g, 53, none⟩ (.slice (some ⟨g', 0, none⟩) (h.n + 1) c')) := (Keep.of_grown hgr (fun r hr => (h4 r hr).1)).setCell hn _
  have hat : HAt w' g h := ⟨(hgr.block g h2.blk.lt (fun e => (h4 g e.symm).2.1 rfl)).trans h2.blk, h2.ok⟩
  refine ⟨h1.keep hkR, hat.put (Hdr.set_toks h2.ok _ _ _) (Hdr.ok.toks h2.ok _ _ _), ?_, ?_, hn, hgB, hi, (h5.grown hgr (Nat.le_trans hB h5.size) (fun r hr => (h4 r hr).2.2)).setCell hgB _, hB, fun i hi => Nat.lt_of_lt_of_le (h6 i hi) hkR.size⟩
  · rw [tokC_push]
    exact own_keep hown fun r hr _ => Below.heap_setCell _ _ _ _ (by cases hr; exact hgl.2.1)
  · intro r hr
    cases hr
    exact hgl

theorem HInv.mid (H : HInv w0 B R gi g h toks l bad w) (hgr : w.grownBy w' (blkOf h.A)) : HAt w' g h :=
  ⟨(hgr.block g H.hat.blk.lt (fun e => (H.sep g e.symm).2.1 rfl)).trans H.hat.blk, H.hat.ok⟩

theorem HInv.alloc (H : HInv w0 B R gi g h toks l bad w) (o : Obj) : HInv w0 B R gi g h toks l bad (w.alloc o) := by
  obtain ⟨h1, h2, h3, h4, hn, hg, hi, h5, hB, h6⟩ := H
  exact ⟨h1.keep ((Keep.refl R w).alloc o), h2.alloc o, h3.alloc o, h4, hn, hg, hi, h5.alloc (Nat.le_trans hB h5.size) o, hB, fun i hi => by have := h6 i hi; simp; omega⟩
theorem HInv.drew (H : HInv w0 B R gi g h toks l bad w) : HInv w0 B R gi g h toks l bad w.drew := by
  obtain ⟨h1, h2, h3, h4, hn, hg, hi, h5, hB, h6⟩ := H
  exact ⟨h1.keep ((Keep.refl R w).drew), h2.drew, h3, h4, hn, hg, hi, h5.drew, hB, h6⟩
end

end Go.Proofs.Ytdkadlifjmmcbaa
