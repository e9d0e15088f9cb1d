/- Plain mathematics: what control.Parse takes of some bytes, and that what is taken whole has these bytes. -/
import Derived.Test.YtdkadlifjmmcbaaDoorInv
import Derived.Test.YtdkadlifjmmcbaaDoorKf
import Derived.Test.YtdkadlifjmmcbaaDoorPi3
namespace Go.Proofs.YtdkadlifjmmcbaaDoor
open Go.RowKit

/-- a text's bytes -/
def txtB (l : List UInt8) : List UInt8 := numB l.length ++ l
/-- texts, one behind the other -/
def textsTo (most : Nat) (l : List UInt8) (bad : Bool) : Nat → List (List UInt8) × List UInt8 × Bool
  | 0 => ([], l, bad)
  | k + 1 => ((textsTo most l bad k).1 ++ [(textT most (textsTo most l bad k).2.1 (textsTo most l bad k).2.2).1], (textT most (textsTo most l bad k).2.1 (textsTo most l bad k).2.2).2)
theorem textsTo_len (most : Nat) (l : List UInt8) (bad : Bool) (k : Nat) : (textsTo most l bad k).1.length = k := by
  induction k with
  | zero => rfl
  | succ k ih => simp [textsTo, ih]
theorem textsTo_inv (most : Nat) (l : List UInt8) (bad : Bool) : ∀ k, (textsTo most l bad k).2.2 = false → bad = false ∧ l = ((textsTo most l bad k).1.map txtB).flatten ++ (textsTo most l bad k).2.1
  | 0, h => ⟨h, by simp [textsTo]⟩
  | k + 1, h => by
    obtain ⟨h1, h2⟩ := textT_inv (l := (textsTo most l bad k).2.1) h
    obtain ⟨h4, h5⟩ := textsTo_inv most l bad k h1
    refine ⟨h4, ?_⟩
    simp only [textsTo, List.map_append, List.flatten_append, List.map_cons, List.map_nil, List.flatten_cons, List.flatten_nil, List.append_nil, List.append_assoc, txtB]
    rw [List.append_assoc] at h2
    rw [← h2]
    exact h5

/-- what is taken of a control's bytes -/
structure PrsK where
  op : Nat
  me : Nat
  cut : Nat
  ts : List (List UInt8)
  hd : List UInt8
  over : Bool
def parseK (b : List UInt8) : PrsK :=
  let r0 := numT 5 b false
  let r1 := numT 6 r0.2.1 r0.2.2
  let r2 := numT 1048576 r1.2.1 r1.2.2
  let q := textsTo 48 r2.2.1 r2.2.2 6
  let r3 := textT 48 q.2.1 q.2.2
  ⟨r0.1, r1.1, r2.1, q.1, r3.1, !r3.2.2 && r3.2.1.isEmpty⟩

/-- a control's bytes -/
def bytesK (op me cut : Nat) (ts : List (List UInt8)) (hd : List UInt8) : List UInt8 := numB op ++ numB me ++ numB cut ++ (ts.map txtB).flatten ++ txtB hd
def PrsK.bytes (p : PrsK) : List UInt8 := bytesK p.op p.me p.cut p.ts p.hd
def PrsK.formed (p : PrsK) : Bool := formedK p.op p.me p.cut (p.ts.map List.length) p.hd.length

/-- what is taken whole has these bytes -/
theorem parseK_bytes (b : List UInt8) (h : (parseK b).over = true) : (parseK b).bytes = b := by
  simp only [parseK, Bool.and_eq_true, Bool.not_eq_true', List.isEmpty_iff] at h
  obtain ⟨h1, h2⟩ := h
  obtain ⟨b9, e9⟩ := textT_inv h1
  obtain ⟨bq, eq⟩ := textsTo_inv _ _ _ _ b9
  obtain ⟨b1, e1⟩ := numT_inv bq
  obtain ⟨b0, e0⟩ := numT_inv b1
  obtain ⟨_, e⟩ := numT_inv b0
  rw [h2, List.append_nil] at e9
  simp only [parseK, PrsK.bytes, bytesK, txtB, List.append_assoc]
  rw [← e9]
  rw [← eq, ← e1, ← e0, ← e]
theorem parseK_ts (b : List UInt8) : (parseK b).ts.length = 6 := textsTo_len _ _ _ _
theorem parseK_le (b : List UInt8) : (parseK b).op ≤ 5 ∧ (parseK b).me ≤ 6 ∧ (parseK b).cut ≤ 1048576 := ⟨numT_le _ _ _, numT_le _ _ _, numT_le _ _ _⟩
def okK (b : List UInt8) : Bool := (parseK b).over && (parseK b).formed

/-- a control's fields read so -/
structure KReads (w : World) (c : Ctl) (op me : Int) (cut : Nat) (ts : List (List UInt8)) (hd : List UInt8) : Prop where
  op : c.op = op
  me : c.me = me
  cut : c.cut = cut
  len : c.ss.length = 6
  tl : ts.length = 6
  sl : ∀ j (h1 : j < c.ss.length) (h2 : j < ts.length), c.ss[j].n = ts[j].length ∧ RB w c.ss[j].A ts[j]
  hd : c.hd.n = hd.length ∧ RB w c.hd.A hd
theorem KReads.keep {w w' : World} {c : Ctl} {op me : Int} {cut : Nat} {ts : List (List UInt8)} {hd : List UInt8} (h : KReads w c op me cut ts hd) (hk : ∀ p : Addr, p.block < w.heap.size → w'.cell? p = w.cell? p) : KReads w' c op me cut ts hd :=
  ⟨h.op, h.me, h.cut, h.len, h.tl, fun j h1 h2 => ⟨(h.sl j h1 h2).1, (h.sl j h1 h2).2.keep hk⟩, h.hd.1, h.hd.2.keep hk⟩
theorem KReads.below {w w' : World} {c : Ctl} {op me : Int} {cut : Nat} {ts : List (List UInt8)} {hd : List UInt8} (h : KReads w c op me cut ts hd) (hb : Below w.heap.size w w') : KReads w' c op me cut ts hd := h.keep fun _ hp => hb.cell hp
theorem KReads.ns {w : World} {c : Ctl} {op me : Int} {cut : Nat} {ts : List (List UInt8)} {hd : List UInt8} (h : KReads w c op me cut ts hd) : c.ns = ts.map List.length := by
  refine List.ext_getElem (by simp [Ctl.ns, h.len, h.tl]) fun j h1 h2 => ?_
  have a1 : j < c.ss.length := by simpa [Ctl.ns] using h1
  have a2 : j < ts.length := by simpa using h2
  simpa [Ctl.ns] using (h.sl j a1 a2).1
theorem KReads.formed {w : World} {c : Ctl} {op me : Int} {cut : Nat} {ts : List (List UInt8)} {hd : List UInt8} (h : KReads w c op me cut ts hd) : c.formed = formedK op me cut (ts.map List.length) hd.length := by
  rw [Ctl.formed, h.ns, h.op, h.me, h.cut, h.hd.1]

/-- the zero control -/
def slZ : Sl := ⟨none, 0, 0⟩
def ctlZ : Ctl := ⟨0, 0, 0, [slZ, slZ, slZ, slZ, slZ, slZ], slZ⟩
theorem ctlZ_ok : ctlZ.ss.length = 6 := rfl
theorem ctl_zero (W : World) : (zeroValue 35).run Tryd.prog W = .ok (.agg ctlZ.arr) W := run_zero_at (by kernel_rfl) W

/-- the state of a control's parse -/
structure KInv (w0 : World) (B : Nat) (R : Nat → Prop) (gi g : Nat) (c : Ctl) (tx : List (Option Addr × List UInt8)) (l : List UInt8) (bad : Bool) (w : World) : Prop where
  inn : InIs R w gi l bad
  hat : CAt w g c
  tx : ∀ p ∈ tx, RB w p.1 p.2 ∧ ∀ r, blkOf p.1 = some r → ¬ R r ∧ r ≠ g ∧ B ≤ r
  nr : ¬ R g
  bg : B ≤ g
  bi : B ≤ gi
  bel : Below B w0 w
  hB : B ≤ w0.heap.size
  rlt : ∀ i, R i → i < w.heap.size

section
variable {w0 : World} {B : Nat} {R : Nat → Prop} {gi g : Nat} {c c' : Ctl} {tx : List (Option Addr × List UInt8)} {l l' : List UInt8} {bad bad' : Bool} {w w' : World}
theorem kbel {B : Nat} {S : Nat → Prop} {w0 w w' : World} (h : Below B w0 w) (hB : B ≤ w.heap.size) (hk : Keep S w w') (hS : ∀ i, i < B → S i) : Below B w0 w' := h.trans (hk.below hS hB)

/-- In took a text -/
theorem KInv.txt (H : KInv w0 B R gi g c tx l bad w) {A : Option Addr} {n cc : Nat} {t : List UInt8} (ho : OwnB w' A n cc t) (hf : ∀ b, blkOf A = some b → w.heap.size ≤ b) (hin : InIs R w' gi l' bad') (hk : Keep (· ≠ gi) w w') : KInv w0 B R gi g c (tx ++ [(A, t)]) l' bad' w' := by
  obtain ⟨h1, h2, h3, hn, hg, hi, h5, hB, h6⟩ := H
  have hne : g ≠ gi := fun e => hn (e ▸ h1.rg)
  refine ⟨hin, h2.keep hk hne, ?_, hn, hg, hi, kbel h5 (Nat.le_trans hB h5.size) hk (fun i hi' => by omega), hB, fun i hi => Nat.lt_of_lt_of_le (h6 i hi) hk.size⟩
  intro p hp
  simp only [List.mem_append, List.mem_singleton] at hp
  rcases hp with hp | rfl
  · obtain ⟨a1, a2⟩ := h3 p hp
    exact ⟨hk.rb a1 (fun r hr => by rintro rfl; exact (a2 _ hr).1 h1.rg), a2⟩
  · refine ⟨ho.rb, fun r hr => ?_⟩
    have hge := hf r hr
    exact ⟨fun hR => by have := h6 r hR; omega, fun e => by have := h2.blk.lt; omega, Nat.le_trans (Nat.le_trans hB h5.size) hge⟩

/-- a field was stored to -/
theorem KInv.put (H : KInv w0 B R gi g c tx l bad w) {i : Nat} {v : Value} (e : c.cells.set i v = c'.cells) (o : c'.ss.length = 6) : KInv w0 B R gi g c' tx l bad (w.setCell ⟨g, i, none⟩ v) := by
  obtain ⟨h1, h2, h3, hn, hg, hi, h5, hB, h6⟩ := H
  have hkp := (Keep.refl (fun r => r ≠ g) w).setCell (p := ⟨g, i, none⟩) (fun h => h rfl) v
  refine ⟨h1.keep ((Keep.refl R w).setCell hn v), ⟨?_, o⟩, ?_, hn, hg, hi, h5.setCell hg v, hB, fun i hi => by simpa using h6 i hi⟩
  · have hs := h2.blk.set i v
    have e2 : c.arr.setIfInBounds i v = c'.arr := by
      rw [Ctl.arr, List.setIfInBounds_toArray, e]; rfl
    rw [e2] at hs
    exact hs
  · intro p hp
    obtain ⟨a1, a2⟩ := h3 p hp
    exact ⟨hkp.rb a1 (fun r hr => (a2 r hr).2.1), a2⟩
end

set_option maxRecDepth 100000 in
set_option maxHeartbeats 400000 in
theorem read_any (w : World) (A : Option Addr) (n c : Nat) (l : List UInt8) (hl : l.length = n) (hr : RB w A l) (hb : n ≤ 140737488355328) :
    Calls Tryd.prog 30 #[.slice A n c] w fun e w' => ∃ (g : Nat) (R : Nat → Prop), e = .returned (.pointer (some ⟨g, 0, none⟩)) ∧ InIs R w' g l false ∧
      (∀ i, R i → w.heap.size ≤ i ∧ i < w'.heap.size) ∧ Below w.heap.size w w' := by
  subst hl
  go_enter Tryd.func30, Tryd.ntmps30
  go_wp2_with fail
  refine (clone_any _ _ _ _ l rfl hr hb).mono ?_
  rintro e w1 ⟨A1, c1, rfl, own1, fr1, bel1⟩
  go_wp2
  go_ret
  refine ⟨w1.heap.size, fun i => i = w1.heap.size ∨ blkOf A1 = some i, rfl, ⟨.inl rfl, A1, c1, Blk.new _ _ _, own1.alloc _ |>.rb, own1.cap, fun r hr => ⟨.inr hr, ?_⟩⟩, ?_, bel1.alloc bel1.size _⟩
  · have := own1.lt hr
    omega
  · intro i hi
    rcases hi with rfl | hi
    · exact ⟨bel1.size, by simp⟩
    · exact ⟨fr1 i hi, by have := own1.lt hi; simp; omega⟩

end Go.Proofs.YtdkadlifjmmcbaaDoor
