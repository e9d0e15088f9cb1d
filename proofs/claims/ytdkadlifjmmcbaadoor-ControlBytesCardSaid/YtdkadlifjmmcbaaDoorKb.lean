/- The walks of the reference's text and Bytes of a control. -/
import Derived.Test.YtdkadlifjmmcbaaDoorKp
import Derived.Test.YtdkadlifjmmcbaaDoorStr
namespace Go.Proofs.YtdkadlifjmmcbaaDoor
open Go.RowKit

theorem txtB_len (l : List UInt8) (h : l.length ≤ 1000000) : (txtB l).length ≤ l.length + 10 := by
  have := numB_len64 (x := l.length) (by omega)
  simp only [txtB, List.length_append]
  omega

set_option maxRecDepth 100000 in
set_option maxHeartbeats 400000 in
theorem rctext_any (A : Option Addr) (n c : Nat) (l : List UInt8) (w : World) (hl : l.length = n) (hr : RB w A l) (hs : n ≤ 1000000) : Calls Tryd.prog 35 #[.slice A n c] w (RetB (txtB l) (fun v => v) w) := by
  subst hl
  have hnl := numB_len64 (x := l.length) (by omega)
  have HR := Lib.hid hr
  clear hr
  go_enter Tryd.func35, Tryd.ntmps35
  go_wp2_with fail
  refine (rnum_any _ _ (by omega)).mono ?_
  rintro e w1 ⟨A1, c1, rfl, hown, hfr, hbel⟩
  go_wp2_with (at_builtin; refine wpList_app rfl (.tmp 6) (.tmp 7) rfl _ A1 _ c1 _ rfl hown _ _ _ l rfl rfl (HR.out.below hbel) (by omega) ?_; intro A' c' w2 hown2 hg2 hb2)
  have hbel2 : Below w.heap.size w w2 := bel_app hbel hg2 hbel.size hfr
  have hfr2 : Fresh w.heap.size A' := Fresh.app hfr hb2 hbel.size
  clear hg2 hb2 hown hfr hbel
  go_ret
  exact ⟨A', c', by simp [txtB], by simpa [txtB] using hown2, hfr2, hbel2⟩

/-- the state of a walk that gathers bytes: a row of its own, the control's block as it was -/
structure GInv (w0 : World) (k : Ctl) (A : Option Addr) (n c : Nat) (acc : List UInt8) (w : World) : Prop where
  own : OwnB w A n c acc
  fr : Fresh w0.heap.size A
  bel : Below w0.heap.size w0 w
  hat : CAt w w0.heap.size k
theorem GInv.call {w0 w w' : World} {k : Ctl} {A : Option Addr} {n c : Nat} {acc : List UInt8} (C : GInv w0 k A n c acc w) (hb : Below w.heap.size w w') : GInv w0 k A n c acc w' :=
  ⟨C.own.next hb, C.fr, C.bel.trans (hb.mono C.bel.size), C.hat.next hb⟩
theorem GInv.app {w0 w w' : World} {k : Ctl} {A A' : Option Addr} {n m c c' : Nat} {acc l : List UInt8} (C : GInv w0 k A n c acc w) (ho : OwnB w' A' (n + m) c' (acc ++ l)) (hg : w.grownBy w' (blkOf A)) (hb : blkOf A' = blkOf A ∨ blkOf A' = some w.heap.size) : GInv w0 k A' (n + m) c' (acc ++ l) w' :=
  ⟨ho, C.fr.app hb C.bel.size, bel_app C.bel hg C.bel.size C.fr, ⟨blk_app C.hat.blk (by decide) C.own hg, C.hat.ok⟩⟩
theorem own_two (w : World) (x y : UInt8) : OwnB (w.alloc (.cells #[.int .u8 (x.toNat : Int), .int .u8 (y.toNat : Int)] 5)) (some ⟨w.heap.size, 0, none⟩) 2 2 [x, y] :=
  ⟨rfl, rfl, .inr ⟨w.heap.size, 2, _, rfl, Nat.zero_le _, heap_alloc_new w _, Nat.le_refl _, by decide, rfl, rfl⟩⟩
theorem take_txt (l : List (List UInt8)) (k : Nat) (h : k < l.length) : ((l.take (k + 1)).map txtB).flatten = ((l.take k).map txtB).flatten ++ txtB l[k] := by
  rw [List.take_succ_eq_append_getElem h, List.map_append, List.flatten_append]
  simp

set_option maxRecDepth 100000 in
set_option maxHeartbeats 1000000 in
theorem rcbytes_any (k : Ctl) (op me cut : Nat) (ts : List (List UInt8)) (hd : List UInt8) (w : World) (hR : KReads w k op me cut ts hd) (h1 : op < 128) (h2 : me < 128) (h3 : cut < 18446744073709551616) (h4 : ∀ t ∈ ts, t.length ≤ 1000) (h5 : hd.length ≤ 1000) :
    Calls Tryd.prog 13 #[.agg k.arr] w (RetB (bytesK op me cut ts hd) (fun v => v) w) := by
  have HRD := Lib.hid hR
  have HTL := Lib.hid h4
  have H := CAt.new w hR.len
  have hop := H.op
  have hme := H.me
  rw [hR.op] at hop
  rw [hR.me] at hme
  have HH := Lib.hid H
  have hb0 : Below w.heap.size w (w.alloc (.cells k.arr 35)) := (Below.refl _ w).alloc (Nat.le_refl _) _
  have lc := numB_len64 (x := cut) h3
  have lh := txtB_len hd (by omega)
  have hx1 : ((UInt8.ofNat op).toNat : Int) = (op : Int) := by simp; omega
  have hx2 : ((UInt8.ofNat me).toNat : Int) = (me : Int) := by simp; omega
  have hown2 := own_two (w.alloc (.cells k.arr 35)) (UInt8.ofNat op) (UInt8.ofNat me)
  rw [hx1, hx2] at hown2
  have C1 : GInv w k (some ⟨w.heap.size + 1, 0, none⟩) 2 2 [UInt8.ofNat op, UInt8.ofNat me] ((w.alloc (.cells k.arr 35)).alloc (.cells #[.int .u8 (op : Int), .int .u8 (me : Int)] 5)) :=
    ⟨by simpa using hown2, (fun r hr => by cases hr; show w.heap.size ≤ w.heap.size + 1; omega), hb0.alloc hb0.size _, H.alloc _⟩
  have HC1 := Lib.hid C1
  have hcu := C1.hat.cut
  rw [hR.cut] at hcu
  clear H hR C1 hown2 hx1 hx2 h4
  go_enter Tryd.func13, Tryd.ntmps13
  go_wp2_with fail
  refine (rnum_any cut _ h3).mono ?_
  rintro e w2 ⟨X2, d2, rfl, ownx, frx, belx⟩
  have C2 := Lib.hid (HC1.out.call belx)
  have RX2 := Lib.hid ownx.rb
  clear HC1 ownx frx belx hop hme hcu
  go_wp2_with (at_builtin; refine wpList_app rfl (.tmp 12) (.tmp 15) rfl _ (some ⟨w.heap.size + 1, 0, none⟩) _ 2 _ rfl C2.out.own X2 _ d2 (numB cut) rfl rfl RX2.out (by omega) ?_; intro A3 c3 w3 owny hg hb; have C3 := Lib.hid (C2.out.app owny hg hb); clear owny hg hb)
  have hk0 := HH.out.ok
  go_loopw [3, 4] (fun b i wr => ∃ (j m : Nat) (A' : Option Addr) (c' : Nat), j ≤ 6 ∧ i = .int .i64 (j : Int) ∧ b = .slice A' m c' ∧ m ≤ 100 + j * 1010 ∧ GInv w k A' m c' ([UInt8.ofNat op, UInt8.ofNat me] ++ numB cut ++ ((ts.take j).map txtB).flatten) wr) (fun _ i _ => 6 - (intOf i).toNat)
  case atStart => exact ⟨0, _, A3, c3, Nat.zero_le _, rfl, rfl, by omega, by simpa using C3.out⟩
  case round =>
    obtain ⟨j, m, A', c', hj, rfl, rfl, hm, hC⟩ := hrel
    have CR := Lib.hid hC
    clear C2 C3 RX2
    by_cases hlt : j < 6
    · have hlk : j < k.ss.length := by rw [hk0]; exact hlt
      have hlt2 : j < ts.length := by rw [HRD.out.tl]; exact hlt
      have hx := hC.hat.sl j hlt
      rw [List.getElem?_eq_getElem hlk] at hx
      have hrd := (HRD.out.below hC.bel).sl j hlk hlt2
      have hle := HTL.out _ (List.getElem_mem hlt2)
      have htf := take_txt ts j hlt2
      have HTF := Lib.hid htf
      clear htf hC
      generalize k.ss[j] = sk at *
      obtain ⟨Ak, nk, ck⟩ := sk
      simp only [Sl.v, Option.map_some] at hx hrd
      obtain ⟨hr1, hr2⟩ := hrd
      have HR1 := Lib.hid hr1.symm
      have HR2 := Lib.hid hr2
      have hnk : nk ≤ 1000 := by omega
      have ltx := txtB_len ts[j] (by omega)
      rw [← hr1] at ltx
      clear hr1 hr2 hle
      go_wp2_with fail
      refine (rctext_any Ak nk ck ts[j] _ HR1.out HR2.out (by omega)).mono ?_
      rintro e w4 ⟨X4, d4, rfl, ownx, frx, belx⟩
      have C4 := Lib.hid (CR.out.call belx)
      have RX4 := Lib.hid ownx.rb
      clear ownx frx belx hx CR
      go_wp2_with (at_builtin; refine wpList_app rfl (.tmp 21) (.tmp 26) rfl _ A' _ c' _ rfl C4.out.own X4 _ d4 (txtB ts[j]) rfl rfl RX4.out (by omega) ?_; intro A5 c5 w5 owny hg hb; have C5 := Lib.hid (C4.out.app owny hg hb); clear owny hg hb)
      go_roundw
      case rel =>
        refine ⟨j + 1, _, A5, c5, by omega, by go_num, rfl, by omega, ?_⟩
        rw [HTF.out, ← List.append_assoc]
        exact C5.out
      case measure => simp [intOf]; omega
    · obtain rfl : j = 6 := by omega
      have hall : ts.take 6 = ts := List.take_of_length_le (by rw [HRD.out.tl]; omega)
      rw [hall] at hC
      have CZ := Lib.hid hC
      have hx := hC.hat.hd
      have hrd := (HRD.out.below hC.bel).hd
      have HR1 := Lib.hid hrd.1.symm
      have HR2 := Lib.hid hrd.2
      have hnk : k.hd.n ≤ 1000 := by have := hrd.1; omega
      have e1 := hrd.1
      rw [← e1] at lh
      clear hC CR hall hrd e1
      go_wp2_with fail
      refine (rctext_any k.hd.A k.hd.n k.hd.c hd _ HR1.out HR2.out (by omega)).mono ?_
      rintro e w4 ⟨X4, d4, rfl, ownx, frx, belx⟩
      have C4 := Lib.hid (CZ.out.call belx)
      have RX4 := Lib.hid ownx.rb
      clear ownx frx belx hx CZ
      go_wp2_with (at_builtin; refine wpList_app rfl (.tmp 28) (.tmp 31) rfl _ A' _ c' _ rfl C4.out.own X4 _ d4 (txtB hd) rfl rfl RX4.out (by omega) ?_; intro A5 c5 w5 owny hg hb; have C5 := Lib.hid (C4.out.app owny hg hb); clear owny hg hb)
      go_ret
      have e : bytesK op me cut ts hd = [UInt8.ofNat op, UInt8.ofNat me] ++ numB cut ++ (ts.map txtB).flatten ++ txtB hd := by
        rw [bytesK, numB_small h1, numB_small h2]; simp
      have CE := C5.out
      rw [e]
      refine ⟨A5, c5, ?_, ?_, CE.fr, CE.bel⟩
      · exact congrArg (fun m => Ending.returned (.slice A5 m c5)) CE.own.1.symm
      · rw [CE.own.1]
        exact CE.own

end Go.Proofs.YtdkadlifjmmcbaaDoor
