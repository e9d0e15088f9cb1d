/- The walk of the reference's Core. -/
import Derived.Test.YtdkadlifjmmcbaaRfo
import Derived.Test.YtdkadlifjmmcbaaCo
namespace Go.Proofs.Ytdkadlifjmmcbaa
open Go.RowKit

/-- the state of a walk that gathers bytes: a row of its own, the header's block as it was -/
structure CInv (w0 : World) (h : Hdr) (A : Option Addr) (n c : Nat) (acc : List UInt8) (w : World) : Prop where
  own : OwnB w A n c acc
  fr : Fresh w0.heap.size A
  bel : Below w0.heap.size w0 w
  hat : HAt w w0.heap.size h
theorem CInv.call {w0 w w' : World} {h : Hdr} {A : Option Addr} {n c : Nat} {acc : List UInt8} (C : CInv w0 h A n c acc w) (hb : Below w.heap.size w w') : CInv w0 h A n c acc w' :=
  ⟨C.own.next hb, C.fr, C.bel.trans (hb.mono C.bel.size), C.hat.next hb⟩
theorem CInv.app {w0 w w' : World} {h : Hdr} {A A' : Option Addr} {n m c c' : Nat} {acc l : List UInt8} (C : CInv w0 h A n c acc w) (ho : OwnB w' A' (n + m) c' (acc ++ l)) (hg : w.grownBy w' (blkOf A)) (hb : blkOf A' = blkOf A ∨ blkOf A' = some w.heap.size) : CInv w0 h A' (n + m) c' (acc ++ l) w' :=
  ⟨ho, C.fr.app hb C.bel.size, bel_app C.bel hg C.bel.size C.fr, ⟨blk_app C.hat.blk (by decide) C.own hg, C.hat.ok⟩⟩
theorem below_alloc1 (w : World) (o : Obj) : Below w.heap.size w (w.alloc o) := (Below.refl _ w).alloc (Nat.le_refl _) o
theorem CInv.alloc {w0 w : World} {h : Hdr} {A : Option Addr} {n c : Nat} {acc : List UInt8} (C : CInv w0 h A n c acc w) (x : Obj) : CInv w0 h A n c acc (w.alloc x) := C.call (below_alloc1 w x)
theorem rb_range {w : World} {b o : Nat} {l : List UInt8} (h : w.rangeAt b o (bytesL l)) : RB w (some ⟨b, o, none⟩) l :=
  fun j hj => ⟨b, o, rfl, h j _ (bytesL_get l j hj)⟩
theorem rb_byte (w : World) (x : UInt8) (v : Value) (hv : v = .int .u8 (x.toNat : Int)) : RB (w.alloc (.cells #[v] 5)) (some ⟨w.heap.size, 0, none⟩) [x] := by
  intro j hj
  obtain rfl : j = 0 := by simp at hj; omega
  refine ⟨_, _, rfl, ?_⟩
  rw [Blk.cell (Blk.new w 5 #[v]), hv]
  rfl
theorem take_flat (l : List (List UInt8)) (k : Nat) (h : k < l.length) : (l.take (k + 1)).flatten = (l.take k).flatten ++ l[k] := by
  rw [List.take_succ_eq_append_getElem h, List.flatten_append]
  simp

set_option maxRecDepth 100000 in
set_option maxHeartbeats 2000000 in
theorem rcore_any (h : Hdr) (o : h.ok) (toks : List (List UInt8)) (w : World) (hlen : toks.length = h.n) (hts : TS w h.A toks) (hn : h.n ≤ 1000) (hw1 : 0 ≤ h.wr) (hw2 : h.wr ≤ 9223372036854775807) (he1 : 0 ≤ h.ep) (he2 : h.ep ≤ 9223372036854775807) (hz1 : 0 ≤ h.sz) (hz2 : h.sz ≤ 9223372036854775807)
    (hq : h.sq < 18446744073709551616) (ht : h.tm < 18446744073709551616) (hk : ∀ k ∈ h.kn, k < 18446744073709551616) :
    Calls Try.prog 39 #[.agg h.arr] w (RetB (coreB h toks) (fun v => v) w) := by
  have H := HAt.new w o
  obtain ⟨a, ha⟩ := Int.eq_ofNat_of_zero_le hw1
  obtain ⟨ep, hep⟩ := Int.eq_ofNat_of_zero_le he1
  obtain ⟨z, hz⟩ := Int.eq_ofNat_of_zero_le hz1
  obtain ⟨k0, k1, k2, k3, k4, k5, hkn⟩ := list6 o.kn
  have hcore : coreB h toks = numB a ++ numB h.sq ++ h.pv ++ numB ep ++ [if h.ct then 1 else 0] ++ numB h.tm ++ h.it ++ numB h.n ++ toks.flatten ++ numB k0 ++ numB k1 ++ numB k2 ++ numB k3 ++ numB k4 ++ numB k5 ++ h.sm ++ numB z := by
    simp [coreB, ha, hep, hz, hkn]
  generalize coreB h toks = C at *
  have HCO := Lib.hid hcore
  have hpl := o.pv
  have hil := o.it
  have hsl := o.sm
  have g0 : k0 < 18446744073709551616 := hk k0 (by rw [hkn]; simp)
  have m0 := numB_len64 (x := k0) g0
  have g1 : k1 < 18446744073709551616 := hk k1 (by rw [hkn]; simp)
  have m1 := numB_len64 (x := k1) g1
  have g2 : k2 < 18446744073709551616 := hk k2 (by rw [hkn]; simp)
  have m2 := numB_len64 (x := k2) g2
  have g3 : k3 < 18446744073709551616 := hk k3 (by rw [hkn]; simp)
  have m3 := numB_len64 (x := k3) g3
  have g4 : k4 < 18446744073709551616 := hk k4 (by rw [hkn]; simp)
  have m4 := numB_len64 (x := k4) g4
  have g5 : k5 < 18446744073709551616 := hk k5 (by rw [hkn]; simp)
  have m5 := numB_len64 (x := k5) g5
  have l1 := numB_len64 (x := a) (by omega)
  have l2 := numB_len64 (x := h.sq) (by omega)
  have l3 := numB_len64 (x := ep) (by omega)
  have l4 := numB_len64 (x := h.tm) (by omega)
  have l5 := numB_len64 (x := z) (by omega)
  have l6 := numB_len64 (x := h.n) (by omega)
  have ha1 : a ≤ 9223372036854775807 := by omega
  have he3 : ep ≤ 9223372036854775807 := by omega
  have hz3 : z ≤ 9223372036854775807 := by omega
  have HWR := Lib.hid ha
  have HEP := Lib.hid hep
  have HSZ := Lib.hid hz
  have HKN := Lib.hid hkn
  have HTS := Lib.hid hts
  have HLN := Lib.hid hlen
  have HH := Lib.hid H
  have HPL := Lib.hid hpl
  have HIL := Lib.hid hil
  have HSL := Lib.hid hsl
  have hwr := H.wr
  rw [ha] at hwr
  clear hk hts hlen H hw1 hw2 he1 he2 hz1 hz2 ha hep hz hcore hkn hpl hil hsl
  cases hct : h.ct
  ·
    go_enter Try.func39, Try.ntmps39
    go_wp2_with fail
    refine (rnum_any a _ (by omega)).mono ?_
    rintro e w1 ⟨A1, c1, rfl, own1, fr1, bel1⟩
    have C1 := Lib.hid (CInv.mk own1 (fun r h => Nat.le_trans (by simp) (fr1 r h)) (((Below.refl _ _).alloc (Nat.le_refl _) _).trans (bel1.mono (by simp))) (HH.out.next bel1) : CInv w h A1 _ c1 _ w1)
    have q := C1.out.hat.sq
    clear own1 fr1 bel1 hwr
    go_wp2_with fail
    refine (rnum_any h.sq _ (by omega)).mono ?_
    rintro e w2 ⟨X2, d2, rfl, ownx, frx, belx⟩
    have C2 := Lib.hid (C1.out.call belx)
    have RX2 := Lib.hid ownx.rb
    clear C1 ownx frx belx
    go_wp2_with (first | (at_builtin; refine wpList_app rfl (.tmp 11) (.tmp 14) rfl _ A1 _ c1 _ rfl C2.out.own X2 _ d2 (numB h.sq) rfl rfl RX2.out (by omega) ?_; intro A3 c3 w3 owny hg hb; have C3 := Lib.hid (C2.out.app owny hg hb); clear owny hg hb) | (at_builtin; refine wpList_app rfl (.tmp 16) (.tmp 18) rfl _ A3 _ c3 _ rfl C3.out.own (some ⟨w.heap.size, 2, none⟩) _ 32 h.pv rfl HPL.out C3.out.hat.rpv (by omega) ?_; intro A4 c4 w4 owny hg hb; have C4 := Lib.hid (C3.out.app owny hg hb); clear owny hg hb; have q := C4.out.hat.ep; rw [HEP.out] at q))
    refine (rnum_any ep _ (by omega)).mono ?_
    rintro e w5 ⟨X5, d5, rfl, ownx, frx, belx⟩
    have C5 := Lib.hid (C4.out.call belx)
    have RX5 := Lib.hid ownx.rb
    clear C4 ownx frx belx
    have qc := C5.out.hat.ct
    rw [hct] at qc
    go_wp2_with (first | (at_builtin; refine wpList_app rfl (.tmp 20) (.tmp 24) rfl _ A4 _ c4 _ rfl C5.out.own X5 _ d5 (numB ep) rfl rfl RX5.out (by omega) ?_; intro A6 c6 w6 owny hg hb; have C6 := Lib.hid (C5.out.app owny hg hb); clear owny hg hb; have qc := C6.out.hat.ct; rw [hct] at qc) | (at_builtin; refine wpList_app rfl (.tmp 28) (.tmp 30) rfl _ A6 _ c6 _ rfl (C6.out.alloc _).own (some ⟨w6.heap.size, 0, none⟩) _ 1 [0] rfl rfl (rb_byte w6 0 _ (by rfl)) (by omega) ?_; intro A7 c7 w7 owny hg hb; have C7 := Lib.hid ((C6.out.alloc _).app owny hg hb); clear owny hg hb; have q := C7.out.hat.tm))
    refine (rnum_any h.tm _ (by omega)).mono ?_
    rintro e w8 ⟨X8, d8, rfl, ownx, frx, belx⟩
    have C8 := Lib.hid (C7.out.call belx)
    have RX8 := Lib.hid ownx.rb
    clear C7 ownx frx belx
    go_wp2_with (first | (at_builtin; refine wpList_app rfl (.tmp 32) (.tmp 35) rfl _ A7 _ c7 _ rfl C8.out.own X8 _ d8 (numB h.tm) rfl rfl RX8.out (by omega) ?_; intro A9 c9 w9 owny hg hb; have C9 := Lib.hid (C8.out.app owny hg hb); clear owny hg hb) | (at_builtin; refine wpList_app rfl (.tmp 37) (.tmp 39) rfl _ A9 _ c9 _ rfl C9.out.own (some ⟨w.heap.size, 37, none⟩) _ 16 h.it rfl HIL.out C9.out.hat.rit (by omega) ?_; intro A10 c10 w10 owny hg hb; have C10 := Lib.hid (C9.out.app owny hg hb); clear owny hg hb; have q := C10.out.hat.toks))
    refine (rnum_any h.n _ (by omega)).mono ?_
    rintro e w11 ⟨X11, d11, rfl, ownx, frx, belx⟩
    have C11 := Lib.hid (C10.out.call belx)
    have RX11 := Lib.hid ownx.rb
    clear C10 ownx frx belx
    go_wp2_with (first | (at_builtin; refine wpList_app rfl (.tmp 41) (.tmp 46) rfl _ A10 _ c10 _ rfl C11.out.own X11 _ d11 (numB h.n) rfl rfl RX11.out (by omega) ?_; intro A12 c12 w12 owny hg hb; have C12 := Lib.hid (C11.out.app owny hg hb); clear owny hg hb))
    go_loopw [3, 5] (fun b i wr => ∃ (k m : Nat) (A' : Option Addr) (c' : Nat), k ≤ h.n ∧ i = .int .i64 (k : Int) ∧ b = .slice A' m c' ∧ m ≤ 300 + k * 16 ∧ CInv w h A' m c' ((numB a ++ numB h.sq ++ h.pv ++ numB ep ++ [0] ++ numB h.tm ++ h.it ++ numB h.n) ++ (toks.take k).flatten) wr) (fun _ i _ => h.n - (intOf i).toNat)
    case atStart => exact ⟨0, _, A12, c12, Nat.zero_le _, rfl, rfl, by omega, by simpa using C12.out⟩
    case round =>
      obtain ⟨k, m, A', c', hk, rfl, rfl, hm, hC⟩ := hrel
      have CR := Lib.hid hC
      have q := hC.hat.toks
      clear hC C12
      by_cases hlt : k < h.n
      · have hltl : k < toks.length := by have := HLN.out; omega
        obtain ⟨h16, b, o1, e1, hrg⟩ := (HTS.out.below CR.out.bel) k hltl
        have htf := take_flat toks k hltl
        have HTF := Lib.hid htf
        have HRG := Lib.hid hrg
        have H16 := Lib.hid h16
        rw [e1] at q
        clear htf hrg h16 e1
        go_wp2_with (at_builtin; refine wpList_app rfl (.tmp 55) (.tmp 60) rfl _ A' _ c' _ rfl CR.out.own (some ⟨b, o1 + k * 16, none⟩) _ 16 toks[k] rfl H16.out (rb_range HRG.out) (by omega) ?_; intro A2 c2 w2 owny hg hb; have CX := Lib.hid (CR.out.app owny hg hb); clear owny hg hb CR)
        go_roundw
        case rel =>
          refine ⟨k + 1, _, A2, c2, by omega, by go_num, rfl, by omega, ?_⟩
          rw [HTF.out, ← List.append_assoc]
          exact CX.out
        case measure => simp [intOf]; omega
      · obtain rfl : k = h.n := by omega
        have hall : toks.take h.n = toks := List.take_of_length_le (by have := HLN.out; omega)
        have C0 := CR.out
        rw [hall] at C0
        have C20 := Lib.hid C0
        clear C0 hall CR
        go_wp2_with fail
        refine wp_loop_rounds 7 ?_
        have q0 : wr.cell? ⟨w.heap.size, 54, none⟩ = some (.int .u64 (k0 : Int)) := by rw [C20.out.hat.kn 0 (by omega), HKN.out]; rfl
        rw [rounds_succ]
        go_wp2_with fail
        refine (rnum_any k0 _ (by omega)).mono ?_
        rintro e w21 ⟨X21, d21, rfl, ownx, frx, belx⟩
        have C21 := Lib.hid (C20.out.call belx)
        have RX21 := Lib.hid ownx.rb
        clear C20 ownx frx belx
        clear q0
        go_wp2_with (at_builtin; refine wpList_app rfl (.tmp 66) (.tmp 71) rfl _ A' _ c' _ rfl C21.out.own X21 _ d21 (numB k0) rfl rfl RX21.out (by omega) ?_; intro A22 c22 w22 owny hg hb; have C22 := Lib.hid (C21.out.app owny hg hb); clear owny hg hb)
        have q1 : w22.cell? ⟨w.heap.size, 55, none⟩ = some (.int .u64 (k1 : Int)) := by rw [C22.out.hat.kn 1 (by omega), HKN.out]; rfl
        rw [rounds_succ]
        go_wp2_with fail
        refine (rnum_any k1 _ (by omega)).mono ?_
        rintro e w23 ⟨X23, d23, rfl, ownx, frx, belx⟩
        have C23 := Lib.hid (C22.out.call belx)
        have RX23 := Lib.hid ownx.rb
        clear C22 ownx frx belx
        clear q1
        go_wp2_with (at_builtin; refine wpList_app rfl (.tmp 66) (.tmp 71) rfl _ A22 _ c22 _ rfl C23.out.own X23 _ d23 (numB k1) rfl rfl RX23.out (by omega) ?_; intro A24 c24 w24 owny hg hb; have C24 := Lib.hid (C23.out.app owny hg hb); clear owny hg hb)
        have q2 : w24.cell? ⟨w.heap.size, 56, none⟩ = some (.int .u64 (k2 : Int)) := by rw [C24.out.hat.kn 2 (by omega), HKN.out]; rfl
        rw [rounds_succ]
        go_wp2_with fail
        refine (rnum_any k2 _ (by omega)).mono ?_
        rintro e w25 ⟨X25, d25, rfl, ownx, frx, belx⟩
        have C25 := Lib.hid (C24.out.call belx)
        have RX25 := Lib.hid ownx.rb
        clear C24 ownx frx belx
        clear q2
        go_wp2_with (at_builtin; refine wpList_app rfl (.tmp 66) (.tmp 71) rfl _ A24 _ c24 _ rfl C25.out.own X25 _ d25 (numB k2) rfl rfl RX25.out (by omega) ?_; intro A26 c26 w26 owny hg hb; have C26 := Lib.hid (C25.out.app owny hg hb); clear owny hg hb)
        have q3 : w26.cell? ⟨w.heap.size, 57, none⟩ = some (.int .u64 (k3 : Int)) := by rw [C26.out.hat.kn 3 (by omega), HKN.out]; rfl
        rw [rounds_succ]
        go_wp2_with fail
        refine (rnum_any k3 _ (by omega)).mono ?_
        rintro e w27 ⟨X27, d27, rfl, ownx, frx, belx⟩
        have C27 := Lib.hid (C26.out.call belx)
        have RX27 := Lib.hid ownx.rb
        clear C26 ownx frx belx
        clear q3
        go_wp2_with (at_builtin; refine wpList_app rfl (.tmp 66) (.tmp 71) rfl _ A26 _ c26 _ rfl C27.out.own X27 _ d27 (numB k3) rfl rfl RX27.out (by omega) ?_; intro A28 c28 w28 owny hg hb; have C28 := Lib.hid (C27.out.app owny hg hb); clear owny hg hb)
        have q4 : w28.cell? ⟨w.heap.size, 58, none⟩ = some (.int .u64 (k4 : Int)) := by rw [C28.out.hat.kn 4 (by omega), HKN.out]; rfl
        rw [rounds_succ]
        go_wp2_with fail
        refine (rnum_any k4 _ (by omega)).mono ?_
        rintro e w29 ⟨X29, d29, rfl, ownx, frx, belx⟩
        have C29 := Lib.hid (C28.out.call belx)
        have RX29 := Lib.hid ownx.rb
        clear C28 ownx frx belx
        clear q4
        go_wp2_with (at_builtin; refine wpList_app rfl (.tmp 66) (.tmp 71) rfl _ A28 _ c28 _ rfl C29.out.own X29 _ d29 (numB k4) rfl rfl RX29.out (by omega) ?_; intro A30 c30 w30 owny hg hb; have C30 := Lib.hid (C29.out.app owny hg hb); clear owny hg hb)
        have q5 : w30.cell? ⟨w.heap.size, 59, none⟩ = some (.int .u64 (k5 : Int)) := by rw [C30.out.hat.kn 5 (by omega), HKN.out]; rfl
        rw [rounds_succ]
        go_wp2_with fail
        refine (rnum_any k5 _ (by omega)).mono ?_
        rintro e w31 ⟨X31, d31, rfl, ownx, frx, belx⟩
        have C31 := Lib.hid (C30.out.call belx)
        have RX31 := Lib.hid ownx.rb
        clear C30 ownx frx belx
        clear q5
        go_wp2_with (at_builtin; refine wpList_app rfl (.tmp 66) (.tmp 71) rfl _ A30 _ c30 _ rfl C31.out.own X31 _ d31 (numB k5) rfl rfl RX31.out (by omega) ?_; intro A32 c32 w32 owny hg hb; have C32 := Lib.hid (C31.out.app owny hg hb); clear owny hg hb)
        rw [rounds_succ]
        go_wp2_with (at_builtin; refine wpList_app rfl (.tmp 73) (.tmp 75) rfl _ A32 _ c32 _ rfl C32.out.own (some ⟨w.heap.size, 60, none⟩) _ 32 h.sm rfl HSL.out C32.out.hat.rsm (by omega) ?_; intro A33 c33 w33 owny hg hb; have C33 := Lib.hid (C32.out.app owny hg hb); clear owny hg hb; have q := C33.out.hat.sz; rw [HSZ.out] at q)
        refine (rnum_any z _ (by omega)).mono ?_
        rintro e w34 ⟨X34, d34, rfl, ownx, frx, belx⟩
        have C34 := Lib.hid (C33.out.call belx)
        have RX34 := Lib.hid ownx.rb
        clear C33 ownx frx belx
        go_wp2_with (at_builtin; refine wpList_app rfl (.tmp 77) (.tmp 81) rfl _ A33 _ c33 _ rfl C34.out.own X34 _ d34 (numB z) rfl rfl RX34.out (by omega) ?_; intro A35 c35 w35 owny hg hb; have C35 := Lib.hid (C34.out.app owny hg hb); clear owny hg hb)
        go_ret
        have e := HCO.out
        rw [hct] at e
        simp only [if_true, if_false, Bool.false_eq_true] at e
        rw [e]
        have CE := C35.out
        refine ⟨A35, c35, ?_, ?_, CE.fr, CE.bel⟩
        · exact congrArg (fun m => Ending.returned (.slice A35 m c35)) CE.own.1.symm
        · rw [CE.own.1]
          exact CE.own
  ·
    go_enter Try.func39, Try.ntmps39
    go_wp2_with fail
    refine (rnum_any a _ (by omega)).mono ?_
    rintro e w1 ⟨A1, c1, rfl, own1, fr1, bel1⟩
    have C1 := Lib.hid (CInv.mk own1 (fun r h => Nat.le_trans (by simp) (fr1 r h)) (((Below.refl _ _).alloc (Nat.le_refl _) _).trans (bel1.mono (by simp))) (HH.out.next bel1) : CInv w h A1 _ c1 _ w1)
    have q := C1.out.hat.sq
    clear own1 fr1 bel1 hwr
    go_wp2_with fail
    refine (rnum_any h.sq _ (by omega)).mono ?_
    rintro e w2 ⟨X2, d2, rfl, ownx, frx, belx⟩
    have C2 := Lib.hid (C1.out.call belx)
    have RX2 := Lib.hid ownx.rb
    clear C1 ownx frx belx
    go_wp2_with (first | (at_builtin; refine wpList_app rfl (.tmp 11) (.tmp 14) rfl _ A1 _ c1 _ rfl C2.out.own X2 _ d2 (numB h.sq) rfl rfl RX2.out (by omega) ?_; intro A3 c3 w3 owny hg hb; have C3 := Lib.hid (C2.out.app owny hg hb); clear owny hg hb) | (at_builtin; refine wpList_app rfl (.tmp 16) (.tmp 18) rfl _ A3 _ c3 _ rfl C3.out.own (some ⟨w.heap.size, 2, none⟩) _ 32 h.pv rfl HPL.out C3.out.hat.rpv (by omega) ?_; intro A4 c4 w4 owny hg hb; have C4 := Lib.hid (C3.out.app owny hg hb); clear owny hg hb; have q := C4.out.hat.ep; rw [HEP.out] at q))
    refine (rnum_any ep _ (by omega)).mono ?_
    rintro e w5 ⟨X5, d5, rfl, ownx, frx, belx⟩
    have C5 := Lib.hid (C4.out.call belx)
    have RX5 := Lib.hid ownx.rb
    clear C4 ownx frx belx
    have qc := C5.out.hat.ct
    rw [hct] at qc
    go_wp2_with (first | (at_builtin; refine wpList_app rfl (.tmp 20) (.tmp 24) rfl _ A4 _ c4 _ rfl C5.out.own X5 _ d5 (numB ep) rfl rfl RX5.out (by omega) ?_; intro A6 c6 w6 owny hg hb; have C6 := Lib.hid (C5.out.app owny hg hb); clear owny hg hb; have qc := C6.out.hat.ct; rw [hct] at qc) | (at_builtin; refine wpList_app rfl (.tmp 28) (.tmp 30) rfl _ A6 _ c6 _ rfl (C6.out.alloc _).own (some ⟨w6.heap.size, 0, none⟩) _ 1 [1] rfl rfl (rb_byte w6 1 _ (by rfl)) (by omega) ?_; intro A7 c7 w7 owny hg hb; have C7 := Lib.hid ((C6.out.alloc _).app owny hg hb); clear owny hg hb; have q := C7.out.hat.tm))
    refine (rnum_any h.tm _ (by omega)).mono ?_
    rintro e w8 ⟨X8, d8, rfl, ownx, frx, belx⟩
    have C8 := Lib.hid (C7.out.call belx)
    have RX8 := Lib.hid ownx.rb
    clear C7 ownx frx belx
    go_wp2_with (first | (at_builtin; refine wpList_app rfl (.tmp 32) (.tmp 35) rfl _ A7 _ c7 _ rfl C8.out.own X8 _ d8 (numB h.tm) rfl rfl RX8.out (by omega) ?_; intro A9 c9 w9 owny hg hb; have C9 := Lib.hid (C8.out.app owny hg hb); clear owny hg hb) | (at_builtin; refine wpList_app rfl (.tmp 37) (.tmp 39) rfl _ A9 _ c9 _ rfl C9.out.own (some ⟨w.heap.size, 37, none⟩) _ 16 h.it rfl HIL.out C9.out.hat.rit (by omega) ?_; intro A10 c10 w10 owny hg hb; have C10 := Lib.hid (C9.out.app owny hg hb); clear owny hg hb; have q := C10.out.hat.toks))
    refine (rnum_any h.n _ (by omega)).mono ?_
    rintro e w11 ⟨X11, d11, rfl, ownx, frx, belx⟩
    have C11 := Lib.hid (C10.out.call belx)
    have RX11 := Lib.hid ownx.rb
    clear C10 ownx frx belx
    go_wp2_with (first | (at_builtin; refine wpList_app rfl (.tmp 41) (.tmp 46) rfl _ A10 _ c10 _ rfl C11.out.own X11 _ d11 (numB h.n) rfl rfl RX11.out (by omega) ?_; intro A12 c12 w12 owny hg hb; have C12 := Lib.hid (C11.out.app owny hg hb); clear owny hg hb))
    go_loopw [3, 5] (fun b i wr => ∃ (k m : Nat) (A' : Option Addr) (c' : Nat), k ≤ h.n ∧ i = .int .i64 (k : Int) ∧ b = .slice A' m c' ∧ m ≤ 300 + k * 16 ∧ CInv w h A' m c' ((numB a ++ numB h.sq ++ h.pv ++ numB ep ++ [1] ++ numB h.tm ++ h.it ++ numB h.n) ++ (toks.take k).flatten) wr) (fun _ i _ => h.n - (intOf i).toNat)
    case atStart => exact ⟨0, _, A12, c12, Nat.zero_le _, rfl, rfl, by omega, by simpa using C12.out⟩
    case round =>
      obtain ⟨k, m, A', c', hk, rfl, rfl, hm, hC⟩ := hrel
      have CR := Lib.hid hC
      have q := hC.hat.toks
      clear hC C12
      by_cases hlt : k < h.n
      · have hltl : k < toks.length := by have := HLN.out; omega
        obtain ⟨h16, b, o1, e1, hrg⟩ := (HTS.out.below CR.out.bel) k hltl
        have htf := take_flat toks k hltl
        have HTF := Lib.hid htf
        have HRG := Lib.hid hrg
        have H16 := Lib.hid h16
        rw [e1] at q
        clear htf hrg h16 e1
        go_wp2_with (at_builtin; refine wpList_app rfl (.tmp 55) (.tmp 60) rfl _ A' _ c' _ rfl CR.out.own (some ⟨b, o1 + k * 16, none⟩) _ 16 toks[k] rfl H16.out (rb_range HRG.out) (by omega) ?_; intro A2 c2 w2 owny hg hb; have CX := Lib.hid (CR.out.app owny hg hb); clear owny hg hb CR)
        go_roundw
        case rel =>
          refine ⟨k + 1, _, A2, c2, by omega, by go_num, rfl, by omega, ?_⟩
          rw [HTF.out, ← List.append_assoc]
          exact CX.out
        case measure => simp [intOf]; omega
      · obtain rfl : k = h.n := by omega
        have hall : toks.take h.n = toks := List.take_of_length_le (by have := HLN.out; omega)
        have C0 := CR.out
        rw [hall] at C0
        have C20 := Lib.hid C0
        clear C0 hall CR
        go_wp2_with fail
        refine wp_loop_rounds 7 ?_
        have q0 : wr.cell? ⟨w.heap.size, 54, none⟩ = some (.int .u64 (k0 : Int)) := by rw [C20.out.hat.kn 0 (by omega), HKN.out]; rfl
        rw [rounds_succ]
        go_wp2_with fail
        refine (rnum_any k0 _ (by omega)).mono ?_
        rintro e w21 ⟨X21, d21, rfl, ownx, frx, belx⟩
        have C21 := Lib.hid (C20.out.call belx)
        have RX21 := Lib.hid ownx.rb
        clear C20 ownx frx belx
        clear q0
        go_wp2_with (at_builtin; refine wpList_app rfl (.tmp 66) (.tmp 71) rfl _ A' _ c' _ rfl C21.out.own X21 _ d21 (numB k0) rfl rfl RX21.out (by omega) ?_; intro A22 c22 w22 owny hg hb; have C22 := Lib.hid (C21.out.app owny hg hb); clear owny hg hb)
        have q1 : w22.cell? ⟨w.heap.size, 55, none⟩ = some (.int .u64 (k1 : Int)) := by rw [C22.out.hat.kn 1 (by omega), HKN.out]; rfl
        rw [rounds_succ]
        go_wp2_with fail
        refine (rnum_any k1 _ (by omega)).mono ?_
        rintro e w23 ⟨X23, d23, rfl, ownx, frx, belx⟩
        have C23 := Lib.hid (C22.out.call belx)
        have RX23 := Lib.hid ownx.rb
        clear C22 ownx frx belx
        clear q1
        go_wp2_with (at_builtin; refine wpList_app rfl (.tmp 66) (.tmp 71) rfl _ A22 _ c22 _ rfl C23.out.own X23 _ d23 (numB k1) rfl rfl RX23.out (by omega) ?_; intro A24 c24 w24 owny hg hb; have C24 := Lib.hid (C23.out.app owny hg hb); clear owny hg hb)
        have q2 : w24.cell? ⟨w.heap.size, 56, none⟩ = some (.int .u64 (k2 : Int)) := by rw [C24.out.hat.kn 2 (by omega), HKN.out]; rfl
        rw [rounds_succ]
        go_wp2_with fail
        refine (rnum_any k2 _ (by omega)).mono ?_
        rintro e w25 ⟨X25, d25, rfl, ownx, frx, belx⟩
        have C25 := Lib.hid (C24.out.call belx)
        have RX25 := Lib.hid ownx.rb
        clear C24 ownx frx belx
        clear q2
        go_wp2_with (at_builtin; refine wpList_app rfl (.tmp 66) (.tmp 71) rfl _ A24 _ c24 _ rfl C25.out.own X25 _ d25 (numB k2) rfl rfl RX25.out (by omega) ?_; intro A26 c26 w26 owny hg hb; have C26 := Lib.hid (C25.out.app owny hg hb); clear owny hg hb)
        have q3 : w26.cell? ⟨w.heap.size, 57, none⟩ = some (.int .u64 (k3 : Int)) := by rw [C26.out.hat.kn 3 (by omega), HKN.out]; rfl
        rw [rounds_succ]
        go_wp2_with fail
        refine (rnum_any k3 _ (by omega)).mono ?_
        rintro e w27 ⟨X27, d27, rfl, ownx, frx, belx⟩
        have C27 := Lib.hid (C26.out.call belx)
        have RX27 := Lib.hid ownx.rb
        clear C26 ownx frx belx
        clear q3
        go_wp2_with (at_builtin; refine wpList_app rfl (.tmp 66) (.tmp 71) rfl _ A26 _ c26 _ rfl C27.out.own X27 _ d27 (numB k3) rfl rfl RX27.out (by omega) ?_; intro A28 c28 w28 owny hg hb; have C28 := Lib.hid (C27.out.app owny hg hb); clear owny hg hb)
        have q4 : w28.cell? ⟨w.heap.size, 58, none⟩ = some (.int .u64 (k4 : Int)) := by rw [C28.out.hat.kn 4 (by omega), HKN.out]; rfl
        rw [rounds_succ]
        go_wp2_with fail
        refine (rnum_any k4 _ (by omega)).mono ?_
        rintro e w29 ⟨X29, d29, rfl, ownx, frx, belx⟩
        have C29 := Lib.hid (C28.out.call belx)
        have RX29 := Lib.hid ownx.rb
        clear C28 ownx frx belx
        clear q4
        go_wp2_with (at_builtin; refine wpList_app rfl (.tmp 66) (.tmp 71) rfl _ A28 _ c28 _ rfl C29.out.own X29 _ d29 (numB k4) rfl rfl RX29.out (by omega) ?_; intro A30 c30 w30 owny hg hb; have C30 := Lib.hid (C29.out.app owny hg hb); clear owny hg hb)
        have q5 : w30.cell? ⟨w.heap.size, 59, none⟩ = some (.int .u64 (k5 : Int)) := by rw [C30.out.hat.kn 5 (by omega), HKN.out]; rfl
        rw [rounds_succ]
        go_wp2_with fail
        refine (rnum_any k5 _ (by omega)).mono ?_
        rintro e w31 ⟨X31, d31, rfl, ownx, frx, belx⟩
        have C31 := Lib.hid (C30.out.call belx)
        have RX31 := Lib.hid ownx.rb
        clear C30 ownx frx belx
        clear q5
        go_wp2_with (at_builtin; refine wpList_app rfl (.tmp 66) (.tmp 71) rfl _ A30 _ c30 _ rfl C31.out.own X31 _ d31 (numB k5) rfl rfl RX31.out (by omega) ?_; intro A32 c32 w32 owny hg hb; have C32 := Lib.hid (C31.out.app owny hg hb); clear owny hg hb)
        rw [rounds_succ]
        go_wp2_with (at_builtin; refine wpList_app rfl (.tmp 73) (.tmp 75) rfl _ A32 _ c32 _ rfl C32.out.own (some ⟨w.heap.size, 60, none⟩) _ 32 h.sm rfl HSL.out C32.out.hat.rsm (by omega) ?_; intro A33 c33 w33 owny hg hb; have C33 := Lib.hid (C32.out.app owny hg hb); clear owny hg hb; have q := C33.out.hat.sz; rw [HSZ.out] at q)
        refine (rnum_any z _ (by omega)).mono ?_
        rintro e w34 ⟨X34, d34, rfl, ownx, frx, belx⟩
        have C34 := Lib.hid (C33.out.call belx)
        have RX34 := Lib.hid ownx.rb
        clear C33 ownx frx belx
        go_wp2_with (at_builtin; refine wpList_app rfl (.tmp 77) (.tmp 81) rfl _ A33 _ c33 _ rfl C34.out.own X34 _ d34 (numB z) rfl rfl RX34.out (by omega) ?_; intro A35 c35 w35 owny hg hb; have C35 := Lib.hid (C34.out.app owny hg hb); clear owny hg hb)
        go_ret
        have e := HCO.out
        rw [hct] at e
        simp only [if_true, if_false, Bool.false_eq_true] at e
        rw [e]
        have CE := C35.out
        refine ⟨A35, c35, ?_, ?_, CE.fr, CE.bel⟩
        · exact congrArg (fun m => Ending.returned (.slice A35 m c35)) CE.own.1.symm
        · rw [CE.own.1]
          exact CE.own

end Go.Proofs.Ytdkadlifjmmcbaa
