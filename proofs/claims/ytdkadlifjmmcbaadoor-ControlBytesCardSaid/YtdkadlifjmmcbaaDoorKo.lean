/- The walk of control.Bytes. -/
import Derived.Test.YtdkadlifjmmcbaaDoorKb
import Derived.Test.YtdkadlifjmmcbaaDoorKn
namespace Go.Proofs.YtdkadlifjmmcbaaDoor
open Go.RowKit

theorem outis_new (w : World) (S : Nat → Prop) (hS : ∀ i, S i → i < w.heap.size) : OutIs S (w.alloc (.cells #[.slice none 0 0, .bool false] 67)) w.heap.size [] false :=
  ⟨fun i hi => by have := hS i hi; simp; omega, fun h => by have := hS _ h; omega, none, 0, Blk.new _ _ _, OwnB.nil _, fun r h => by cases h⟩

set_option maxRecDepth 100000 in
set_option maxHeartbeats 400000 in
theorem otext_arg (S : Nat → Prop) (w : World) (g : Nat) (acc : List UInt8) (h : OutIs S w g acc false) (A2 : Option Addr) (m c2 : Nat) (l : List UInt8) (hl : l.length = m) (hr : RB w A2 l) (hA : 0 < l.length → In_ S A2) (h4 : l.length ≤ 4096)
    (hb : acc.length ≤ 70000000000000) :
    Calls Tryd.prog 37 #[.pointer (some ⟨g, 0, none⟩), .slice A2 m c2] w (RetOut S w g (acc ++ txtB l) false) := by
  subst hl
  have hrk : ∀ w1, Keep S w w1 → RB w1 A2 l := by
    intro w1 hk
    rcases Nat.eq_zero_or_pos l.length with h0 | h0
    · rw [List.eq_nil_of_length_eq_zero h0]
      exact RB.nil
    · exact hk.rb hr (hA h0)
  have HRK := Lib.hid hrk
  have e : acc ++ txtB l = acc ++ numB l.length ++ l := by rw [txtB, List.append_assoc]
  rw [e]
  clear hr hA hrk e
  go_enter Tryd.func37, Tryd.ntmps37
  go_wp2_with fail
  refine (onum_any S _ g acc false h _ (by omega) hb).mono ?_
  rintro e w1 ⟨rfl, hout1, hk1⟩
  go_wp2_with fail
  refine (oraw_any S _ g _ false hout1 _ _ _ l rfl (HRK.out _ hk1) (by have := numB_len64 (x := l.length) (by omega); simp; omega)).mono ?_
  rintro e w2 ⟨rfl, hout2, hk2⟩
  go_wp2
  go_end0
  exact ⟨rfl, hout2, hk1.trans hk2⟩

theorem rb_kept {S : Nat → Prop} {w w0 w' : World} {A : Option Addr} {l : List UInt8} (hr : RB w A l) (hb : Below w.heap.size w w0) (hk : Keep S w0 w') (hS : ∀ i, i < w.heap.size → S i) : RB w' A l := by
  intro j hj
  obtain ⟨b, o, e, hc⟩ := hr j hj
  have hlt := cell_lt hc
  exact ⟨b, o, e, ((hk.cell (hS b hlt) (Nat.lt_of_lt_of_le hlt hb.size)).trans (hb.cell hlt)).trans hc⟩
theorem rb_in {S : Nat → Prop} {w : World} {A : Option Addr} {l : List UInt8} (hr : RB w A l) (hS : ∀ i, i < w.heap.size → S i) (h : 0 < l.length) : In_ S A := by
  intro r hx
  obtain ⟨b, o, e, hc⟩ := hr 0 h
  rw [e] at hx
  cases hx
  exact hS b (cell_lt hc)

set_option maxRecDepth 100000 in
set_option maxHeartbeats 1000000 in
theorem kbytes_no (k : Ctl) (ok : k.ss.length = 6) (w : World) (hf : k.formed = false) :
    Calls Tryd.prog 15 #[.agg k.arr] w fun e w' => e = .returned (.tuple #[.slice none 0 0, .int .i64 1]) ∧ Below w.heap.size w w' := by
  have hfo := fun W => cformed_any k ok W
  rw [hf] at hfo
  have HFO := Lib.hid hfo
  have hsz : (Tryd.prog.info? 35).map (·.size) = some k.arr.size := by rw [Ctl.size ok]; kernel_rfl
  have hrow := (CAt.new w ok).blk
  unfold Blk at hrow
  have hb0 : Below w.heap.size w (w.alloc (.cells k.arr 35)) := (Below.refl _ w).alloc (Nat.le_refl _) _
  clear hfo hf
  go_enter Tryd.func15, Tryd.ntmps15
  go_wp2_with (first | (refine wpList_load_row rfl 35 _ rfl w.heap.size rfl 35 _ (0, 0) _ hrow Tryd.underlying35 rfl hsz ?_) | fail)
  refine (HFO.out _).mono ?_
  rintro e w1 ⟨rfl, bel1⟩
  go_wp2
  go_returns
  exact ⟨rfl, hb0.trans (bel1.mono hb0.size)⟩

set_option maxRecDepth 100000 in
set_option maxHeartbeats 1000000 in
theorem kbytes_yes (k : Ctl) (op me cut : Nat) (ts : List (List UInt8)) (hd : List UInt8) (w : World) (hR : KReads w k op me cut ts hd) (hf : k.formed = true) :
    Calls Tryd.prog 15 #[.agg k.arr] w (RetB (bytesK op me cut ts hd) (fun v => .tuple #[v, .int .i64 0]) w) := by
  have hBK : bytesK op me cut ts hd = numB op ++ numB me ++ numB cut ++ (ts.map txtB).flatten ++ txtB hd := rfl
  generalize bytesK op me cut ts hd = L at *
  have HBK := Lib.hid hBK
  clear hBK
  have ok := hR.len
  have hff := hR.formed
  rw [hf] at hff
  obtain ⟨_, o2, _, m2, hc2, hs48, hh48⟩ := formedK_facts hff.symm
  have hs' : ∀ s ∈ ts, s.length ≤ 48 := fun s h => hs48 _ (List.mem_map.2 ⟨s, h, rfl⟩)
  have HS48 := Lib.hid hs'
  have hfo := fun W => cformed_any k ok W
  rw [hf] at hfo
  have HFO := Lib.hid hfo
  have hsz : (Tryd.prog.info? 35).map (·.size) = some k.arr.size := by rw [Ctl.size ok]; kernel_rfl
  have H := CAt.new w ok
  have HH := Lib.hid H
  have hrow := H.blk
  unfold Blk at hrow
  have hb0 : Below w.heap.size w (w.alloc (.cells k.arr 35)) := (Below.refl _ w).alloc (Nat.le_refl _) _
  have HB0 := Lib.hid hb0
  have HRD := Lib.hid hR
  have HOK := Lib.hid ok
  have lo := numB_len64 (x := op) (by omega)
  have lm := numB_len64 (x := me) (by omega)
  have lc := numB_len64 (x := cut) (by omega)
  have hsz6 : (Tryd.prog.info? 33).map (·.size) = some (k.ss.map Sl.v).length := by rw [List.length_map, ok]; kernel_rfl
  obtain ⟨iu, hiu, hius⟩ := info_size (P := Tryd.prog) (t := 31) (n := 1) (by kernel_rfl)
  have hix := fun (W : World) (j : Nat) (v : Value) (hj : j < 6) hv => run_index_sl (P := Tryd.prog) W 33 31 5 6 (k.ss.map Sl.v).toArray .i64 j v iu Tryd.underlying33 hiu hius Tryd.underlying31 hj hv
  have HIX := Lib.hid hix
  clear hix hiu hius hfo hf hff hs' hs48 hR H ok
  go_enter Tryd.func15, Tryd.ntmps15
  go_wp2_with (first | (refine wpList_load_row rfl 35 _ rfl w.heap.size rfl 35 _ (0, 0) _ hrow Tryd.underlying35 rfl hsz ?_) | fail)
  refine (HFO.out _).mono ?_
  rintro e w1 ⟨rfl, bel1⟩
  have hlt1 := bel1.size
  simp only [World.size_alloc] at hlt1
  have hk1 : Keep (fun i => i < w.heap.size + 1) (w.alloc (.cells k.arr 35)) w1 := Keep.of_below bel1 (fun i _ hi => by simp; omega)
  have hout := outis_new w1 (fun i => i < w.heap.size + 1) (fun i hi => by omega)
  have hkk := hk1.alloc (.cells #[.slice none 0 0, .bool false] 67)
  have HK := Lib.hid hkk
  have HO := Lib.hid hout
  have hop := (HH.out.keep hkk (Nat.lt_succ_self _)).op
  rw [HRD.out.op] at hop
  clear bel1 hk1 hkk hout hrow
  go_wp2_with fail
  refine (onum_any _ _ _ [] false HO.out op (by omega) (by simp)).mono ?_
  rintro e w2 ⟨rfl, hout2, hk2⟩
  have hk02 := HK.out.trans hk2
  have hme := (HH.out.keep hk02 (Nat.lt_succ_self _)).me
  rw [HRD.out.me] at hme
  have HK2 := Lib.hid hk02
  have HO2 := Lib.hid hout2
  clear hk02 hout2 hk2 HK HO hop
  go_wp2_with fail
  refine (onum_any _ _ _ _ false HO2.out me (by omega) (by simp; omega)).mono ?_
  rintro e w3 ⟨rfl, hout3, hk3⟩
  have hk03 := HK2.out.trans hk3
  have hcu := (HH.out.keep hk03 (Nat.lt_succ_self _)).cut
  rw [HRD.out.cut] at hcu
  have HK3 := Lib.hid hk03
  have HO3 := Lib.hid hout3
  clear hk03 hout3 hk3 HK2 HO2 hme
  go_wp2_with fail
  refine (onum_any _ _ _ _ false HO3.out cut (by omega) (by simp; omega)).mono ?_
  rintro e w4 ⟨rfl, hout4, hk4⟩
  have hk04 := HK3.out.trans hk4
  have hrg := (HH.out.keep hk04 (Nat.lt_succ_self _)).row
  have HRG := Lib.hid hrg
  have HK4 := Lib.hid hk04
  have HO4 := Lib.hid hout4
  clear hk04 hout4 hk4 HK3 HO3 hcu hrg
  go_wp2_with (first | ((with_reducible refine wpList_load_midS w.heap.size 3 (k.ss.map Sl.v) _ HRG.out Tryd.underlying33 ?_ hsz6 ?_ ?_ ?_); rfl; rfl; rfl) | fail)
  go_loopw [23] (fun i wr => ∃ j : Nat, j ≤ 6 ∧ i = .int .i64 (j : Int) ∧ OutIs (fun i => i < w.heap.size + 1) wr w1.heap.size (numB op ++ numB me ++ numB cut ++ ((ts.take j).map txtB).flatten) false ∧ (numB op ++ numB me ++ numB cut ++ ((ts.take j).map txtB).flatten).length ≤ 40 + 60 * j ∧ Keep (fun i => i < w.heap.size + 1) (w.alloc (.cells k.arr 35)) wr) (fun i _ => 6 - (intOf i).toNat)
  case atStart => exact ⟨0, by omega, rfl, by simpa using HO4.out, by simp; omega, HK4.out⟩
  case round =>
    obtain ⟨j, hj, rfl, hout, hlen, hkr⟩ := hrel
    have HOR := Lib.hid hout
    have HKR := Lib.hid hkr
    clear hout HO4 HK4
    by_cases hlt : j < 6
    · have hlk : j < k.ss.length := by rw [HOK.out]; exact hlt
      have hlt2 : j < ts.length := by rw [HRD.out.tl]; exact hlt
      have hx := fun W => HIX.out W j k.ss[j].v hlt (by simp [hlk])
      have hrd := HRD.out.sl j hlk hlt2
      have hle := HS48.out _ (List.getElem_mem hlt2)
      have htf := take_txt ts j hlt2
      have HTF := Lib.hid htf
      have ltx := txtB_len ts[j] (by omega)
      clear htf
      generalize k.ss[j] = sk at *
      obtain ⟨Ak, nk, ck⟩ := sk
      simp only [Sl.v] at hx hrd
      have HR1 := Lib.hid hrd.1.symm
      have HR2 := Lib.hid hrd.2
      clear hrd hkr
      go_wp2_with fail
      refine (otext_arg _ _ _ _ HOR.out Ak nk ck ts[j] HR1.out (rb_kept HR2.out HB0.out HKR.out (fun i hi => Nat.lt_succ_of_lt hi)) (rb_in HR2.out (fun i hi => Nat.lt_succ_of_lt hi)) (by omega) (by omega)).mono ?_
      rintro e w5 ⟨rfl, hout5, hk5⟩
      have HO5 := Lib.hid hout5
      have HK5 := Lib.hid (HKR.out.trans hk5)
      clear hout5 hk5
      go_wp2
      refine ⟨⟨j + 1, by omega, by go_num, ?_, ?_, HK5.out⟩, by simp [intOf]; omega⟩
      · rw [HTF.out, ← List.append_assoc]
        exact HO5.out
      · rw [HTF.out, ← List.append_assoc, List.length_append]
        omega
    · obtain rfl : j = 6 := by omega
      have hall : ts.take 6 = ts := List.take_of_length_le (by rw [HRD.out.tl]; omega)
      have hhd := (HH.out.keep hkr (Nat.lt_succ_self _)).hd
      have hO := HOR.out
      rw [hall] at hO hlen
      have HOZ := Lib.hid hO
      have lh := txtB_len hd (by omega)
      clear hO hall HOR hkr
      go_wp2_with fail
      refine (otext_arg _ _ _ _ HOZ.out _ _ _ hd HRD.out.hd.1.symm (rb_kept HRD.out.hd.2 HB0.out HKR.out (fun i hi => Nat.lt_succ_of_lt hi)) (rb_in HRD.out.hd.2 (fun i hi => Nat.lt_succ_of_lt hi)) (by omega) (by omega)).mono ?_
      rintro e w5 ⟨rfl, hout5, hk5⟩
      have hk05 := HKR.out.trans hk5
      have HO5 := Lib.hid hout5
      have HK5 := Lib.hid hk05
      clear hout5 hk5 hk05 hhd
      go_wp2_with fail
      refine (oend_any _ _ _ L (by rw [HBK.out]; exact HO5.out) (by rw [HBK.out, List.length_append]; omega)).mono ?_
      rintro e w6 ⟨A6, c6, rfl, own6, fr6, bel6⟩
      go_wp2
      go_returns
      have hbw : Below w.heap.size w w5 := HB0.out.trans (HK5.out.below (fun i hi => Nat.lt_succ_of_lt hi) HB0.out.size)
      exact ⟨A6, c6, rfl, own6, fun r hr => Nat.le_trans hbw.size (fr6 r hr), hbw.trans (bel6.mono hbw.size)⟩

end Go.Proofs.YtdkadlifjmmcbaaDoor
