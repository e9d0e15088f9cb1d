/- The walks of the reference's packing: text, PackChange. -/
import Derived.Test.YtdkadlifjmmcbaaRf
import Derived.Test.YtdkadlifjmmcbaaCh
import Derived.Test.YtdkadlifjmmcbaaStr
namespace Go.Proofs.Ytdkadlifjmmcbaa
open Go.RowKit

set_option maxRecDepth 100000 in
set_option maxHeartbeats 400000 in
theorem rtext_any (s : ByteArray) (w : World) (hs : s.size ≤ 1000000) : Calls Try.prog 30 #[.string s] w (RetB (textB s) (fun v => v) w) := by
  have hnl := numB_len64 (x := s.size) (by omega)
  go_enter Try.func30, Try.ntmps30
  go_wp2_with fail
  refine (rnum_any _ _ (by omega)).mono ?_
  rintro e w1 ⟨A, c, rfl, hown, hfr, hbel⟩
  go_wp2_with (at_builtin; refine wpList_app rfl (.tmp 6) (.tmp 8) rfl _ A _ c _ rfl (hown.next (bw_below w1 s)) _ _ _ (sB s) rfl (sB_len s) (bw_rb w1 s) (by omega) ?_; intro A' c' w2 hown2 hg2 hb2)
  have hbel2 : Below w.heap.size w w2 := bel_app (hbel.trans ((bw_below w1 s).mono hbel.size)) hg2 (by have := hbel.size; simp; omega) hfr
  have hfr2 : Fresh w.heap.size A' := Fresh.app hfr hb2 (by have := hbel.size; simp; omega)
  clear hg2 hb2 hown hfr hbel
  go_ret
  exact ⟨A', c', by simp [textB, sB_len], by simpa [textB, sB_len] using hown2, hfr2, hbel2⟩

theorem blk_app {w w' : World} {g : Nat} {t : TypeId} {cs : Array Value} {A : Option Addr} {n c : Nat} {acc : List UInt8} (hb : Blk w g t cs) (ht : t ≠ 5) (ho : OwnB w A n c acc) (hg : w.grownBy w' (blkOf A)) : Blk w' g t cs :=
  (hg.block g hb.lt (fun e => ho.ne hb ht e.symm rfl)).trans hb
theorem Blk.next {w w' : World} {g : Nat} {t : TypeId} {cs : Array Value} (h : Blk w g t cs) (hb : Below w.heap.size w w') : Blk w' g t cs := h.below hb h.lt

set_option maxRecDepth 100000 in
set_option maxHeartbeats 1000000 in
theorem rpack_any (op : Nat) (name val : ByteArray) (A : Option Addr) (n c : Nat) (l : List ByteArray) (w : World) (hop : op ≤ 1000) (hl : l.length = n) (hr : RS w A l) (h8 : n ≤ 1000)
    (hs : ∀ s ∈ l, s.size ≤ 1000) (hn : name.size ≤ 1000) (hv : val.size ≤ 1000) :
    Calls Try.prog 11 #[.agg #[.int .i64 op, .string name, .slice A n c, .string val]] w (RetB (packC op name l val) (fun v => v) w) := by
  have HL := Lib.hid hl
  have HR := Lib.hid hr
  have HS := Lib.hid hs
  have hno := numB_len64 (x := op) (by omega)
  have hnn := textB_len name (by omega)
  have hnk := numB_len64 (x := n) (by omega)
  have hblk : Blk (w.alloc (.cells #[.int .i64 op, .string name, .slice A n c, .string val] 24)) w.heap.size 24 #[.int .i64 op, .string name, .slice A n c, .string val] := Blk.new _ _ _
  have HB := Lib.hid hblk
  clear hl hr hs hblk
  go_enter Try.func11, Try.ntmps11
  go_wp2_with fail
  refine (rnum_any op _ (by omega)).mono ?_
  rintro e w1 ⟨A1, c1, rfl, own1, fr1, bel1⟩
  have HB1 := Lib.hid (HB.out.next bel1)
  have q1 := HB1.out.cell 1
  have bel01 : Below w.heap.size w w1 := ((Below.refl _ _).alloc (Nat.le_refl _) _).trans (bel1.mono (by simp))
  have fr01 : Fresh w.heap.size A1 := fun r h => Nat.le_trans (by simp) (fr1 r h)
  clear bel1 fr1
  go_wp2_with fail
  refine (rtext_any name _ (by omega)).mono ?_
  rintro e w2 ⟨At, ct, rfl, ownt, frt, belt⟩
  have HB2 := Lib.hid (HB1.out.next belt)
  have bel02 := bel01.trans (belt.mono bel01.size)
  clear q1
  go_wp2_with (at_builtin; refine wpList_app rfl (.tmp 9) (.tmp 12) rfl _ A1 _ c1 _ rfl (own1.next belt) At _ ct (textB name) rfl rfl ownt.rb (by omega) ?_; intro A2 c2 w3 own2 hg2 hb2; have HB3 := Lib.hid (blk_app HB2.out (by decide) (own1.next belt) hg2); have q2 := HB3.out.cell 2; have bel03 : Below w.heap.size w w3 := bel_app bel02 hg2 bel02.size fr01; have fr03 : Fresh w.heap.size A2 := fr01.app hb2 bel02.size; clear hg2 hb2)
  refine (rnum_any n _ (by omega)).mono ?_
  rintro e w4 ⟨Au, cu, rfl, ownu, fru, belu⟩
  have HB4 := Lib.hid (HB3.out.next belu)
  have bel04 := bel03.trans (belu.mono bel03.size)
  clear q2 own1 ownt frt belt bel01 fr01 bel02
  go_wp2_with (at_builtin; refine wpList_app rfl (.tmp 14) (.tmp 19) rfl _ A2 _ c2 _ rfl (own2.next belu) Au _ cu (numB n) rfl rfl ownu.rb (by omega) ?_; intro A3 c3 w5 own3 hg3 hb3; have HB5 := Lib.hid (blk_app HB4.out (by decide) (own2.next belu) hg3); have bel05 : Below w.heap.size w w5 := bel_app bel04 hg3 bel04.size fr03; have fr05 : Fresh w.heap.size A3 := fr03.app hb3 bel04.size; clear hg3 hb3)
  clear own2 ownu fru belu bel03 fr03 bel04
  have hflat := fun k => flat_len l k HS.out
  have HF := Lib.hid hflat
  clear hflat
  go_loopw [3, 4] (fun b i wr => ∃ (k m : Nat) (A' : Option Addr) (c' : Nat), k ≤ n ∧ i = .int .i64 k ∧ b = .slice A' m c' ∧ m ≤ 1030 + k * 1010 ∧
      OwnB wr A' m c' (numB op ++ textB name ++ numB n ++ ((l.take k).map textB).flatten) ∧ Fresh w.heap.size A' ∧ Below w.heap.size w wr ∧ Blk wr w.heap.size 24 #[.int .i64 op, .string name, .slice A n c, .string val])
    (fun _ i _ => n - (intOf i).toNat)
  case atStart => exact ⟨0, _, A3, c3, Nat.zero_le _, rfl, rfl, by omega, by simpa using own3, fr05, bel05, HB5.out⟩
  case round =>
    obtain ⟨k, m, A', c', hk, rfl, rfl, hm, hown, hfr, hbel, hblk⟩ := hrel
    have HBr := Lib.hid hblk
    have q2 := hblk.cell 2
    have q3 := hblk.cell 3
    clear hblk own3 fr05 bel05 HB5
    by_cases hlt : k < n
    · have hltl : k < l.length := by have := HL.out; omega
      obtain ⟨b, o, rfl, hcx⟩ := HR.out k hltl
      have hbl := cell_lt hcx
      have hsz := HS.out _ (List.getElem_mem hltl)
      have hcy : wr.cell? ⟨b, o + k, none⟩ = some (.string l[k]) := (hbel.cell hbl).trans hcx
      have htl := textB_len l[k] (by omega)
      have hft := flat_take l k hltl
      have HFT := Lib.hid hft
      clear hft
      go_wp2_with fail
      refine (rtext_any l[k] _ (by omega)).mono ?_
      rintro e w2 ⟨At, ct, rfl, ownt, frt, belt⟩
      have HB2 := Lib.hid (HBr.out.next belt)
      have bel2 := hbel.trans (belt.mono hbel.size)
      clear q2 q3 hcy
      go_wp2_with (at_builtin; refine wpList_app rfl (.tmp 28) (.tmp 34) rfl _ A' _ c' _ rfl (hown.next belt) At _ ct (textB l[k]) rfl rfl ownt.rb (by omega) ?_; intro A4 c4 w3 own4 hg4 hb4; have HB3 := Lib.hid (blk_app HB2.out (by decide) (hown.next belt) hg4); have bel3 : Below w.heap.size w w3 := bel_app bel2 hg4 bel2.size hfr; have fr4 : Fresh w.heap.size A4 := hfr.app hb4 bel2.size; clear hg4 hb4)
      clear hown hfr hbel ownt frt belt bel2
      go_roundw
      case rel =>
        refine ⟨k + 1, _, A4, c4, by omega, by go_num, rfl, by omega, ?_, fr4, bel3, HB3.out⟩
        rw [HFT.out, ← List.append_assoc]
        exact own4
      case measure => simp [intOf]; omega
    · obtain rfl : k = n := by omega
      have hall : l.take k = l := List.take_of_length_le (by have := HL.out; omega)
      rw [hall] at hown
      have htv := textB_len val (by omega)
      clear hall
      go_wp2_with fail
      refine (rtext_any val _ (by omega)).mono ?_
      rintro e w2 ⟨At, ct, rfl, ownt, frt, belt⟩
      have bel2 := hbel.trans (belt.mono hbel.size)
      clear q2 q3
      go_wp2_with (at_builtin; refine wpList_app rfl (.tmp 36) (.tmp 39) rfl _ A' _ c' _ rfl (hown.next belt) At _ ct (textB val) rfl rfl ownt.rb (by omega) ?_; intro A4 c4 w3 own4 hg4 hb4; have bel3 : Below w.heap.size w w3 := bel_app bel2 hg4 bel2.size hfr; have fr4 : Fresh w.heap.size A4 := hfr.app hb4 bel2.size; clear hg4 hb4)
      go_ret
      have e : packC op name l val = numB op ++ textB name ++ numB k ++ (l.map textB).flatten ++ textB val := by rw [packC, HL.out]
      rw [e]
      refine ⟨A4, c4, ?_, ?_, fr4, bel3⟩
      · exact congrArg (fun m => Ending.returned (.slice A4 m c4)) own4.1.symm
      · rw [own4.1]
        exact own4

end Go.Proofs.Ytdkadlifjmmcbaa
