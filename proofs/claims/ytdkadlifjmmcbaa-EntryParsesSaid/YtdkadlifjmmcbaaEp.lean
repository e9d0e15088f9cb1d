/- The walk of the program's PackChange. -/
import Derived.Test.YtdkadlifjmmcbaaCh2
import Derived.Test.YtdkadlifjmmcbaaRf2
namespace Go.Proofs.Ytdkadlifjmmcbaa
open Go.RowKit

theorem OutIs.next {S : Nat → Prop} {w w' : World} {g : Nat} {acc : List UInt8} {long : Bool} (h : OutIs S w g acc long) (hb : Below w.heap.size w w') : OutIs S w' g acc long := by
  obtain ⟨hlt, hng, A, c, hblk, hown, hS⟩ := h
  exact ⟨fun i hi => Nat.lt_of_lt_of_le (hlt i hi) hb.size, hng, A, c, hblk.below hb hblk.lt, hown.keep fun r hr => hb.block r (hown.lt hr), hS⟩
/-- S may be made greater by new blocks -/
theorem OutIs.add {S S' : Nat → Prop} {w w' : World} {g : Nat} {acc : List UInt8} {long : Bool} (h : OutIs S w g acc long) (hb : Below w.heap.size w w') (hS : ∀ i, S' i → S i ∨ (w.heap.size ≤ i ∧ i < w'.heap.size)) : OutIs S' w' g acc long := by
  obtain ⟨hlt, hng, A, c, hblk, hown, hS0⟩ := h
  refine ⟨fun i hi => ?_, fun hg => ?_, A, c, hblk.below hb hblk.lt, hown.keep fun r hr => hb.block r (hown.lt hr), fun r hr hx => ?_⟩
  · rcases hS i hi with h | h
    · exact Nat.lt_of_lt_of_le (hlt i h) hb.size
    · exact h.2
  · rcases hS g hg with h | h
    · exact hng h
    · have := hblk.lt
      omega
  · rcases hS r hx with h | h
    · exact hS0 r hr h
    · have := hown.lt hr
      omega
theorem OutIs.mono {S S' : Nat → Prop} {w : World} {g : Nat} {acc : List UInt8} {long : Bool} (h : OutIs S w g acc long) (hS : ∀ i, S' i → S i) : OutIs S' w g acc long := by
  obtain ⟨hlt, hng, A, c, hblk, hown, hS0⟩ := h
  exact ⟨fun i hi => hlt i (hS i hi), fun hg => hng (hS g hg), A, c, hblk, hown, fun r hr hx => hS0 r hr (hS r hx)⟩
theorem OutIs.new (w : World) (S : Nat → Prop) (hS : ∀ i, S i → i < w.heap.size) : OutIs S (w.alloc (.cells #[.slice none 0 0, .bool false] 52)) w.heap.size [] false :=
  ⟨fun i hi => by have := hS i hi; simp; omega, fun h => by have := hS _ h; omega, none, 0, Blk.new _ _ _, OwnB.nil _, fun r h => by cases h⟩

theorem textO_text (acc : List UInt8) (s : ByteArray) (h : s.size ≤ 4096) : textO acc (sB s) = acc ++ textB s := by
  rw [textO, if_neg (by rw [sB_len]; omega), textB, sB_len, List.append_assoc]

/-- Text of a string that was turned to bytes just now -/
theorem otext_str (S : Nat → Prop) (w : World) (g : Nat) (acc : List UInt8) (h : OutIs S w g acc false) (s : ByteArray) (c2 : Nat) (hs : s.size ≤ 4096) (hb : acc.length ≤ 70000000000000) :
    Calls Try.prog 19 #[.pointer (some ⟨g, 0, none⟩), .slice (some ⟨w.heap.size, 0, none⟩) s.size c2] (Lib.bytesWorld w 5 s) fun e w' =>
      e = .returned (.tuple #[]) ∧ OutIs S w' g (acc ++ textB s) false ∧ Keep S w w' := by
  have hout := h.add (S' := fun i => S i ∨ i = w.heap.size) (bw_below w s) (fun i hi => hi.imp id fun e => by subst e; simp)
  refine (otext_any _ _ g acc false hout _ _ c2 (sB s) (sB_len s) (bw_rb w s) (fun r hr => .inr (by cases hr; rfl)) hb).mono ?_
  rintro e w1 ⟨rfl, h1, h2⟩
  rw [textO_text acc s hs, sB_len, decide_eq_false (by omega), Bool.or_false] at h1
  refine ⟨rfl, h1.mono fun i hi => .inl hi, (Keep.fresh (bw_below w s)).trans (h2.mono fun i _ hi => .inl hi)⟩

theorem formed_sizes {op : Int} {name val : ByteArray} {l : List ByteArray} (h : formedC op name l val = true) : name.size ≤ 24 ∧ l.length ≤ 8 ∧ val.size ≤ 512 ∧ 1 ≤ op ∧ op ≤ 3 ∧ ∀ s ∈ l, s.size ≤ 24 := by
  unfold formedC at h
  simp only [Bool.and_eq_true, Bool.or_eq_true, decide_eq_true_eq, beq_iff_eq] at h
  obtain ⟨⟨⟨⟨hn, ht⟩, h8⟩, hv⟩, ho⟩ := h
  refine ⟨?_, h8, hv, by omega, by omega, fun s hs => ?_⟩
  · unfold nameB at hn
    simp at hn
    exact hn.2
  · obtain ⟨i, hi, rfl⟩ := List.getElem_of_mem hs
    have h1 := tagsB_get ht hi
    unfold tagOK nameB at h1
    simp [hi] at h1
    exact h1.1.2

set_option maxRecDepth 100000 in
set_option maxHeartbeats 1000000 in
theorem epack_no (op : Int) (name val : ByteArray) (A : Option Addr) (n c : Nat) (l : List ByteArray) (w : World) (hl : l.length = n) (hr : RS w A l) (hb : n ≤ 140737488355328)
    (hs : ∀ s ∈ l, s.size ≤ 140737488355328) (hn : name.size ≤ 140737488355328) (hv : val.size ≤ 140737488355328) (hf : formedC op name l val = false) :
    Calls Try.prog 7 #[.agg #[.int .i64 op, .string name, .slice A n c, .string val]] w fun e w' => e = .returned (.tuple #[.slice none 0 0, .int .i64 1]) ∧ Below w.heap.size w w' := by
  have h1 := fun o => eformed_any op name val A n c l (w.alloc o) hl (hr.alloc o) hb hs hn hv
  rw [hf] at h1
  have H1 := Lib.hid h1
  clear h1 hl hr hs hf
  go_enter Try.func7, Try.ntmps7
  go_wp2_with fail
  refine (H1.out _).mono ?_
  rintro e w1 ⟨rfl, hbel⟩
  go_wp2
  go_ret2
  exact ⟨rfl, ((Below.refl _ _).alloc (Nat.le_refl _) _).trans (hbel.mono (by simp))⟩

set_option maxRecDepth 100000 in
set_option maxHeartbeats 1000000 in
theorem epack_yes (op : Nat) (name val : ByteArray) (A : Option Addr) (n c : Nat) (l : List ByteArray) (w : World) (hl : l.length = n) (hr : RS w A l) (hf : formedC op name l val = true) :
    Calls Try.prog 7 #[.agg #[.int .i64 op, .string name, .slice A n c, .string val]] w (RetB (packC op name l val) (fun v => .tuple #[v, .int .i64 0]) w) := by
  obtain ⟨hn, h8, hv, ho1, ho3, hs⟩ := formed_sizes hf
  have h1 := fun o => eformed_any op name val A n c l (w.alloc o) hl (hr.alloc o) (by omega) (fun s h => by have := hs s h; omega) (by omega) (by omega)
  rw [hf] at h1
  have H1 := Lib.hid h1
  have HL := Lib.hid hl
  have HR := Lib.hid hr
  have HS := Lib.hid hs
  have hno := numB_len64 (x := op) (by omega)
  have hnn := textB_len name (by omega)
  have hn8 : n ≤ 8 := by omega
  have hnk := numB_len64 (x := n) (by omega)
  have hblk : Blk (w.alloc (.cells #[.int .i64 op, .string name, .slice A n c, .string val] 24)) w.heap.size 24 #[.int .i64 op, .string name, .slice A n c, .string val] := Blk.new _ _ _
  have HB := Lib.hid hblk
  have hflat := fun k => flat_len l k (fun s h => by have := hs s h; omega)
  have HF := Lib.hid hflat
  clear hl hr hs hblk h1 hf hflat h8 ho1
  go_enter Try.func7, Try.ntmps7
  go_wp2_with fail
  refine (H1.out _).mono ?_
  rintro e w1 ⟨rfl, bel1⟩
  have hblk1 := HB.out.next bel1
  have HB1 := Lib.hid hblk1
  have q0 := hblk1.cell 0
  have hlt1 := hblk1.lt
  have hout := OutIs.new w1 (fun i => i < w1.heap.size) (fun i h => h)
  have HO := Lib.hid hout
  have bel01 : Below w.heap.size w w1 := ((Below.refl _ _).alloc (Nat.le_refl _) _).trans (bel1.mono (by simp))
  clear hblk1 hout H1 bel1
  go_wp2_with fail
  refine (onum_any _ _ w1.heap.size [] false HO.out op (by omega) (by simp)).mono ?_
  rintro e w2 ⟨rfl, out2, k2⟩
  have hk2 : Keep (fun i => i < w1.heap.size) w1 w2 := ((Keep.refl _ w1).alloc _).trans k2
  have hblk2 := hk2.blk HB1.out hlt1
  have q1 := hblk2.cell 1
  clear k2 q0 HO hblk2
  go_wp2_with fail
  refine (otext_str _ _ _ _ out2 name _ (by omega) (by simp; omega)).mono ?_
  rintro e w3 ⟨rfl, out3, k3⟩
  have hk3 := hk2.trans k3
  have hblk3 := hk3.blk HB1.out hlt1
  have q2 := hblk3.cell 2
  clear k3 q1 hblk3 hk2 out2
  go_wp2_with fail
  refine (onum_any _ _ _ _ false out3 n (by omega) (by simp; omega)).mono ?_
  rintro e w4 ⟨rfl, out4, k4⟩
  have hk4 := hk3.trans k4
  have hblk4 := hk4.blk HB1.out hlt1
  have q2' := hblk4.cell 2
  have q3 := hblk4.cell 3
  clear k4 q2 hblk4 hk3 out3
  go_wp2
  go_loopw [26] (fun i wr => ∃ (k : Nat) (acc : List UInt8), k ≤ n ∧ i = .int .i64 k ∧ acc = numB op ++ textB name ++ numB n ++ ((l.take k).map textB).flatten ∧
      OutIs (fun i => i < w1.heap.size) wr w1.heap.size acc false ∧ Keep (fun i => i < w1.heap.size) w1 wr) (fun i _ => n - (intOf i).toNat)
  case atStart => exact ⟨0, _, Nat.zero_le _, rfl, rfl, by simpa using out4, hk4⟩
  case round =>
    obtain ⟨k, acc, hk, rfl, hacc, hout, hkp⟩ := hrel
    have hal : acc.length ≤ 100 + k * 1010 := by
      have := HF.out k
      rw [hacc]
      simp only [List.length_append]
      omega
    have HA := Lib.hid hacc
    have hblkr := hkp.blk HB1.out hlt1
    have q3r := hblkr.cell 3
    clear hacc out4 hk4 q2' q3 hblkr
    by_cases hlt : k < n
    · have hltl : k < l.length := by have := HL.out; omega
      obtain ⟨b, o, rfl, hcx⟩ := HR.out k hltl
      have hbl := cell_lt hcx
      have hb1 : b < w1.heap.size := Nat.lt_of_lt_of_le hbl bel01.size
      have hsz := HS.out _ (List.getElem_mem hltl)
      have hcy : wr.cell? ⟨b, o + k, none⟩ = some (.string l[k]) := (hkp.cell (p := ⟨b, o + k, none⟩) hb1 hb1).trans ((bel01.cell (p := ⟨b, o + k, none⟩) hbl).trans hcx)
      have hft := flat_take l k hltl
      have HFT := Lib.hid hft
      clear hft hcx
      go_wp2_with fail
      refine (otext_str _ _ _ _ hout l[k] _ (by omega) (by omega)).mono ?_
      rintro e w5 ⟨rfl, out5, k5⟩
      have hk5 := hkp.trans k5
      clear k5 hout hkp q3r hcy
      go_wp2
      go_roundw
      case rel =>
        refine ⟨k + 1, _, by omega, by go_num, ?_, out5, hk5⟩
        rw [HFT.out, HA.out, List.append_assoc]
      case measure => simp [intOf]; omega
    · obtain rfl : k = n := by omega
      have hall : l.take k = l := List.take_of_length_le (by have := HL.out; omega)
      have htv := textB_len val (by omega)
      have hfin : packC op name l val = acc ++ textB val := by rw [HA.out, hall, packC, HL.out]
      have HFin := Lib.hid hfin
      clear hall hfin
      go_wp2_with fail
      refine (otext_str _ _ _ _ hout val _ (by omega) (by omega)).mono ?_
      rintro e w5 ⟨rfl, out5, k5⟩
      have hk5 := hkp.trans k5
      clear k5 hout hkp q3r
      go_wp2_with fail
      refine (oend_any _ _ _ _ out5 (by simp only [List.length_append]; omega)).mono ?_
      rintro e w6 ⟨A6, c6, rfl, own6, fr6, bel6⟩
      go_wp2
      go_ret2
      rw [HFin.out]
      have hb5 : Below w.heap.size w w5 := bel01.trans (hk5.below (fun i hi => Nat.lt_of_lt_of_le hi bel01.size) bel01.size)
      exact ⟨A6, c6, congrArg (fun m => Ending.returned (.tuple #[.slice A6 m c6, .int .i64 0])) (show acc.length + (textB val).length = (acc ++ textB val).length from List.length_append.symm), own6, fun r hr => Nat.le_trans hb5.size (fr6 r hr), hb5.trans (bel6.mono hb5.size)⟩

end Go.Proofs.Ytdkadlifjmmcbaa
