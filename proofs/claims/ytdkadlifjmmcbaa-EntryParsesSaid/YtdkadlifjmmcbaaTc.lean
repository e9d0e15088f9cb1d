/- The walk of EntryChanges. -/
import Derived.Test.YtdkadlifjmmcbaaInw
import Derived.Test.YtdkadlifjmmcbaaAw
import Derived.Test.YtdkadlifjmmcbaaPc
import Derived.Test.YtdkadlifjmmcbaaRf2
import Derived.Test.YtdkadlifjmmcbaaCh4
import Derived.Deep.RegionHeldLaw
namespace Go.Proofs.Ytdkadlifjmmcbaa
open Go.RowKit

theorem exec_conv {P : Program} {o : Oper} {a : Act} {w : World} (t u : TypeId) (x : Operand) (ho : o.op = .convert t u x) (v v' : Value) (hx : a.eval x = v) (h : (convert t u v).run P w = .ok v' w) :
    (execOp a.eval o).run P w = .ok (.value v') w := by
  unfold execOp
  simp only [ho, hx, Sem.run_bind, h, Result.andThen_ok, Sem.run_pure]

set_option maxRecDepth 100000 in
set_option maxHeartbeats 1000000 in
theorem changes_any (op : Int) (name val : ByteArray) (A : Option Addr) (n c : Nat) (l : List ByteArray) (w : World) (hl : l.length = n) (hr : RS w A l) :
    Calls Try.prog 3 #[.agg #[.int .i64 op, .string name, .slice A n c, .string val]] w fun e w' => e = .returned (.bool true) ∧ Below w.heap.size w w' := by
  have hb0 : Below w.heap.size w (w.alloc (.cells #[.int .i64 op, .string name, .slice A n c, .string val] 24)) := (Below.refl _ w).alloc (Nat.le_refl _) _
  have hblk0 := Blk.new w 24 #[.int .i64 op, .string name, .slice A n c, .string val]
  have haw := awake_any (w.alloc (.cells #[.int .i64 op, .string name, .slice A n c, .string val] 24))
  have HB0 := Lib.hid hblk0
  have HR := Lib.hid hr
  have HL := Lib.hid hl
  have HAW := Lib.hid haw
  have HBE := Lib.hid hb0
  clear hb0 hblk0 haw hr hl
  by_cases hbig : 20 < n ∨ 100 < name.size ∨ 700 < val.size
  · have done : ∀ w1 w2, Below (w.heap.size + 1) (w.alloc (.cells #[.int .i64 op, .string name, .slice A n c, .string val] 24)) w1 → Below w1.heap.size w1 w2 → Below w.heap.size w w2 := by
      intro w1 w2 b1 b2
      have h1 := HBE.out.trans (b1.mono (Nat.le_succ _))
      exact h1.trans (b2.mono h1.size)
    have HD := Lib.hid done
    clear done
    cases h1 : decide (20 < (n : Int))
    · cases h2 : decide (100 < (name.size : Int))
      · have h3 : decide (700 < (val.size : Int)) = true := by simp at h1 h2 ⊢; omega
        go_enter Try.func3, Try.ntmps3
        go_wp2_with fail
        refine HAW.out.mono ?_
        rintro e w1 ⟨rfl, bel1⟩
        have hblk1 := HB0.out.next bel1
        have q1 := hblk1.cell 1
        have q2 := hblk1.cell 2
        have q3 := hblk1.cell 3
        go_wp2_with fail
        refine (awake_any _).mono ?_
        rintro e w2 ⟨rfl, bel2⟩
        go_wp2
        go_returns
        exact ⟨rfl, HD.out _ _ (by simpa using bel1) bel2⟩
      · go_enter Try.func3, Try.ntmps3
        go_wp2_with fail
        refine HAW.out.mono ?_
        rintro e w1 ⟨rfl, bel1⟩
        have hblk1 := HB0.out.next bel1
        have q1 := hblk1.cell 1
        have q2 := hblk1.cell 2
        go_wp2_with fail
        refine (awake_any _).mono ?_
        rintro e w2 ⟨rfl, bel2⟩
        go_wp2
        go_returns
        exact ⟨rfl, HD.out _ _ (by simpa using bel1) bel2⟩
    · go_enter Try.func3, Try.ntmps3
      go_wp2_with fail
      refine HAW.out.mono ?_
      rintro e w1 ⟨rfl, bel1⟩
      have hblk1 := HB0.out.next bel1
      have q2 := hblk1.cell 2
      go_wp2_with fail
      refine (awake_any _).mono ?_
      rintro e w2 ⟨rfl, bel2⟩
      go_wp2
      go_returns
      exact ⟨rfl, HD.out _ _ (by simpa using bel1) bel2⟩
  have g1 : n ≤ 20 := by omega
  have g2 : name.size ≤ 100 := by omega
  have g3 : val.size ≤ 700 := by omega
  clear hbig
  have h1 : decide (20 < (n : Int)) = false := by simp; omega
  have h2 : decide (100 < (name.size : Int)) = false := by simp; omega
  have h3 : decide (700 < (val.size : Int)) = false := by simp; omega
  go_enter Try.func3, Try.ntmps3
  go_wp2_with fail
  refine HAW.out.mono ?_
  rintro e w1 ⟨rfl, bel1⟩
  have hblk1 := HB0.out.next bel1
  have q0 := hblk1.cell 0
  have q1 := hblk1.cell 1
  have q2 := hblk1.cell 2
  have q3 := hblk1.cell 3
  have hbel1 : Below w.heap.size w w1 := HBE.out.trans (bel1.mono (by simp))
  have hrs1 := HR.out.below hbel1
  have HB1 := Lib.hid hblk1
  have HR1 := Lib.hid hrs1
  have hlt1 := hblk1.lt
  have hsz1 := hbel1.size
  clear hblk1 hrs1 HB0 HR HAW HBE bel1
  go_wp2
  go_loopw [3] (fun i wr => ∃ k : Nat, k ≤ n ∧ i = .int .i64 k ∧ wr = w1 ∧ ∀ j (h : j < l.length), j < k → l[j].size ≤ 100) (fun i _ => n - (intOf i).toNat)
  case atStart => exact ⟨0, Nat.zero_le _, rfl, rfl, fun j _ h => by omega⟩
  case round =>
    obtain ⟨k, hk, rfl, rfl, hsm⟩ := hrel
    have HS := Lib.hid hsm
    clear hsm
    by_cases hlt : k < n
    · have hltl : k < l.length := by have := HL.out; omega
      obtain ⟨b, o, rfl, hcx⟩ := HR1.out k hltl
      cases h4 : decide (100 < (l[k].size : Int))
      · have g4 := of_decide_eq_false h4
        go_wp2
        go_roundw
        case rel =>
          refine ⟨k + 1, by omega, by go_num, by trivial, fun j hj hjk => ?_⟩
          rcases Nat.lt_or_ge j k with h | h
          · exact HS.out j hj h
          · obtain rfl : j = k := by omega
            omega
        case measure => simp [intOf]; omega
      · go_wp2
        go_returns
        exact ⟨rfl, hbel1⟩
    · obtain rfl : k = n := by omega
      have hall : ∀ s ∈ l, s.size ≤ 100 := by
        intro s hs
        obtain ⟨j, hj, rfl⟩ := List.getElem_of_mem hs
        exact HS.out j hj (by have := HL.out; omega)
      have HA := Lib.hid hall
      clear hall HS
      clear hlt
      cases hf : formedC op name l val
      · have hno := fun W (h : RS W A l) => epack_no op name val A k c l W HL.out h (by omega) (fun s hs => by have := HA.out s hs; omega) (by omega) (by omega) hf
        have hrf := fun W (h : RS W A l) => rformed_any op name val A k c l W HL.out h (by omega) (fun s hs => by have := HA.out s hs; omega) (by omega) (by omega)
        have hef := fun W (h : RS W A l) => eformed_any op name val A k c l W HL.out h (by omega) (fun s hs => by have := HA.out s hs; omega) (by omega) (by omega)
        rw [hf] at hrf hef
        have HNO := Lib.hid hno
        have HRF := Lib.hid hrf
        have HEF := Lib.hid hef
        clear hno hrf hef
        go_wp2_with fail
        refine (HNO.out _ HR1.out).mono ?_
        rintro e w2 ⟨rfl, bel2⟩
        clear q0 q1 q2 q3
        have h2 := HB1.out.next bel2
        have q0 := h2.cell 0
        have q1 := h2.cell 1
        have q2 := h2.cell 2
        have q3 := h2.cell 3
        have HB2 := Lib.hid h2
        have r2 := HR1.out.below bel2
        have HR2 := Lib.hid r2
        clear r2 h2
        go_wp2_with fail
        refine (HRF.out _ HR2.out).mono ?_
        rintro e w3 ⟨rfl, bel3⟩
        clear q0 q1 q2 q3
        have h3 := HB2.out.next bel3
        have q0 := h3.cell 0
        have q1 := h3.cell 1
        have q2 := h3.cell 2
        have q3 := h3.cell 3
        have HB3 := Lib.hid h3
        have r3 := HR2.out.below bel3
        have HR3 := Lib.hid r3
        clear r3 h3
        go_wp2_with fail
        refine (HEF.out _ HR3.out).mono ?_
        rintro e w4 ⟨rfl, bel4⟩
        go_wp2
        go_returns
        have s2 := bel2.size
        have s3 := bel3.size
        exact ⟨rfl, ((hbel1.trans (bel2.mono hsz1)).trans (bel3.mono (by omega))).trans (bel4.mono (by omega))⟩
      · obtain ⟨hfn, hf8, hfv, hfo1, hfo3, hfs⟩ := formed_sizes hf
        obtain ⟨m, rfl⟩ := Int.eq_ofNat_of_zero_le (show 0 ≤ op by omega)
        have hye := fun W (h : RS W A l) => epack_yes m name val A k c l W HL.out h hf
        have hrf := fun W (h : RS W A l) => rformed_any m name val A k c l W HL.out h (by omega) (fun s hs => by have := HA.out s hs; omega) (by omega) (by omega)
        have hef := fun W (h : RS W A l) => eformed_any m name val A k c l W HL.out h (by omega) (fun s hs => by have := HA.out s hs; omega) (by omega) (by omega)
        have hrp := fun W (h : RS W A l) => rpack_any m name val A k c l W (by omega) HL.out h (by omega) (fun s hs => by have := HA.out s hs; omega) (by omega) (by omega)
        have hpp := pack_parse hf
        have hpo := pack_ok hf
        have hpl : (packC m name l val).length ≤ 100000 := by
          have e1 := numB_len64 (x := m) (by omega)
          have e2 := textB_len name (by omega)
          have e3 := numB_len64 (x := l.length) (by omega)
          have e4 := flat_len l l.length (fun s h => by have := hfs s h; omega)
          have e5 := textB_len val (by omega)
          rw [List.take_length] at e4
          simp only [packC, List.length_append]
          omega
        rw [hf] at hrf hef
        generalize hC : packC m name l val = C at *
        have HYE := Lib.hid hye
        have HRF := Lib.hid hrf
        have HEF := Lib.hid hef
        have HRP := Lib.hid hrp
        clear hye hrf hef hrp hfs hf hC
        go_wp2_with fail
        refine (HYE.out _ HR1.out).mono ?_
        rintro e w2 ⟨A2, c2, rfl, own2, fr2, bel2⟩
        have hrb2 := own2.rb
        have HRB2 := Lib.hid hrb2
        clear q0 q1 q2 q3 own2 hrb2 fr2
        have h2 := HB1.out.next bel2
        have q0 := h2.cell 0
        have q1 := h2.cell 1
        have q2 := h2.cell 2
        have q3 := h2.cell 3
        have HB2 := Lib.hid h2
        have r2 := HR1.out.below bel2
        have HR2 := Lib.hid r2
        clear r2 h2
        go_wp2_with fail
        refine (HRF.out _ HR2.out).mono ?_
        rintro e w3 ⟨rfl, bel3⟩
        clear q0 q1 q2 q3
        have h3 := HB2.out.next bel3
        have q0 := h3.cell 0
        have q1 := h3.cell 1
        have q2 := h3.cell 2
        have q3 := h3.cell 3
        have HB3 := Lib.hid h3
        have r3 := HR2.out.below bel3
        have HR3 := Lib.hid r3
        clear r3 h3
        go_wp2_with fail
        refine (HEF.out _ HR3.out).mono ?_
        rintro e w4 ⟨rfl, bel4⟩
        clear q0 q1 q2 q3
        have h4 := HB3.out.next bel4
        have q0 := h4.cell 0
        have q1 := h4.cell 1
        have q2 := h4.cell 2
        have q3 := h4.cell 3
        have HB4 := Lib.hid h4
        have r4 := HR3.out.below bel4
        have HR4 := Lib.hid r4
        have rb4 := (HRB2.out.below bel3).below bel4
        have HRB4 := Lib.hid rb4
        clear r4 h4 rb4
        go_wp2_with fail
        refine (eparse_any A2 C.length c2 C _ rfl HRB4.out (by omega)).mono ?_
        rintro e w5 ⟨A', N, bel5, ⟨hx, _⟩ | ⟨_, rfl, hN, hrs⟩⟩
        · rw [hpo] at hx; cases hx
        rw [hpp] at hN hrs ⊢
        simp only at hN hrs
        subst hN
        clear q0 q1 q2 q3
        have hb5 := ((HB4.out.next bel5).alloc (.cells #[.int .i64 (m : Int), .string name, .slice A' l.length l.length, .string val] 24)).drew
        have q0 := hb5.cell 0
        have q1 := hb5.cell 1
        have q2 := hb5.cell 2
        have q3 := hb5.cell 3
        have hb7 := (Blk.new w5 24 #[.int .i64 (m : Int), .string name, .slice A' l.length l.length, .string val]).drew
        have hrs5 := RS.keep (w' := (w5.alloc (.cells #[.int .i64 (m : Int), .string name, .slice A' l.length l.length, .string val] 24)).drew) (hrs.alloc (.cells #[.int .i64 (m : Int), .string name, .slice A' l.length l.length, .string val] 24)) (fun _ _ => rfl)
        have hrl5 := RS.keep (w' := (w5.alloc (.cells #[.int .i64 (m : Int), .string name, .slice A' l.length l.length, .string val] 24)).drew) ((HR4.out.below bel5).alloc (.cells #[.int .i64 (m : Int), .string name, .slice A' l.length l.length, .string val] 24)) (fun _ _ => rfl)
        have hrb5 := (HRB4.out.below bel5).keep (w' := (w5.alloc (.cells #[.int .i64 (m : Int), .string name, .slice A' l.length l.length, .string val] 24)).drew) (fun q hq => World.cell?_alloc_lt w5 _ q hq)
        have hcv0 := conv_bs _ A2 C.length c2 C rfl hrb5
        have hbw : Below w.heap.size w (w5.alloc (.cells #[.int .i64 (m : Int), .string name, .slice A' l.length l.length, .string val] 24)).drew := by
          have s2 := bel2.size
          have s3 := bel3.size
          have s4 := bel4.size
          have s5 := bel5.size
          have b5 := (((hbel1.trans (bel2.mono hsz1)).trans (bel3.mono (by omega))).trans (bel4.mono (by omega))).trans (bel5.mono (by omega))
          exact (b5.alloc b5.size _).drew
        have hsb := hbw.size
        have HB5 := Lib.hid hb5
        have HB7 := Lib.hid hb7
        have HRS5 := Lib.hid hrs5
        have HRL5 := Lib.hid hrl5
        have HRB5 := Lib.hid hrb5
        have HBW := Lib.hid hbw
        have hlt5 := hb5.lt
        clear hb5 hb7 hrs5 hrl5 hrb5 hbw hrs bel2 bel3 bel4 bel5 hbel1 HB1 HB2 HB3 HB4 HR1 HR2 HR3 HR4 HRB2 HRB4 hpp hpo HYE HRF HEF
        go_wp2_with fail
        refine wp_region_held_drew (S := fun W => Blk W w.heap.size 24 #[.int .i64 (m : Int), .string name, .slice A k c, .string val] ∧ Blk W w5.heap.size 24 #[.int .i64 (m : Int), .string name, .slice A' l.length l.length, .string val] ∧ RB W A2 C) (by kernel_rfl) ⟨HB5.out, HB7.out, HRB5.out⟩ (fun hHeld => ?_)
        refine wpAnyH_take (i := 0) (v := .int .i64 0) rfl (by kernel_rfl) (by kernel_rfl) (by kernel_rfl) (fun _ _ _ h => h) (Or.inl ⟨by rfl, fun W _ => ?_⟩) hHeld ?_
        · rfl
        try simp only [Act.put, List.getElem_toArray, List.getElem_cons_succ, List.getElem_cons_zero, List.setIfInBounds_toArray, List.set_cons_succ, List.set_cons_zero]
        refine wpAnyH_take (i := 1) (v := .bool true) rfl (by kernel_rfl) (by kernel_rfl) (by kernel_rfl) (fun _ _ _ h => h) (Or.inl ⟨by rfl, fun W _ => ?_⟩) hHeld ?_
        · go_simp
        try simp only [Act.put, List.getElem_toArray, List.getElem_cons_succ, List.getElem_cons_zero, List.setIfInBounds_toArray, List.set_cons_succ, List.set_cons_zero]
        refine wpAnyH_take (i := 2) (v := .bool true) rfl (by kernel_rfl) (by kernel_rfl) (by kernel_rfl) (fun _ _ _ h => h) (Or.inl ⟨by rfl, fun W _ => ?_⟩) hHeld ?_
        · rfl
        try simp only [Act.put, List.getElem_toArray, List.getElem_cons_succ, List.getElem_cons_zero, List.setIfInBounds_toArray, List.set_cons_succ, List.set_cons_zero]
        refine wpAnyH_take (i := 3) (v := .int .i64 0) rfl (by kernel_rfl) (by kernel_rfl) (by kernel_rfl) (fun _ _ _ h => h) (Or.inl ⟨by rfl, fun W _ => ?_⟩) hHeld ?_
        · rfl
        try simp only [Act.put, List.getElem_toArray, List.getElem_cons_succ, List.getElem_cons_zero, List.setIfInBounds_toArray, List.set_cons_succ, List.set_cons_zero]
        refine wpAnyH_take (i := 4) (v := .bool true) rfl (by kernel_rfl) (by kernel_rfl) (by kernel_rfl) (fun _ _ _ h => h) (Or.inl ⟨by rfl, fun W _ => ?_⟩) hHeld ?_
        · go_simp
        try simp only [Act.put, List.getElem_toArray, List.getElem_cons_succ, List.getElem_cons_zero, List.setIfInBounds_toArray, List.set_cons_succ, List.set_cons_zero]
        refine wpAnyH_take (i := 5) (v := .bool true) rfl (by kernel_rfl) (by kernel_rfl) (by kernel_rfl) (fun _ _ _ h => h) (Or.inl ⟨by rfl, fun W _ => ?_⟩) hHeld ?_
        · rfl
        try simp only [Act.put, List.getElem_toArray, List.getElem_cons_succ, List.getElem_cons_zero, List.setIfInBounds_toArray, List.set_cons_succ, List.set_cons_zero]
        refine wpAnyH_take (i := 6) (v := .bool true) rfl (by kernel_rfl) (by kernel_rfl) (by kernel_rfl) (fun _ _ _ h => h) (Or.inl ⟨by rfl, fun W _ => ?_⟩) hHeld ?_
        · rfl
        try simp only [Act.put, List.getElem_toArray, List.getElem_cons_succ, List.getElem_cons_zero, List.setIfInBounds_toArray, List.set_cons_succ, List.set_cons_zero]
        refine wpAnyH_take (i := 7) (v := .slice A2 C.length c2) rfl (by kernel_rfl) (by kernel_rfl) (by kernel_rfl) (fun _ _ _ h => h) (Or.inl ⟨by rfl, fun W _ => ?_⟩) hHeld ?_
        · rfl
        try simp only [Act.put, List.getElem_toArray, List.getElem_cons_succ, List.getElem_cons_zero, List.setIfInBounds_toArray, List.set_cons_succ, List.set_cons_zero]
        refine wpAnyH_take (i := 8) (v := .string (mkS C)) rfl (by kernel_rfl) (by kernel_rfl) (by kernel_rfl) (fun _ _ _ h => h) (Or.inl ⟨by rfl, fun W hW => ?_⟩) hHeld ?_
        · exact exec_conv 26 9 (.tmp 76) rfl _ _ rfl (conv_bs W A2 C.length c2 C rfl hW.2.2)
        try simp only [Act.put, List.getElem_toArray, List.getElem_cons_succ, List.getElem_cons_zero, List.setIfInBounds_toArray, List.set_cons_succ, List.set_cons_zero]
        refine wpAnyH_take (i := 9) (v := .agg #[.int .i64 (m : Int), .string name, .slice A k c, .string val]) rfl (by kernel_rfl) (by kernel_rfl) (by kernel_rfl) (fun _ _ _ h => h) (Or.inl ⟨by rfl, fun W hW => ?_⟩) hHeld ?_
        · exact exec_load_row 24 (.tmp 1) rfl w.heap.size rfl 24 #[.int .i64 (m : Int), .string name, .slice A k c, .string val] (0, 0) _ hW.1 Try.underlying24 rfl (by kernel_rfl)
        try simp only [Act.put, List.getElem_toArray, List.getElem_cons_succ, List.getElem_cons_zero, List.setIfInBounds_toArray, List.set_cons_succ, List.set_cons_zero]
        refine wpAnyH_ready (rs := [10]) (by kernel_rfl) (by simp) ?_
        refine AllReadyH.cons rfl (fun K hK => ?_) AllReadyH.nil
        go_simp
        go_at_call 11
        refine (HRP.out _ HRL5.out).mono ?_
        rintro e w6 ⟨A6, c6, rfl, own6, fr6, bel6⟩
        have hcv6 := conv_bs w6 A6 C.length c6 C rfl own6.rb
        have hl6 := HRL5.out.below bel6
        have hs6 := HRS5.out.below bel6
        have hb6 := HBW.out.trans (bel6.mono hsb)
        have hHB6 := HB5.out.next bel6
        have hHC6 := HB7.out.next bel6
        have HL6 := Lib.hid hl6
        have HS6 := Lib.hid hs6
        have HRC6 := HRB5.out.below bel6
        clear hl6 hs6
        go_wp2
        refine hK.out _ _ ⟨hHB6, hHC6, HRC6⟩ (fun hHeld6 => ?_)
        clear hK K hHeld
        try simp only [Act.put, List.getElem_toArray, List.getElem_cons_succ, List.getElem_cons_zero, List.setIfInBounds_toArray, List.set_cons_succ, List.set_cons_zero]
        refine wpAnyH_ready (rs := [11]) (by kernel_rfl) (by simp) ?_
        refine AllReadyH.cons rfl (fun K hK => ?_) AllReadyH.nil
        go_simp
        refine hK.out _ _ hHeld6 (fun _ => ?_)
        clear hK K hcv6
        try simp only [Act.put, List.getElem_toArray, List.getElem_cons_succ, List.getElem_cons_zero, List.setIfInBounds_toArray, List.set_cons_succ, List.set_cons_zero]
        refine wpAnyH_take (i := 12) (v := .bool true) rfl (by kernel_rfl) (by kernel_rfl) (by kernel_rfl) (fun _ _ _ h => h) (Or.inl ⟨by rfl, fun W _ => ?_⟩) hHeld6 ?_
        · go_simp
        try simp only [Act.put, List.getElem_toArray, List.getElem_cons_succ, List.getElem_cons_zero, List.setIfInBounds_toArray, List.set_cons_succ, List.set_cons_zero]
        refine wpAnyH_take (i := 13) (v := .bool true) rfl (by kernel_rfl) (by kernel_rfl) (by kernel_rfl) (fun _ _ _ h => h) (Or.inl ⟨by rfl, fun W _ => ?_⟩) hHeld6 ?_
        · rfl
        try simp only [Act.put, List.getElem_toArray, List.getElem_cons_succ, List.getElem_cons_zero, List.setIfInBounds_toArray, List.set_cons_succ, List.set_cons_zero]
        refine wpAnyH_take (i := 14) (v := .bool true) rfl (by kernel_rfl) (by kernel_rfl) (by kernel_rfl) (fun _ _ _ h => h) (Or.inl ⟨by rfl, fun W _ => ?_⟩) hHeld6 ?_
        · rfl
        try simp only [Act.put, List.getElem_toArray, List.getElem_cons_succ, List.getElem_cons_zero, List.setIfInBounds_toArray, List.set_cons_succ, List.set_cons_zero]
        refine wpAnyH_take (i := 15) (v := .agg #[.int .i64 (m : Int), .string name, .slice A k c, .string val]) rfl (by kernel_rfl) (by kernel_rfl) (by kernel_rfl) (fun _ _ _ h => h) (Or.inl ⟨by rfl, fun W hW => ?_⟩) hHeld6 ?_
        · exact exec_load_row 24 (.tmp 1) rfl w.heap.size rfl 24 #[.int .i64 (m : Int), .string name, .slice A k c, .string val] (0, 0) _ hW.1 Try.underlying24 rfl (by kernel_rfl)
        try simp only [Act.put, List.getElem_toArray, List.getElem_cons_succ, List.getElem_cons_zero, List.setIfInBounds_toArray, List.set_cons_succ, List.set_cons_zero]
        refine wpAnyH_take (i := 16) (v := .agg #[.int .i64 (m : Int), .string name, .slice A' l.length l.length, .string val]) rfl (by kernel_rfl) (by kernel_rfl) (by kernel_rfl) (fun _ _ _ h => h) (Or.inl ⟨by rfl, fun W hW => ?_⟩) hHeld6 ?_
        · exact exec_load_row 24 (.tmp 7) rfl w5.heap.size rfl 24 #[.int .i64 (m : Int), .string name, .slice A' l.length l.length, .string val] (0, 0) _ hW.2.1 Try.underlying24 rfl (by kernel_rfl)
        try simp only [Act.put, List.getElem_toArray, List.getElem_cons_succ, List.getElem_cons_zero, List.setIfInBounds_toArray, List.set_cons_succ, List.set_cons_zero]
        refine wpAnyH_ready (rs := [17]) (by kernel_rfl) (by simp) ?_
        refine AllReadyH.cons rfl (fun K hK => ?_) AllReadyH.nil
        go_simp
        go_at_call 12
        refine (same_any m m name val name val A A' k l.length c l.length l l _ HL.out rfl HL6.out HS6.out (by omega)).mono ?_
        rintro e w7 ⟨rfl, bel7⟩
        rw [sameC_refl]
        have hb7 := hb6.trans (bel7.mono hb6.size)
        have hHB7 := hHeld6.1.next bel7
        have hHC7 := hHeld6.2.1.next bel7
        have hRC7 := hHeld6.2.2.below bel7
        go_wp2
        refine hK.out _ _ ⟨hHB7, hHC7, hRC7⟩ (fun hHeld7 => ?_)
        clear hK K
        try simp only [Act.put, List.getElem_toArray, List.getElem_cons_succ, List.getElem_cons_zero, List.setIfInBounds_toArray, List.set_cons_succ, List.set_cons_zero]
        refine wpAnyH_take (i := 18) (v := .bool true) rfl (by kernel_rfl) (by kernel_rfl) (by kernel_rfl) (fun _ _ _ h => h) (Or.inl ⟨by rfl, fun W _ => ?_⟩) hHeld7 ?_
        · rfl
        try simp only [Act.put, List.getElem_toArray, List.getElem_cons_succ, List.getElem_cons_zero, List.setIfInBounds_toArray, List.set_cons_succ, List.set_cons_zero]
        refine wpAnyH_take (i := 19) (v := .bool true) rfl (by kernel_rfl) (by kernel_rfl) (by kernel_rfl) (fun _ _ _ h => h) (Or.inl ⟨by rfl, fun W _ => ?_⟩) hHeld7 ?_
        · rfl
        try simp only [Act.put, List.getElem_toArray, List.getElem_cons_succ, List.getElem_cons_zero, List.setIfInBounds_toArray, List.set_cons_succ, List.set_cons_zero]
        refine wpAnyH_done (by kernel_rfl) ?_ _
        go_wp2
        go_returns
        exact ⟨rfl, hb7⟩

end Go.Proofs.Ytdkadlifjmmcbaa
