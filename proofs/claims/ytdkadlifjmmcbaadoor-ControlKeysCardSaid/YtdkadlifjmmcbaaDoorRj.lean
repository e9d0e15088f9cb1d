/- The walk of the reference's Joined. -/
import Derived.Test.YtdkadlifjmmcbaaDoorMa0
namespace Go.Proofs.YtdkadlifjmmcbaaDoor
open Go.RowKit
set_option linter.unusedSimpArgs false
set_option linter.unusedVariables false

/-- slices of these bytes lie from an address on -/
def SlicesAt (w : World) (b o : Nat) (ls : List (List UInt8)) : Prop := ∀ i (h : i < ls.length), ∃ p c, w.cell? ⟨b, o + i, none⟩ = some (.slice p ls[i].length c) ∧ RB w p ls[i]
theorem SlicesAt.below {w w' : World} {b o : Nat} {ls : List (List UInt8)} (h : SlicesAt w b o ls) (hb : Below w.heap.size w w') : SlicesAt w' b o ls := fun i hi => by
  obtain ⟨p, c, h1, h2⟩ := h i hi
  exact ⟨p, c, (hb.cell (cell_lt h1)).trans h1, h2.below hb⟩
theorem slices3 {w : World} {g g2 ci : Nat} {Ai : Option Addr} {lab : List UInt8} (h : Blk w g 31 #[.slice none 0 0, .slice Ai lab.length ci, .slice (some ⟨g2, 0, none⟩) 1 1]) (hr : RB w Ai lab) (ho : RB w (some ⟨g2, 0, none⟩) [1]) : SlicesAt w g 0 [[], lab, [1]] := by
  intro i hi
  rw [Nat.zero_add]
  rcases i with _ | _ | _ | i
  · exact ⟨none, 0, by rw [h.cell]; rfl, RB.nil⟩
  · exact ⟨Ai, ci, by rw [h.cell]; rfl, hr⟩
  · exact ⟨some ⟨g2, 0, none⟩, 1, by rw [h.cell]; rfl, ho⟩
  · simp at hi
    omega
theorem flat_takeS (ls : List (List UInt8)) (j : Nat) (h : j < ls.length) : (ls.take (j + 1)).flatten = (ls.take j).flatten ++ ls[j] := by
  rw [List.take_succ_eq_append_getElem h, List.flatten_append]
  simp
theorem flat_le (ls : List (List UInt8)) (j : Nat) : (ls.take j).flatten.length ≤ ls.flatten.length := by
  have e : ls.flatten = (ls.take j).flatten ++ (ls.drop j).flatten := by rw [← List.flatten_append, List.take_append_drop]
  rw [e, List.length_append]
  omega

set_option maxRecDepth 100000 in
set_option maxHeartbeats 2000000 in
theorem joined_any (b o n c : Nat) (ls : List (List UInt8)) (w : World) (hn : ls.length = n) (hP : SlicesAt w b o ls) (h1 : 1 ≤ n) (h1000 : n ≤ 1000) (hlen : ls.flatten.length ≤ 1048576) :
    Calls Tryd.prog 76 #[.slice (some ⟨b, o, none⟩) n c] w fun e w' => ∃ A c', e = .returned (.slice A ls.flatten.length c') ∧ RB w' A ls.flatten ∧ Below w.heap.size w w' := by
  have HP := Lib.hid hP
  have HN := Lib.hid hn
  have C0 := Lib.hid (show OInv w.heap.size w none 0 0 [] w from ⟨OwnB.nil _, Fresh.none _, Below.refl _ _, Nat.le_refl _⟩)
  clear hP hn
  go_enter Tryd.func76, Tryd.ntmps76
  go_wp2_with fail
  go_loopw [3, 4] (fun v i wr => ∃ (j m : Nat) (A : Option Addr) (c' : Nat), j ≤ n ∧ i = .int .i64 (j : Int) ∧ v = .slice A m c' ∧ m = (ls.take j).flatten.length ∧ OInv w.heap.size w A m c' (ls.take j).flatten wr) (fun _ i _ => n - (intOf i).toNat)
  case atStart => exact ⟨0, 0, none, 0, by omega, rfl, rfl, by simp, by simpa using C0.out⟩
  case round =>
    obtain ⟨j, m, A, c', hj, rfl, rfl, hm, hC⟩ := hrel
    have HM := Lib.hid hm
    have hle := flat_le ls j
    rw [← hm] at hle
    clear hm
    by_cases hlt : j < n
    · have hjl : j < ls.length := by rw [HN.out]; exact hlt
      obtain ⟨p, cp, hcell, hrb⟩ := HP.out.below hC.bel j hjl
      have hft := flat_takeS ls j hjl
      have hle2 := flat_le ls (j + 1)
      rw [hft, List.length_append] at hle2
      have hlen3 : ((ls.take j).flatten ++ ls[j]).length = m + ls[j].length := by rw [List.length_append, HM.out]
      obtain ⟨l, hl⟩ : ∃ l, l = ls[j] := ⟨_, rfl⟩
      rw [← hl] at hcell hrb hft hle2 hlen3
      have HFT := Lib.hid hft
      have HL3 := Lib.hid hlen3
      have HRB := Lib.hid hrb
      have HC := Lib.hid hC
      have hml : m + l.length ≤ 1048576 := by rw [← HM.out] at hle2; omega
      clear hft hle2 hrb hC hl hlen3
      go_wp2_with (at_builtin; refine wpList_app rfl (.tmp 11) (.tmp 15) rfl _ A _ c' _ rfl HC.out.own p l.length cp l rfl rfl HRB.out (by omega) ?_; intro A2 c2 w2 ho hg hb; have HC2 := Lib.hid (HC.out.app ho hg hb); clear ho hg hb)
      refine ⟨⟨j + 1, m + l.length, A2, c2, by omega, by go_num, rfl, ?_, ?_⟩, by simp [intOf]; omega⟩
      · rw [HFT.out, HL3.out]
      · rw [HFT.out]
        exact HC2.out
    · have hjn : j = n := by omega
      have hcell := 0
      have e : (ls.take j).flatten = ls.flatten := by rw [hjn, List.take_of_length_le (by rw [HN.out]; omega)]
      have hm2 := HM.out
      rw [e] at hm2 hC
      have HC := Lib.hid hC
      have HM2 := Lib.hid hm2
      have hf : decide ((j : Int) < (n : Int)) = false := by simp; omega
      have hf2 : decide (j < n) = false := by simp; omega
      clear hjn e hm2 hC hlt hcell
      go_wp2_with fail
      go_returns
      exact ⟨A, c', by rw [HM2.out]; rfl, HC.out.own.rb, HC.out.bel⟩

/-- two rows of bytes that are gathered side by side -/
structure O2 (B : Nat) (w0 : World) (A1 A2 : Option Addr) (n1 c1 n2 c2 : Nat) (a1 a2 : List UInt8) (w : World) : Prop where
  o1 : OInv B w0 A1 n1 c1 a1 w
  o2 : OInv B w0 A2 n2 c2 a2 w
  dis : ∀ r, blkOf A1 = some r → blkOf A2 ≠ some r
theorem O2.alloc {B : Nat} {w0 w : World} {A1 A2 : Option Addr} {n1 c1 n2 c2 : Nat} {a1 a2 : List UInt8} (h : O2 B w0 A1 A2 n1 c1 n2 c2 a1 a2 w) (x : Obj) : O2 B w0 A1 A2 n1 c1 n2 c2 a1 a2 (w.alloc x) :=
  ⟨h.o1.alloc x, h.o2.alloc x, h.dis⟩
theorem O2.symm {B : Nat} {w0 w : World} {A1 A2 : Option Addr} {n1 c1 n2 c2 : Nat} {a1 a2 : List UInt8} (h : O2 B w0 A1 A2 n1 c1 n2 c2 a1 a2 w) : O2 B w0 A2 A1 n2 c2 n1 c1 a2 a1 w :=
  ⟨h.o2, h.o1, fun r h1 h2 => h.dis r h2 h1⟩
theorem O2.app {B : Nat} {w0 w w' : World} {A1 A2 A' : Option Addr} {n1 c1 n2 c2 m c' : Nat} {a1 a2 l : List UInt8} (h : O2 B w0 A1 A2 n1 c1 n2 c2 a1 a2 w) (ho : OwnB w' A' (n1 + m) c' (a1 ++ l)) (hg : w.grownBy w' (blkOf A1))
    (hb : blkOf A' = blkOf A1 ∨ blkOf A' = some w.heap.size) : O2 B w0 A' A2 (n1 + m) c' n2 c2 (a1 ++ l) a2 w' := by
  have h1 := h.o1.app ho hg hb
  refine ⟨h1, ⟨h.o2.own.keep fun r hr => hg.block r (h.o2.own.lt hr) (fun e => h.dis r e.symm hr), h.o2.fr, h1.bel, h1.hB⟩, fun r hr hr2 => ?_⟩
  rcases hb with e | e
  · rw [e] at hr
    exact h.dis r hr hr2
  · rw [e] at hr
    injection hr with hr
    have := h.o2.own.lt hr2
    omega
theorem padK_take (k : List UInt8) (x : UInt8) (j : Nat) (hj : j < 64) : (padK k x).take (j + 1) = (padK k x).take j ++ [k.getD j 0 ^^^ x] := by
  rw [List.take_succ_eq_append_getElem (by rw [padK_len]; exact hj)]
  simp [padK]
end Go.Proofs.YtdkadlifjmmcbaaDoor
