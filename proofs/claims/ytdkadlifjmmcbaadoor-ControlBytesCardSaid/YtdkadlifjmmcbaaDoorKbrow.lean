/- Proved: the tied card of the Go function jalousielaw16.ControlBytes: it returns true for every control, does not panic and leaves its argument as it was. Conditions: those that the row and the card themselves print (the variable jalousie/hash.rounds is laid as the program's text lays it); none besides. (The frame of this text was written by the kit's program; the walk and the laws beneath it are this claim's own.) -/
import Derived.Test.YtdkadlifjmmcbaaDoorRows
import Derived.Test.YtdkadlifjmmcbaaDoorTie
import Derived.Test.YtdkadlifjmmcbaaDoorCards
import Derived.WalkKit
import Derived.ProofKit
import Derived.OpenShut
import Derived.ShutString
import Derived.ChangeOld
import Derived.Below
import Derived.LaidMore
import Derived.SevenTiedAt
import Derived.Lib.SmallJoins
import Derived.Test.YtdkadlifjmmcbaaDoorKz
namespace Go.Proofs.YtdkadlifjmmcbaaDoor.controlBytes
open Go.ChangeShapes Go.WideShapes Go.ChangeAt Go.RowKit
open Go.ChangeMaps (open_string shut_string)
open Go.Joins
set_option linter.unusedVariables false

theorem own : ownKnob Tryd.prog.godebug = none := by kernel_rfl
theorem laidOut : laidOutB Tryd.prog = true := by kernel_rfl

/-- WHAT THE WALK IS TOLD OF A SLICE OF INTEGERS THAT CAME IN: it is nil; or it leads to a row of 'cap' cells, the numbers 'zs' (the first 'len' are its elements, the rest its spare room), each fitting its kind. -/
def IsRow (k : IntKind) (w : World) (a : Option Addr) (len cap : Nat) (zs : List Int) : Prop :=
  (a = none ∧ len = 0 ∧ cap = 0 ∧ zs = []) ∨
  ∃ x, a = some x ∧ len ≤ cap ∧ cap ≤ maxLen ∧ zs.length = cap ∧ (∀ i, i < zs.length → w.cell? (x.add i) = some (.int k (zs.getD i 0))) ∧ ∀ n ∈ zs, (Lit.int k n).wf = true

theorem row_rb {w : World} {a : Option Addr} {len cap : Nat} {zs : List Int} (h : IsRow .u8 w a len cap zs) : ∃ b : List UInt8, b.length = len ∧ RB w a b := by
  rcases h with ⟨rfl, rfl, rfl, rfl⟩ | ⟨x, rfl, hl, hm, hz, hc, hw⟩
  · exact ⟨[], rfl, RB.nil⟩
  · refine ⟨(zs.take len).map (fun z => UInt8.ofNat z.toNat), by simp; omega, ?_⟩
    intro j hj
    have hj' : j < len := by simp at hj; omega
    obtain ⟨bb, o, sp⟩ := x
    have hsp : sp = none := by
      have h0 := hc 0 (by omega)
      unfold World.cell? Addr.add at h0
      cases sp with
      | none => rfl
      | some y =>
        simp at h0
        split at h0 <;> simp at h0
    subst hsp
    refine ⟨bb, o, rfl, ?_⟩
    have h1 := hc j (by omega)
    have hadd : (⟨bb, o, none⟩ : Addr).add j = ⟨bb, o + j, none⟩ := by unfold Addr.add; split <;> simp_all
    rw [hadd] at h1
    rw [h1]
    have hjz : j < zs.length := by omega
    have hb := hw zs[j] (List.getElem_mem hjz)
    simp [Lit.wf, IntKind.min, IntKind.max, IntKind.signed, IntKind.bits] at hb
    have e1 : zs.getD j 0 = zs[j] := by simp [hjz]
    rw [e1]
    simp only [List.getElem_map, List.getElem_take, UInt8.toNat_ofNat']
    congr 2
    omega

set_option maxRecDepth 100000 in
theorem open_bytes {H : Type} {enc : TypeId × Value → H} {W : World} {base m : Nat} {held : Bool} {v : Value} {y : DataW H × List MemPlace} (h : DataW.trod enc Tryd.prog W base (fun _ => true) held m 31 [v] = some y) :
    ∃ (s : Sl) (l : List UInt8), v = s.v ∧ s.n = l.length ∧ RB W s.A l := by
  rcases open_ints Tryd.underlying31 Tryd.underlying5 (by kernel_rfl) h with ⟨hcs, _⟩ | ⟨x, l, c, zs, hcs, _, hl, hm, hz, _, hcell, hwz⟩
  · simp at hcs
    exact ⟨slZ, [], hcs, rfl, RB.nil⟩
  · simp at hcs
    obtain ⟨b, hb, hr⟩ := row_rb (w := W) (a := some x) (len := l) (cap := c) (zs := zs) (.inr ⟨x, rfl, hl, hm, by simpa using hz, hcell, hwz⟩)
    exact ⟨⟨some x, l, c⟩, b, hcs, hb.symm, hr⟩
theorem list10 {α : Type} : ∀ {l : List α}, l.length = 10 → ∃ a0 a1 a2 a3 a4 a5 a6 a7 a8 a9, l = [a0, a1, a2, a3, a4, a5, a6, a7, a8, a9]
  | [a0, a1, a2, a3, a4, a5, a6, a7, a8, a9], _ => ⟨a0, a1, a2, a3, a4, a5, a6, a7, a8, a9, rfl⟩
theorem list5 {α : Type} : ∀ {l : List α}, l.length = 5 → ∃ a0 a1 a2 a3 a4, l = [a0, a1, a2, a3, a4]
  | [a0, a1, a2, a3, a4], _ => ⟨a0, a1, a2, a3, a4, rfl⟩
theorem cells35 : Tryd.prog.cellsOf 35 = 10 := by kernel_rfl
theorem cells33 : Tryd.prog.cellsOf 33 = 6 := by kernel_rfl
theorem cells31 : Tryd.prog.cellsOf 31 = 1 := by kernel_rfl
theorem cells3 : Tryd.prog.cellsOf 3 = 1 := by kernel_rfl
theorem cells32 : Tryd.prog.cellsOf 32 = 1 := by kernel_rfl

set_option maxRecDepth 100000 in
/-- a control that came in, opened -/
theorem open_ctl {H : Type} {enc : TypeId × Value → H} {W : World} {base b0 : Nat} {held : Bool} {r : Reach} {v : Value} {d : DataW H} {p : List MemPlace} (hv : Value.okWide Tryd.prog W r b0 35 v) (h : DataW.Trod enc Tryd.prog W base (fun _ => true) held 35 v d p) :
    ∃ (k : Ctl) (op me : Int) (cut : Nat) (ts : List (List UInt8)) (hd : List UInt8), v = .agg k.arr ∧ KReads W k op me cut ts hd := by
  obtain ⟨cs, rfl, hsz⟩ := okWide_struct Tryd.underlying35 hv
  obtain ⟨fuel, hf⟩ := h
  obtain ⟨xs, m, _, _, _, hxl, hfld⟩ := DataW.trod_struct Tryd.underlying35 hf
  rw [cells35] at hsz
  obtain ⟨l⟩ := cs
  obtain ⟨c0, c1, c2, c3, c4, c5, c6, c7, c8, c9, rfl⟩ := list10 (l := l) (by simpa using hsz)
  obtain ⟨y0, y1, y2, y3, y4, rfl⟩ := list5 (l := xs) (by simpa using hxl)
  have q0 : DataW.trod enc Tryd.prog W base (fun _ => true) held m 3 (([c0, c1, c2, c3, c4, c5, c6, c7, c8, c9].drop 0).take (Tryd.prog.cellsOf 3)) = some y0 := hfld 0 _ rfl
  rw [cells3] at q0
  have q1 : DataW.trod enc Tryd.prog W base (fun _ => true) held m 3 (([c0, c1, c2, c3, c4, c5, c6, c7, c8, c9].drop 1).take (Tryd.prog.cellsOf 3)) = some y1 := hfld 1 _ rfl
  rw [cells3] at q1
  have q2 : DataW.trod enc Tryd.prog W base (fun _ => true) held m 32 (([c0, c1, c2, c3, c4, c5, c6, c7, c8, c9].drop 2).take (Tryd.prog.cellsOf 32)) = some y2 := hfld 2 _ rfl
  rw [cells32] at q2
  have q3 : DataW.trod enc Tryd.prog W base (fun _ => true) held m 33 (([c0, c1, c2, c3, c4, c5, c6, c7, c8, c9].drop 3).take (Tryd.prog.cellsOf 33)) = some y3 := hfld 3 _ rfl
  rw [cells33] at q3
  have q4 : DataW.trod enc Tryd.prog W base (fun _ => true) held m 31 (([c0, c1, c2, c3, c4, c5, c6, c7, c8, c9].drop 9).take (Tryd.prog.cellsOf 31)) = some y4 := hfld 4 _ rfl
  rw [cells31] at q4
  simp only [List.drop_succ_cons, List.drop_zero, List.take_succ_cons, List.take_zero] at q0 q1 q2 q3 q4
  obtain ⟨op, e0, _, _⟩ := DataW.trod_int Tryd.underlying3 q0
  obtain ⟨me, e1, _, _⟩ := DataW.trod_int Tryd.underlying3 q1
  obtain ⟨cut, e2, _, w2⟩ := DataW.trod_int Tryd.underlying32 q2
  simp at e0 e1 e2
  subst e0 e1 e2
  obtain ⟨zs, m', _, _, _, hzl, hel⟩ := DataW.trod_array Tryd.underlying33 q3
  simp only [cells31] at hel
  have hel' : ∀ i (hi : i < 6), ∃ y, zs[i]? = some y := fun i hi => ⟨_, List.getElem?_eq_getElem (by omega)⟩
  have h0 := hel 0 (by omega)
  have h1 := hel 1 (by omega)
  have h2 := hel 2 (by omega)
  have h3 := hel 3 (by omega)
  have h4 := hel 4 (by omega)
  have h5 := hel 5 (by omega)
  obtain ⟨z0, f0⟩ := hel' 0 (by omega)
  obtain ⟨z1, f1⟩ := hel' 1 (by omega)
  obtain ⟨z2, f2⟩ := hel' 2 (by omega)
  obtain ⟨z3, f3⟩ := hel' 3 (by omega)
  obtain ⟨z4, f4⟩ := hel' 4 (by omega)
  obtain ⟨z5, f5⟩ := hel' 5 (by omega)
  simp only [Nat.zero_mul, Nat.mul_one, List.drop_succ_cons, List.drop_zero, List.take_succ_cons, List.take_zero] at h0 h1 h2 h3 h4 h5
  rw [f0] at h0
  rw [f1] at h1
  rw [f2] at h2
  rw [f3] at h3
  rw [f4] at h4
  rw [f5] at h5
  obtain ⟨s0, l0, rfl, n0, r0⟩ := open_bytes h0
  obtain ⟨s1, l1, rfl, n1, r1⟩ := open_bytes h1
  obtain ⟨s2, l2, rfl, n2, r2⟩ := open_bytes h2
  obtain ⟨s3, l3, rfl, n3, r3⟩ := open_bytes h3
  obtain ⟨s4, l4, rfl, n4, r4⟩ := open_bytes h4
  obtain ⟨s5, l5, rfl, n5, r5⟩ := open_bytes h5
  obtain ⟨sh, lh, rfl, nh, rh⟩ := open_bytes q4
  have hcut : 0 ≤ cut := by
    simp [Lit.wf, IntKind.min, IntKind.max, IntKind.signed, IntKind.bits] at w2
    omega
  obtain ⟨cn, rfl⟩ := Int.eq_ofNat_of_zero_le hcut
  refine ⟨⟨op, me, cn, [s0, s1, s2, s3, s4, s5], sh⟩, op, me, cn, [l0, l1, l2, l3, l4, l5], lh, rfl, rfl, rfl, rfl, rfl, rfl, ?_, nh, rh⟩
  intro j h1 h2
  match j, h1, h2 with
  | 0, _, _ => exact ⟨n0, r0⟩
  | 1, _, _ => exact ⟨n1, r1⟩
  | 2, _, _ => exact ⟨n2, r2⟩
  | 3, _, _ => exact ⟨n3, r3⟩
  | 4, _, _ => exact ⟨n4, r4⟩
  | 5, _, _ => exact ⟨n5, r5⟩
  | j + 6, h1, _ => exact absurd h1 (by simp)

/-- what the row lists -/
def laid1 : List (String × DataW Unit) := [("jalousie/hash.rounds", Rows.laid_jalousie_hash_rounds)]

/-- The door's own heap meets the condition: three closed facts. -/
theorem door_met (os : Os) (args : Array Value) : laidMetH Tryd.prog laid1 ((World.doorLaid Tryd.prog 19 os).forCall (fun _ _ => 0) ⟨#[], args, []⟩).memory :=
  laidMetH_of_parts3 (fuel := 8) (laidMet_of_run' 8 (by kernel_rfl) (by kernel_rfl)) (by kernel_rfl) (by kernel_rfl)

set_option maxRecDepth 100000 in
theorem lifted (os : Os) (started : os.Started) (H : Type) (enc : TypeId × Value → H) :
    ReturnsInHanded {} Tryd.checked os 5 .any (fun w args => (Rows.controlBytesSpec.pre enc Tryd.prog Tryd.f5 [] false w args ∧ laidMetH Tryd.prog laid1 w) ∧ sizedMet enc Tryd.prog Tryd.f5 (OpenSpec.ofChange Rows.controlBytesSpec) false w args)
      (Rows.controlBytesSpec.post enc Tryd.prog Tryd.f5 false true false false) := by
  refine returnsInHanded_of_change_and (C := Tryd.checked) (X := fun w _ => laidMetH Tryd.prog laid1 w) (fun _ _ _ hh h => h.of_heap hh) own started (by kernel_rfl) Tryd.func5
    (ChangeSpec.witness_shaped (enc := enc) (C := Tryd.checked) (os := os) (X := fun w _ => laidMetH Tryd.prog laid1 w) false (World.doorLaid Tryd.prog 19 os) #[.agg #[.int .i64 0, .int .i64 0, .int .u64 0, .slice none 0 0, .slice none 0 0, .slice none 0 0, .slice none 0 0, .slice none 0 0, .slice none 0 0, .slice none 0 0]] 8 rfl (World.shaped_of_RefB (by kernel_rfl) (by kernel_rfl)) (by kernel_rfl) (by kernel_rfl) (by kernel_rfl) (door_met os _)) ?_
  intro W base args ds gs before hval0 hW _ _ hL _
  have hval : ∀ (j : Nat) t v, Tryd.f5.params[j]? = some t → args[j]? = some v → Value.okWide Tryd.prog W .any base t v := hval0
  have hW' := hW
  obtain ⟨p, q, hA0, hV, rfl, hfz, hnd⟩ := hW
  have hA : DataW.TrodAll enc Tryd.prog W 0 (fun _ => true) true Tryd.f5.params.toList args.toList ds p := hA0
  rw [Tryd.params5] at hA hval
  obtain ⟨v0, vs0, d0, ds0, p0, q0, hargs, rfl, rfl, h0, r0⟩ := trodAll_cons hA
  obtain ⟨rfl, rfl, rfl⟩ := trodAll_nil r0
  obtain rfl : args = #[v0] := by cases args; simp_all
  obtain ⟨rfl, rfl⟩ := trodVars_none hV
  have k0 := h0
  have lt0 : ∀ x ∈ p0, x.block < W.heap.size := by obtain ⟨m, hm⟩ := k0; exact DataW.trod_lt m _ _ _ hm
  obtain ⟨k, op, me, cut, ts, hd, rfl, hR⟩ := open_ctl (hval 0 35 v0 rfl rfl) h0
  clear hA0 hval0
  refine (cbytes_any k op me cut ts hd W hR).mono fun e W' ⟨he, bel⟩ => ?_
  subst he
  exact ⟨_, rfl, _, _, _, [], _, [], hW', trodAll_mk1 (shut_bool Tryd.underlying4 _), (trodAll_cons_mk (Below.trod laidOut (by kernel_rfl) (of_decide_eq_true (by kernel_rfl)) k0 bel lt0) trodAll_mk0), rfl, bel.frame _, fun h => by cases h⟩

theorem over : Rows.ControlBytesSaid :=
  OpenClaim.holds_of_wide 5 Tryd.f5 rfl rfl rfl rfl rfl rfl rfl ⟨rfl, rfl, rfl, rfl, rfl⟩ rfl rfl rfl rfl rfl (by kernel_rfl) Tryd.func5 (by kernel_rfl)
    (of_decide_eq_true (by kernel_rfl)) (by unfold Func.isWrapper; first | (rw [if_pos (by decide +kernel)]; kernel_rfl) | (rw [if_neg (by decide +kernel)]; exact ⟨rfl, rfl⟩))
    (fun os started H enc _ => lifted os started H enc)

/-- ████ THE TIED CARD ████ -/
theorem proved : Rows.ControlBytesCardSaid :=
  Claim7.holds_tied_plain_at .later [] [.data] true (true, "1df87dbecfdf8e7b1d4129916a54515ed5406b1c40d818b6cdc47c06cf5d3afa") false
    over (fun _ h => by cases h) (by kernel_rfl) (fun _ h => by cases h) controlBytes_row_tie rfl ⟨rfl, rfl⟩ (by kernel_rfl) rfl
    (fun f fn hf hfn => by
      obtain rfl : f = 5 := Option.some.inj ((show Tryd.prog.funcNamed "jalousie/jalousielaw16.ControlBytes" = some 5 by kernel_rfl).symm.trans hf) |>.symm
      obtain rfl : fn = Tryd.f5 := (Option.some.inj (Tryd.func5.symm.trans hfn)).symm
      exact ⟨by kernel_rfl, fun j t ht => by
        rw [Tryd.params5] at ht
        have hm : t ∈ [35] := by simpa using Array.mem_of_getElem? ht
        have hall : ([35].all fun u => !Tryd.prog.wantsStandIn u) = true := by kernel_rfl
        exact (show Tryd.prog.wantsStandIn t = false by simpa using List.all_eq_true.1 hall t hm)⟩)
    (by kernel_rfl)
#print axioms proved
end Go.Proofs.YtdkadlifjmmcbaaDoor.controlBytes
