/- The walk of the reference's Formed for a header that is formed. -/
import Derived.Test.YtdkadlifjmmcbaaRs
import Derived.Test.YtdkadlifjmmcbaaRk
import Derived.Test.YtdkadlifjmmcbaaFo
import Derived.Deep.RegionLaw
import Derived.Deep.RegionHeldLaw
namespace Go.Proofs.Ytdkadlifjmmcbaa
open Go.RowKit

/-- a part of a block is loaded: the operation is looked at first -/
theorem wpList_load_midS {P : Program} {ops : Array Oper} {rest : List Oper} {dst : Option Tmp} {t : TypeId} {pos : String} {after : Array Edge} {guard : Option (Nat × Bool)} {ty : TypeId} {x : Operand} {a : Act} {w : World} {Q : Exit → Act → World → Prop}
    (b o : Nat) (cs : List Value) (d : TypeDesc) (hc : w.rangeAt b o cs) (hu : P.underlying ty = some d) (hd : d.isRow = true) (hi : (P.info? ty).map (·.size) = some cs.length)
    (hx : a.eval x = .pointer (some ⟨b, o, none⟩)) (hw : Region.wanted { dst := dst, op := .load ty x, type := t, pos := pos, after := after, guard := guard } (yielded ops a.tmps) = true)
    (h : wpList P ops Q rest (a.put dst (.agg cs.toArray)) w) : wpList P ops Q ({ dst := dst, op := .load ty x, type := t, pos := pos, after := after, guard := guard } :: rest) a w :=
  wpList_load_midG hw ty x rfl b o hx cs d hc hu hd hi h

/-- what a formed header's fields satisfy -/
structure FormFacts (h : Hdr) (s : Bool) : Prop where
  w1 : 1 ≤ h.wr
  w2 : h.wr ≤ 6
  q1 : 1 ≤ h.sq
  q2 : h.sq ≤ 1048576
  e1 : 0 ≤ h.ep
  e2 : h.ep ≤ 255
  t : h.tm ≤ 1099511627776
  kw : h.kn.getD (h.wr - 1).toNat 0 = h.sq - 1
  kn : ∀ k ∈ h.kn, k ≤ 1048576
  pv : 1 < h.sq ∨ h.pv = zeros 32
  n : h.n ≤ 8
  s : s = true
  z1 : 80 ≤ h.sz
  z2 : h.sz ≤ 2064
  z3 : rbk (h.sz - 17) = h.sz - 16
  ct : h.ct = false ∨ (h.n = 0 ∧ h.it = zeros 16)

theorem formFacts {h : Hdr} {s : Bool} (hf : formedH h s = true) : FormFacts h s := by
  simp only [formedH, placedB, padIs_rbk, Bool.and_eq_true, Bool.or_eq_true, decide_eq_true_eq, beq_iff_eq, Bool.not_eq_true', List.all_eq_true] at hf
  obtain ⟨⟨⟨⟨⟨⟨⟨⟨⟨⟨⟨⟨⟨a1, a2⟩, a3⟩, a4⟩, a5⟩, a6⟩, a7⟩, a8⟩, a9⟩, a10⟩, b1⟩, b2⟩, ⟨b3, b4⟩, b5⟩, b6⟩ := hf
  exact ⟨a1, a2, a3, a4, a5, a6, a7, a8, a9, a10, b1, b2, b3, b4, b5, b6⟩

set_option maxRecDepth 100000 in
set_option maxHeartbeats 1000000 in
theorem rformedh_true (h : Hdr) (o : h.ok) (toks : List (List UInt8)) (w : World) (hn : toks.length = h.n) (ht : TS w h.A toks) (hf : formedH h (sortedB toks) = true) :
    Calls Try.prog 15 #[.agg h.arr] w fun e w' => e = .returned (.bool true) ∧ Below w.heap.size w w' := by
  obtain ⟨f1, f2, f3, f4, f5, f6, f7, f8, f9, f10, f11, f12, f13, f14, f15, f16⟩ := formFacts hf
  have H := HAt.new w o
  have HH := Lib.hid H
  have hwr := H.wr
  have hsq := H.sq
  have hep := H.ep
  have htm := H.tm
  have htk := H.toks
  have hb0 : Below w.heap.size w (w.alloc (.cells h.arr 44)) := (Below.refl _ w).alloc (Nat.le_refl _) _
  have hso := fun W hb => rsorted_any h.A h.n h.c toks W hn (ht.below (w' := W) hb) (by omega)
  rw [f12] at hso
  have HSO := Lib.hid hso
  clear hso H ht hf hn
  obtain ⟨m, hm⟩ : ∃ m : Nat, h.wr = (m : Int) + 1 := ⟨(h.wr - 1).toNat, by omega⟩
  have hm5 : m < 6 := by omega
  have e1 : (h.wr - 1).toNat = m := by omega
  rw [e1] at f8
  obtain ⟨k0, k1, k2, k3, k4, k5, hkn⟩ := list6 o.kn
  rw [hkn] at f9
  have g0 := f9 k0 (by simp)
  have g1 := f9 k1 (by simp)
  have g2 := f9 k2 (by simp)
  have g3 := f9 k3 (by simp)
  have g4 := f9 k4 (by simp)
  have g5 := f9 k5 (by simp)
  have hkm : h.kn[m]? = some (h.sq - 1) := by
    rw [List.getElem?_eq_getElem (by rw [o.kn]; exact hm5)]
    rw [List.getD_eq_getElem?_getD, List.getElem?_eq_getElem (by rw [o.kn]; exact hm5)] at f8
    exact congrArg some f8
  have HK := Lib.hid hkn
  have HKM := Lib.hid hkm
  have HT := Lib.hid f16
  have HZ := Lib.hid f15
  clear hkn hkm f9 f8 f12 e1 f16 f15
  have d1 : decide ((m : Int) + 1 < 1) = false := decide_eq_false (by omega)
  have d2 : decide (6 < (m : Int) + 1) = false := decide_eq_false (by omega)
  have d3 : decide ((h.sq : Int) < 1) = false := decide_eq_false (by omega)
  have d4 : decide (1048576 < (h.sq : Int)) = false := decide_eq_false (by omega)
  have d5 : decide (h.ep < 0) = false := decide_eq_false (by omega)
  have d6 : decide (255 < h.ep) = false := decide_eq_false (by omega)
  have d7 : decide (1099511627776 < (h.tm : Int)) = false := decide_eq_false (by omega)
  have d8 : decide (8 < (h.n : Int)) = false := decide_eq_false (by omega)
  rw [hm] at hwr
  go_enter Try.func15, Try.ntmps15
  go_wp2_with fail
  refine (HSO.out _ hb0).mono ?_
  rintro e w1 ⟨rfl, bel1⟩
  have hb1 := hb0.trans (bel1.mono hb0.size)
  have H1 := HH.out.next bel1
  have hk0 : w1.cell? ⟨w.heap.size, 54, none⟩ = some (.int .u64 (k0 : Int)) := by rw [H1.kn 0 (by omega), HK.out]; rfl
  have hk1 : w1.cell? ⟨w.heap.size, 55, none⟩ = some (.int .u64 (k1 : Int)) := by rw [H1.kn 1 (by omega), HK.out]; rfl
  have hk2 : w1.cell? ⟨w.heap.size, 56, none⟩ = some (.int .u64 (k2 : Int)) := by rw [H1.kn 2 (by omega), HK.out]; rfl
  have hk3 : w1.cell? ⟨w.heap.size, 57, none⟩ = some (.int .u64 (k3 : Int)) := by rw [H1.kn 3 (by omega), HK.out]; rfl
  have hk4 : w1.cell? ⟨w.heap.size, 58, none⟩ = some (.int .u64 (k4 : Int)) := by rw [H1.kn 4 (by omega), HK.out]; rfl
  have hk5 : w1.cell? ⟨w.heap.size, 59, none⟩ = some (.int .u64 (k5 : Int)) := by rw [H1.kn 5 (by omega), HK.out]; rfl
  have hszc := H1.sz
  have HW1 := Lib.hid H1
  have HHK := Lib.hid (And.intro (And.intro hk0 hk1) (And.intro (And.intro hk2 hk3) (And.intro hk4 hk5)))
  clear H1 hwr hsq hep htm htk hszc
  go_wp2_with fail
  refine wp_loop_rounds 7 ?_
  repeat any_goals (rw [rounds_succ]; go_wp2_with fail)
  have z80 : decide (80 ≤ h.sz) = true := decide_eq_true (by omega)
  have z20 : decide (h.sz ≤ 2064) = true := decide_eq_true (by omega)
  -- GEN
  refine wp_region_held_drew (S := fun W => W.cell? ⟨w.heap.size, 92, none⟩ = some (.int .i64 h.sz)) (by kernel_rfl) (by simpa using HW1.out.sz) (fun hHeld => ?_)
  refine wpAnyH_take (i := 0) (v := .pointer (some ⟨w.heap.size, 92, none⟩)) rfl (by kernel_rfl) (by kernel_rfl) (by kernel_rfl) (fun _ _ _ h => h) (Or.inl ⟨by rfl, fun W hW => ?_⟩) hHeld ?_
  · go_simp
  try simp only [Act.put, List.getElem_toArray, List.getElem_cons_succ, List.getElem_cons_zero, List.setIfInBounds_toArray, List.set_cons_succ, List.set_cons_zero]
  refine wpAnyH_take (i := 1) (v := .int .i64 h.sz) rfl (by kernel_rfl) (by kernel_rfl) (by kernel_rfl) (fun _ _ _ h => h) (Or.inl ⟨by rfl, fun W hW => ?_⟩) hHeld ?_
  · go_simp
  try simp only [Act.put, List.getElem_toArray, List.getElem_cons_succ, List.getElem_cons_zero, List.setIfInBounds_toArray, List.set_cons_succ, List.set_cons_zero]
  refine wpAnyH_take (i := 2) (v := .bool true) rfl (by kernel_rfl) (by kernel_rfl) (by kernel_rfl) (fun _ _ _ h => h) (Or.inl ⟨by rfl, fun W hW => ?_⟩) hHeld ?_
  · go_simp
  try simp only [Act.put, List.getElem_toArray, List.getElem_cons_succ, List.getElem_cons_zero, List.setIfInBounds_toArray, List.set_cons_succ, List.set_cons_zero]
  refine wpAnyH_take (i := 3) (v := .bool true) rfl (by kernel_rfl) (by kernel_rfl) (by kernel_rfl) (fun _ _ _ h => h) (Or.inl ⟨by rfl, fun W hW => ?_⟩) hHeld ?_
  · rfl
  try simp only [Act.put, List.getElem_toArray, List.getElem_cons_succ, List.getElem_cons_zero, List.setIfInBounds_toArray, List.set_cons_succ, List.set_cons_zero]
  refine wpAnyH_take (i := 4) (v := .pointer (some ⟨w.heap.size, 92, none⟩)) rfl (by kernel_rfl) (by kernel_rfl) (by kernel_rfl) (fun _ _ _ h => h) (Or.inl ⟨by rfl, fun W hW => ?_⟩) hHeld ?_
  · go_simp
  try simp only [Act.put, List.getElem_toArray, List.getElem_cons_succ, List.getElem_cons_zero, List.setIfInBounds_toArray, List.set_cons_succ, List.set_cons_zero]
  refine wpAnyH_take (i := 5) (v := .int .i64 h.sz) rfl (by kernel_rfl) (by kernel_rfl) (by kernel_rfl) (fun _ _ _ h => h) (Or.inl ⟨by rfl, fun W hW => ?_⟩) hHeld ?_
  · go_simp
  try simp only [Act.put, List.getElem_toArray, List.getElem_cons_succ, List.getElem_cons_zero, List.setIfInBounds_toArray, List.set_cons_succ, List.set_cons_zero]
  refine wpAnyH_take (i := 6) (v := .bool true) rfl (by kernel_rfl) (by kernel_rfl) (by kernel_rfl) (fun _ _ _ h => h) (Or.inl ⟨by rfl, fun W hW => ?_⟩) hHeld ?_
  · go_simp
  try simp only [Act.put, List.getElem_toArray, List.getElem_cons_succ, List.getElem_cons_zero, List.setIfInBounds_toArray, List.set_cons_succ, List.set_cons_zero]
  refine wpAnyH_take (i := 7) (v := .bool true) rfl (by kernel_rfl) (by kernel_rfl) (by kernel_rfl) (fun _ _ _ h => h) (Or.inl ⟨by rfl, fun W hW => ?_⟩) hHeld ?_
  · rfl
  try simp only [Act.put, List.getElem_toArray, List.getElem_cons_succ, List.getElem_cons_zero, List.setIfInBounds_toArray, List.set_cons_succ, List.set_cons_zero]
  refine wpAnyH_take (i := 8) (v := .bool true) rfl (by kernel_rfl) (by kernel_rfl) (by kernel_rfl) (fun _ _ _ h => h) (Or.inl ⟨by rfl, fun W hW => ?_⟩) hHeld ?_
  · rfl
  try simp only [Act.put, List.getElem_toArray, List.getElem_cons_succ, List.getElem_cons_zero, List.setIfInBounds_toArray, List.set_cons_succ, List.set_cons_zero]
  refine wpAnyH_take (i := 9) (v := .pointer (some ⟨w.heap.size, 92, none⟩)) rfl (by kernel_rfl) (by kernel_rfl) (by kernel_rfl) (fun _ _ _ h => h) (Or.inl ⟨by rfl, fun W hW => ?_⟩) hHeld ?_
  · go_simp
  try simp only [Act.put, List.getElem_toArray, List.getElem_cons_succ, List.getElem_cons_zero, List.setIfInBounds_toArray, List.set_cons_succ, List.set_cons_zero]
  refine wpAnyH_take (i := 10) (v := .int .i64 h.sz) rfl (by kernel_rfl) (by kernel_rfl) (by kernel_rfl) (fun _ _ _ h => h) (Or.inl ⟨by rfl, fun W hW => ?_⟩) hHeld ?_
  · go_simp
  try simp only [Act.put, List.getElem_toArray, List.getElem_cons_succ, List.getElem_cons_zero, List.setIfInBounds_toArray, List.set_cons_succ, List.set_cons_zero]
  refine wpAnyH_take (i := 11) (v := .int .i64 (h.sz - 17)) rfl (by kernel_rfl) (by kernel_rfl) (by kernel_rfl) (fun _ _ _ h => h) (Or.inl ⟨by rfl, fun W hW => ?_⟩) hHeld ?_
  · (go_simp; go_arith)
  try simp only [Act.put, List.getElem_toArray, List.getElem_cons_succ, List.getElem_cons_zero, List.setIfInBounds_toArray, List.set_cons_succ, List.set_cons_zero]
  refine wpAnyH_take (i := 13) (v := .pointer (some ⟨w.heap.size, 92, none⟩)) rfl (by kernel_rfl) (by kernel_rfl) (by kernel_rfl) (fun _ _ _ h => h) (Or.inl ⟨by rfl, fun W hW => ?_⟩) hHeld ?_
  · go_simp
  try simp only [Act.put, List.getElem_toArray, List.getElem_cons_succ, List.getElem_cons_zero, List.setIfInBounds_toArray, List.set_cons_succ, List.set_cons_zero]
  refine wpAnyH_take (i := 14) (v := .int .i64 h.sz) rfl (by kernel_rfl) (by kernel_rfl) (by kernel_rfl) (fun _ _ _ h => h) (Or.inl ⟨by rfl, fun W hW => ?_⟩) hHeld ?_
  · go_simp
  try simp only [Act.put, List.getElem_toArray, List.getElem_cons_succ, List.getElem_cons_zero, List.setIfInBounds_toArray, List.set_cons_succ, List.set_cons_zero]
  refine wpAnyH_take (i := 15) (v := .int .i64 (h.sz - 16)) rfl (by kernel_rfl) (by kernel_rfl) (by kernel_rfl) (fun _ _ _ h => h) (Or.inl ⟨by rfl, fun W hW => ?_⟩) hHeld ?_
  · (go_simp; go_arith)
  try simp only [Act.put, List.getElem_toArray, List.getElem_cons_succ, List.getElem_cons_zero, List.setIfInBounds_toArray, List.set_cons_succ, List.set_cons_zero]
  refine wpAnyH_ready (rs := [12]) (by kernel_rfl) (by simp) ?_
  refine AllReadyH.cons rfl (fun K hK => ?_) AllReadyH.nil
  go_simp
  go_at_call 38
  refine (rbucket_any _ _).mono ?_
  rintro e w2 ⟨rfl, bel2⟩
  rw [HZ.out]
  have H2 := HW1.out.drew.next bel2
  have hb2 := hb1.trans (((Below.refl w.heap.size w1).drew).trans (bel2.mono hb1.size))
  have HW2 := Lib.hid H2
  have hs2 := H2.sz
  clear H2
  go_wp2
  refine hK.out _ _ hs2 (fun hHeld2 => ?_)
  clear hK K hHeld hs2
  try simp only [Act.put, List.getElem_toArray, List.getElem_cons_succ, List.getElem_cons_zero, List.setIfInBounds_toArray, List.set_cons_succ, List.set_cons_zero]
  refine wpAnyH_take (i := 16) (v := .bool true) rfl (by kernel_rfl) (by kernel_rfl) (by kernel_rfl) (fun _ _ _ h => h) (Or.inl ⟨by rfl, fun W hW => ?_⟩) hHeld2 ?_
  · go_simp
  try simp only [Act.put, List.getElem_toArray, List.getElem_cons_succ, List.getElem_cons_zero, List.setIfInBounds_toArray, List.set_cons_succ, List.set_cons_zero]
  refine wpAnyH_take (i := 17) (v := .bool true) rfl (by kernel_rfl) (by kernel_rfl) (by kernel_rfl) (fun _ _ _ h => h) (Or.inl ⟨by rfl, fun W hW => ?_⟩) hHeld2 ?_
  · rfl
  try simp only [Act.put, List.getElem_toArray, List.getElem_cons_succ, List.getElem_cons_zero, List.setIfInBounds_toArray, List.set_cons_succ, List.set_cons_zero]
  refine wpAnyH_take (i := 18) (v := .bool true) rfl (by kernel_rfl) (by kernel_rfl) (by kernel_rfl) (fun _ _ _ h => h) (Or.inl ⟨by rfl, fun W hW => ?_⟩) hHeld2 ?_
  · rfl
  try simp only [Act.put, List.getElem_toArray, List.getElem_cons_succ, List.getElem_cons_zero, List.setIfInBounds_toArray, List.set_cons_succ, List.set_cons_zero]
  refine wpAnyH_done (by kernel_rfl) ?_ _
  clear hHeld2
  have hsq2 := HW2.out.sq
  have hct2 := HW2.out.ct
  have htk2 := HW2.out.toks
  have hwr2 := HW2.out.wr
  rw [hm] at hwr2
  have hkm2 := HW2.out.kn m hm5
  rw [HKM.out] at hkm2
  obtain ⟨q, hq⟩ : ∃ q : Nat, h.sq = q + 1 := ⟨h.sq - 1, by omega⟩
  rw [show h.sq - 1 = q from by omega] at hkm2
  simp only [Option.map_some] at hkm2
  have hkq : ((q : Int) == (h.sq : Int) - 1) = true := by simp; omega
  clear hq
  have heqp := eqin_zero (P := Try.prog) (t := 38) (e := 5) Try.underlying38 (by kernel_rfl) Try.underlying5 h.pv o.pv
  have heqi := eqin_zero16 (P := Try.prog) (t := 40) (e := 5) Try.underlying40 (by kernel_rfl) Try.underlying5 h.it o.it
  have hszp : (Try.prog.info? 38).map (·.size) = some (bytesL h.pv).length := by rw [bytesL_len, o.pv]; kernel_rfl
  have hszi : (Try.prog.info? 40).map (·.size) = some (bytesL h.it).length := by rw [bytesL_len, o.it]; kernel_rfl
  have HGP := Lib.hid HW2.out.gpv
  have HGI := Lib.hid HW2.out.git
  have hm0 : (0 : Int) ≤ (m : Int) := by omega
  cases h9 : decide (1 < (h.sq : Int))
  all_goals cases h10 : h.ct
  ·
    have h9' := of_decide_eq_false h9
    have hpz : (h.pv == zeros 32) = true := by rcases f10 with h | h; exact absurd h (by omega); rw [h]; simp
    simp only [hpz] at heqp
    clear hpz
    rw [h10] at hct2
    go_wp2_with (first | ((with_reducible refine wpList_load_midS w.heap.size 2 (bytesL h.pv) _ HGP.out Try.underlying38 ?_ hszp ?_ ?_ ?_); rfl; rfl; rfl) | ((with_reducible refine wpList_load_midS w.heap.size 37 (bytesL h.it) _ HGI.out Try.underlying40 ?_ hszi ?_ ?_ ?_); rfl; rfl; rfl) | fail)
    go_quiet (fail)
    go_wp2
    go_returns
    exact ⟨rfl, by (repeat (refine bel_drewN ?_ _)); exact hb2⟩
  ·
    have h9' := of_decide_eq_false h9
    have hpz : (h.pv == zeros 32) = true := by rcases f10 with h | h; exact absurd h (by omega); rw [h]; simp
    simp only [hpz] at heqp
    clear hpz
    rw [h10] at hct2
    have hci : h.n = 0 ∧ h.it = zeros 16 := by rcases HT.out with h | h; (rw [h10] at h; cases h); exact h
    have hiz : (h.it == zeros 16) = true := by rw [hci.2]; simp
    have hn0 : ((h.n : Int) == 0) = true := by rw [hci.1]; rfl
    simp only [hiz] at heqi
    clear hiz
    clear hci
    go_wp2_with (first | ((with_reducible refine wpList_load_midS w.heap.size 2 (bytesL h.pv) _ HGP.out Try.underlying38 ?_ hszp ?_ ?_ ?_); rfl; rfl; rfl) | ((with_reducible refine wpList_load_midS w.heap.size 37 (bytesL h.it) _ HGI.out Try.underlying40 ?_ hszi ?_ ?_ ?_); rfl; rfl; rfl) | fail)
    go_quiet (fail)
    go_wp2
    go_returns
    exact ⟨rfl, by (repeat (refine bel_drewN ?_ _)); exact hb2⟩
  ·
    rw [h10] at hct2
    go_wp2_with (first | ((with_reducible refine wpList_load_midS w.heap.size 2 (bytesL h.pv) _ HGP.out Try.underlying38 ?_ hszp ?_ ?_ ?_); rfl; rfl; rfl) | ((with_reducible refine wpList_load_midS w.heap.size 37 (bytesL h.it) _ HGI.out Try.underlying40 ?_ hszi ?_ ?_ ?_); rfl; rfl; rfl) | fail)
    go_quiet (fail)
    go_wp2
    go_returns
    exact ⟨rfl, by (repeat (refine bel_drewN ?_ _)); exact hb2⟩
  ·
    rw [h10] at hct2
    have hci : h.n = 0 ∧ h.it = zeros 16 := by rcases HT.out with h | h; (rw [h10] at h; cases h); exact h
    have hiz : (h.it == zeros 16) = true := by rw [hci.2]; simp
    have hn0 : ((h.n : Int) == 0) = true := by rw [hci.1]; rfl
    simp only [hiz] at heqi
    clear hiz
    clear hci
    go_wp2_with (first | ((with_reducible refine wpList_load_midS w.heap.size 2 (bytesL h.pv) _ HGP.out Try.underlying38 ?_ hszp ?_ ?_ ?_); rfl; rfl; rfl) | ((with_reducible refine wpList_load_midS w.heap.size 37 (bytesL h.it) _ HGI.out Try.underlying40 ?_ hszi ?_ ?_ ?_); rfl; rfl; rfl) | fail)
    go_quiet (fail)
    go_wp2
    go_returns
    exact ⟨rfl, by (repeat (refine bel_drewN ?_ _)); exact hb2⟩

end Go.Proofs.Ytdkadlifjmmcbaa
