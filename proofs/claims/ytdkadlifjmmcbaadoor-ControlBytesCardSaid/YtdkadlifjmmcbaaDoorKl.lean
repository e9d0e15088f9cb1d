/- The walk of ControlParses. -/
import Derived.Test.YtdkadlifjmmcbaaDoorKb
import Derived.Deep.RegionHeldLaw
import Derived.Deep.WholeRow
namespace Go.Proofs.YtdkadlifjmmcbaaDoor
open Go.RowKit

theorem exec_row {P : Program} {o : Oper} {a : Act} {w : World} (ty : TypeId) (x : Operand) (ho : o.op = .load ty x)
    (g : Nat) (hx : a.eval x = .pointer (some ⟨g, 0, none⟩)) (t : TypeId) (cs : Array Value) (fr : Nat × Nat) (d : TypeDesc) (hg : w.heap[g]? = some (.cells cs t fr))
    (hu : P.underlying ty = some d) (hd : (match d with | .struct _ | .array _ _ => true | _ => false) = true) (hi : (P.info? ty).map (·.size) = some cs.size) :
    (execOp a.eval o).run P w = .ok (.value (.agg cs)) w := by
  unfold execOp
  simp only [ho, hx, Instr.loadAt, Instr.sureAddr, Sem.run_bind, Sem.run_pure, Result.andThen_ok, run_loadVar_row w g t ty cs fr d hg hu hd hi]
theorem exec_cv {P : Program} {o : Oper} {a : Act} {w : World} (t u : TypeId) (x : Operand) (ho : o.op = .convert t u x) (v v' : Value) (hx : a.eval x = v) (h : (convert t u v).run P w = .ok v' w) :
    (execOp a.eval o).run P w = .ok (.value v') w := by
  unfold execOp
  simp only [ho, hx, Sem.run_bind, h, Result.andThen_ok, Sem.run_pure]
theorem below_all1 (w : World) (o : Obj) : Below w.heap.size w (w.alloc o) := (Below.refl _ w).alloc (Nat.le_refl _) o
theorem textsTo_le (most : Nat) (l : List UInt8) (bad : Bool) (k : Nat) : ∀ t ∈ (textsTo most l bad k).1, t.length ≤ most := by
  induction k with
  | zero => simp [textsTo]
  | succ k ih =>
    intro t ht
    simp only [textsTo, List.mem_append, List.mem_singleton] at ht
    rcases ht with h | rfl
    · exact ih t h
    · exact (textT_len _ _ _).2
theorem parseK_le2 (b : List UInt8) : (∀ t ∈ (parseK b).ts, t.length ≤ 1000) ∧ (parseK b).hd.length ≤ 1000 :=
  ⟨fun t ht => Nat.le_trans (textsTo_le 48 _ _ _ t ht) (by omega), Nat.le_trans (textT_len 48 _ _).2 (by omega)⟩

set_option maxRecDepth 100000 in
set_option maxHeartbeats 2000000 in
theorem cparses_any (A : Option Addr) (n c : Nat) (b : List UInt8) (w : World) (hl : b.length = n) (hr : RB w A b) :
    Calls Tryd.prog 4 #[.slice A n c] w fun e w' => e = .returned (.bool true) ∧ Below w.heap.size w w' := by
  cases hn : decide (600 < (n : Int))
  rotate_left
  · have hn' := of_decide_eq_true hn
    go_enter Tryd.func4, Tryd.ntmps4
    go_wp2_with fail
    refine (cawake_any _).mono ?_
    rintro e w1 ⟨rfl, bel1⟩
    go_wp2_with fail
    refine (cawake_any _).mono ?_
    rintro e w2 ⟨rfl, bel2⟩
    go_wp2
    go_returns
    exact ⟨rfl, bel1.trans (bel2.mono bel1.size)⟩
  have hn' := of_decide_eq_false hn
  have HR := Lib.hid hr
  have hzv := ctl_zero
  clear hr
  cases hok : okK b
  · have hsz : (Tryd.prog.info? 35).map (·.size) = some ctlZ.arr.size := by kernel_rfl
    go_enter Tryd.func4, Tryd.ntmps4
    go_wp2_with fail
    refine (cawake_any _).mono ?_
    rintro e w1 ⟨rfl, bel1⟩
    go_wp2_with fail
    refine (kparse_any A n c b w1 hl (HR.out.below bel1) (by omega)).mono ?_
    rintro e w2 ⟨hret, bel2⟩
    have hbw := bel1.trans (bel2.mono bel1.size)
    unfold RetK at hret
    rw [if_neg (by rw [hok]; decide)] at hret
    subst hret
    have hnew := heap_alloc_new w2 (.cells ctlZ.arr 35)
    have hc0 : (w2.alloc (.cells ctlZ.arr 35)).cell? ⟨w2.heap.size, 0, none⟩ = some (.int .i64 0) := (CAt.new w2 ctlZ_ok).op
    have hwr := World.setRow_alloc_new w2 ctlZ.arr ctlZ.arr 35
    go_wp2_with (first | (refine wpList_store_row rfl 35 _ _ rfl w2.heap.size ctlZ.arr rfl rfl 35 ctlZ.arr hnew hsz rfl (Ctl.one _) ?_; rw [hwr]) | fail)
    go_returns
    exact ⟨rfl, hbw.trans (Below.mono (below_all1 w2 _) hbw.size)⟩
  · unfold okK at hok
    rw [Bool.and_eq_true] at hok
    have hby := parseK_bytes b hok.1
    have hfm := hok.2
    have hle := parseK_le b
    have hle2 := parseK_le2 b
    have hko : okK b = true := by unfold okK; rw [hok.1, hok.2]; rfl
    go_enter Tryd.func4, Tryd.ntmps4
    go_wp2_with fail
    refine (cawake_any _).mono ?_
    rintro e w1 ⟨rfl, bel1⟩
    go_wp2_with fail
    refine (kparse_any A n c b w1 hl (HR.out.below bel1) (by omega)).mono ?_
    rintro e w2 ⟨hret, bel2⟩
    have hbw := bel1.trans (bel2.mono bel1.size)
    unfold RetK at hret
    rw [if_pos hko] at hret
    obtain ⟨h, rfl, hts⟩ := hret
    have fm2 : h.formed = true := by rw [hts.formed]; exact hfm
    have ok2 := hts.len
    have hfo := fun W => rcformed_any h ok2 W
    rw [fm2] at hfo
    have hrb := fun W (hW : KReads W h (parseK b).op (parseK b).me (parseK b).cut (parseK b).ts (parseK b).hd) => rcbytes_any h _ _ _ _ _ W hW (by omega) (by omega) (by omega) hle2.1 hle2.2
    rw [show bytesK (parseK b).op (parseK b).me (parseK b).cut (parseK b).ts (parseK b).hd = b from hby] at hrb
    have hsz : (Tryd.prog.info? 35).map (·.size) = some h.arr.size := by rw [Ctl.size ok2]; kernel_rfl
    have hsz0 : ctlZ.arr.size = h.arr.size := by rw [Ctl.size ok2, Ctl.size ctlZ_ok]
    have hnew := heap_alloc_new w2 (.cells ctlZ.arr 35)
    have hwr := World.setRow_alloc_new w2 ctlZ.arr h.arr 35
    have hbl := Blk.new w2 35 h.arr
    have hrb0 := (HR.out.below hbw).keep (w' := w2.alloc (.cells h.arr 35)) (fun q hq => World.cell?_alloc_lt w2 _ q hq)
    have hts3 := hts.below (below_all1 w2 (.cells h.arr 35))
    have HFO := Lib.hid hfo
    have HRP := Lib.hid hrb
    have HB := Lib.hid hbl
    have HRB := Lib.hid hrb0
    have HTS := Lib.hid hts3
    have HOK := Lib.hid ok2
    clear hfo hrb hbl hrb0 hts3 ok2 fm2 hok hko hby hfm hle hle2 hts bel1 bel2
    go_wp2_with (first | (refine wpList_store_row rfl 35 _ _ rfl w2.heap.size h.arr rfl rfl 35 ctlZ.arr hnew hsz hsz0 (Ctl.one _) ?_; rw [hwr]) | fail)
    clear hwr hnew
    refine wp_region_held_drew (S := fun W => Blk W w2.heap.size 35 h.arr ∧ RB W A b) (by kernel_rfl) ⟨HB.out, HRB.out⟩ (fun hHeld => ?_)
    refine wpAnyH_take (i := 0) (v := .agg h.arr) rfl (by kernel_rfl) (by kernel_rfl) (by kernel_rfl) (fun _ _ _ h => h) (Or.inl ⟨by rfl, fun W hW => ?_⟩) hHeld ?_
    · exact exec_row 35 (.tmp 3) rfl w2.heap.size rfl 35 h.arr (0, 0) _ hW.1 Tryd.underlying35 rfl hsz
    try simp only [Act.put, List.getElem_toArray, List.getElem_cons_succ, List.getElem_cons_zero, List.setIfInBounds_toArray, List.set_cons_succ, List.set_cons_zero]
    refine wpAnyH_ready (rs := [1]) (by kernel_rfl) (by simp) ?_
    refine AllReadyH.cons rfl (fun K hK => ?_) AllReadyH.nil
    go_simp
    go_at_call 12
    refine (HFO.out (w2.alloc (.cells h.arr 35)).drew).mono ?_
    rintro e w4 ⟨rfl, bel4⟩
    have hb4 := HB.out.drew.next bel4
    have hr4 := (HRB.out.keep (w' := (w2.alloc (.cells h.arr 35)).drew) fun _ _ => rfl).below bel4
    have HT4 := Lib.hid ((HTS.out.keep (w' := (w2.alloc (.cells h.arr 35)).drew) fun _ _ => rfl).below bel4)
    have hbw4 := hbw.trans (Below.trans (Below.mono (below_all1 w2 (.cells h.arr 35)) hbw.size) (Below.trans ((Below.refl _ _).drew) (bel4.mono (by have := hbw.size; simp; omega))))
    have HBW := Lib.hid hbw4
    have HB4 := Lib.hid hb4
    have HR4 := Lib.hid hr4
    clear hb4 hr4 hbw4
    go_wp2
    refine hK.out _ _ ⟨HB4.out, HR4.out⟩ (fun hHeld4 => ?_)
    clear hK K hHeld
    try simp only [Act.put, List.getElem_toArray, List.getElem_cons_succ, List.getElem_cons_zero, List.setIfInBounds_toArray, List.set_cons_succ, List.set_cons_zero]
    refine wpAnyH_take (i := 2) (v := .bool true) rfl (by kernel_rfl) (by kernel_rfl) (by kernel_rfl) (fun _ _ _ h => h) (Or.inl ⟨by rfl, fun W hW => ?_⟩) hHeld4 ?_
    · rfl
    try simp only [Act.put, List.getElem_toArray, List.getElem_cons_succ, List.getElem_cons_zero, List.setIfInBounds_toArray, List.set_cons_succ, List.set_cons_zero]
    refine wpAnyH_take (i := 3) (v := .agg h.arr) rfl (by kernel_rfl) (by kernel_rfl) (by kernel_rfl) (fun _ _ _ h => h) (Or.inl ⟨by rfl, fun W hW => ?_⟩) hHeld4 ?_
    · exact exec_row 35 (.tmp 3) rfl w2.heap.size rfl 35 h.arr (0, 0) _ hW.1 Tryd.underlying35 rfl hsz
    try simp only [Act.put, List.getElem_toArray, List.getElem_cons_succ, List.getElem_cons_zero, List.setIfInBounds_toArray, List.set_cons_succ, List.set_cons_zero]
    refine wpAnyH_take (i := 6) (v := .slice A n c) rfl (by kernel_rfl) (by kernel_rfl) (by kernel_rfl) (fun _ _ _ h => h) (Or.inl ⟨by rfl, fun W hW => ?_⟩) hHeld4 ?_
    · rfl
    try simp only [Act.put, List.getElem_toArray, List.getElem_cons_succ, List.getElem_cons_zero, List.setIfInBounds_toArray, List.set_cons_succ, List.set_cons_zero]
    refine wpAnyH_take (i := 7) (v := .string (mkS b)) rfl (by kernel_rfl) (by kernel_rfl) (by kernel_rfl) (fun _ _ _ h => h) (Or.inl ⟨by rfl, fun W hW => ?_⟩) hHeld4 ?_
    · exact exec_cv 31 9 (.tmp 33) rfl _ _ rfl (conv_bs W A n c b hl hW.2)
    try simp only [Act.put, List.getElem_toArray, List.getElem_cons_succ, List.getElem_cons_zero, List.setIfInBounds_toArray, List.set_cons_succ, List.set_cons_zero]
    refine wpAnyH_ready (rs := [4]) (by kernel_rfl) (by simp) ?_
    refine AllReadyH.cons rfl (fun K hK => ?_) AllReadyH.nil
    go_simp
    go_at_call 13
    refine (HRP.out w4 HT4.out).mono ?_
    rintro e w5 ⟨A5, c5, rfl, own5, fr5, bel5⟩
    have hcv6 := conv_bs w5 A5 n c5 b hl own5.rb
    have hb5 := HB4.out.next bel5
    have hr5 := HR4.out.below bel5
    have hbw5 := HBW.out.trans (bel5.mono HBW.out.size)
    go_wp2
    refine hK.out _ _ ⟨hb5, hr5⟩ (fun hHeld5 => ?_)
    clear hK K hHeld4
    try simp only [Act.put, List.getElem_toArray, List.getElem_cons_succ, List.getElem_cons_zero, List.setIfInBounds_toArray, List.set_cons_succ, List.set_cons_zero]
    refine wpAnyH_ready (rs := [5]) (by kernel_rfl) (by simp) ?_
    refine AllReadyH.cons rfl (fun K hK => ?_) AllReadyH.nil
    go_simp
    refine hK.out _ _ hHeld5 (fun _ => ?_)
    clear hK K hcv6
    try simp only [Act.put, List.getElem_toArray, List.getElem_cons_succ, List.getElem_cons_zero, List.setIfInBounds_toArray, List.set_cons_succ, List.set_cons_zero]
    refine wpAnyH_take (i := 8) (v := .bool true) rfl (by kernel_rfl) (by kernel_rfl) (by kernel_rfl) (fun _ _ _ h => h) (Or.inl ⟨by rfl, fun W hW => ?_⟩) hHeld5 ?_
    · go_simp
    try simp only [Act.put, List.getElem_toArray, List.getElem_cons_succ, List.getElem_cons_zero, List.setIfInBounds_toArray, List.set_cons_succ, List.set_cons_zero]
    refine wpAnyH_take (i := 9) (v := .bool true) rfl (by kernel_rfl) (by kernel_rfl) (by kernel_rfl) (fun _ _ _ h => h) (Or.inl ⟨by rfl, fun W hW => ?_⟩) hHeld5 ?_
    · rfl
    try simp only [Act.put, List.getElem_toArray, List.getElem_cons_succ, List.getElem_cons_zero, List.setIfInBounds_toArray, List.set_cons_succ, List.set_cons_zero]
    refine wpAnyH_take (i := 10) (v := .bool true) rfl (by kernel_rfl) (by kernel_rfl) (by kernel_rfl) (fun _ _ _ h => h) (Or.inl ⟨by rfl, fun W hW => ?_⟩) hHeld5 ?_
    · rfl
    try simp only [Act.put, List.getElem_toArray, List.getElem_cons_succ, List.getElem_cons_zero, List.setIfInBounds_toArray, List.set_cons_succ, List.set_cons_zero]
    refine wpAnyH_done (by kernel_rfl) ?_ _
    go_wp2
    go_returns
    exact ⟨rfl, hbw5⟩

end Go.Proofs.YtdkadlifjmmcbaaDoor
