/- The walk of entry.Bytes for a header without tokens. -/
import Derived.Test.YtdkadlifjmmcbaaCo
import Derived.Deep.RegionHeldLaw
namespace Go.Proofs.Ytdkadlifjmmcbaa
open Go.RowKit

theorem exec_load_row {P : Program} {o : Oper} {a : Act} {w : World} (ty : TypeId) (x : Operand) (ho : o.op = .load ty x)
    (g : Nat) (hx : a.eval x = .pointer (some ⟨g, 0, none⟩)) (t : TypeId) (cs : Array Value) (fr : Nat × Nat) (d : TypeDesc) (hg : w.heap[g]? = some (.cells cs t fr))
    (hu : P.underlying ty = some d) (hd : (match d with | .struct _ | .array _ _ => true | _ => false) = true) (hi : (P.info? ty).map (·.size) = some cs.size) :
    (execOp a.eval o).run P w = .ok (.value (.agg cs)) w := by
  unfold execOp
  simp only [ho, hx, Instr.loadAt, Instr.sureAddr, Sem.run_bind, Sem.run_pure, Result.andThen_ok, run_loadVar_row w g t ty cs fr d hg hu hd hi]

theorem coreB0_len {h : Hdr} (o : h.ok) (hk : ∀ k ∈ h.kn, k < 18446744073709551616) (hq : h.sq < 18446744073709551616) (ht : h.tm < 18446744073709551616)
    (hw2 : h.wr ≤ 6) (he2 : h.ep ≤ 255) (hz2 : h.sz ≤ 3000) (hn : h.n = 0) : (coreB h []).length ≤ 300 := by
  have l1 := numB_len64 (x := h.wr.toNat) (by omega)
  have l2 := numB_len64 (x := h.sq) (by omega)
  have l3 := numB_len64 (x := h.ep.toNat) (by omega)
  have l4 := numB_len64 (x := h.tm) (by omega)
  have l5 := numB_len64 (x := h.sz.toNat) (by omega)
  have l6 := numB_len64 (x := 0) (by omega)
  obtain ⟨k0, k1, k2, k3, k4, k5, hkn⟩ := list6 o.kn
  rw [hkn] at hk
  have m0 := numB_len64 (x := k0) (hk _ (by simp))
  have m1 := numB_len64 (x := k1) (hk _ (by simp))
  have m2 := numB_len64 (x := k2) (hk _ (by simp))
  have m3 := numB_len64 (x := k3) (hk _ (by simp))
  have m4 := numB_len64 (x := k4) (hk _ (by simp))
  have m5 := numB_len64 (x := k5) (hk _ (by simp))
  simp [coreB, hkn, hn, o.pv, o.it, o.sm]
  omega

set_option maxRecDepth 100000 in
set_option maxHeartbeats 1000000 in
theorem bytes0_any (h : Hdr) (o : h.ok) (w : World) (hf : formedH h true = true) (hn : h.n = 0) (hk : ∀ k ∈ h.kn, k < 18446744073709551616) (hq : h.sq < 18446744073709551616) (ht : h.tm < 18446744073709551616)
    (hw1 : 0 ≤ h.wr) (hw2 : h.wr ≤ 6) (he1 : 0 ≤ h.ep) (he2 : h.ep ≤ 255) (hz1 : 0 ≤ h.sz) (hz2 : h.sz ≤ 3000) :
    Calls Try.prog 17 #[.agg h.arr] w (RetB (coreB h [] ++ h.cd) (fun v => v) w) := by
  have H := HAt.new w o
  have hsz : (Try.prog.info? 44).map (·.size) = some h.arr.size := by rw [Hdr.size o]; kernel_rfl
  have hrow := H.blk
  unfold Blk at hrow
  have hb0 : Below w.heap.size w (w.alloc (.cells h.arr 44)) := (Below.refl _ w).alloc (Nat.le_refl _) _
  have hfo := eformedh_any h o (w.alloc (.cells h.arr 44)) hq ht (by omega) (by omega) (by omega) true (fun W _ => by rw [hn]; exact sorted_empty _ _ W)
  have hco := fun W => core0_any h o W hw1 (by omega) he1 (by omega) hz1 (by omega) hq ht hk hn
  have hcl := o.cd
  have HC := Lib.hid hco
  have HH := Lib.hid H
  rw [hf] at hfo
  have HF := Lib.hid hfo
  have hCl := coreB0_len o hk hq ht hw2 he2 hz2 hn
  generalize coreB h [] = C at *
  clear hco H hfo hf hk
  go_enter Try.func17, Try.ntmps17
  go_wp2_with (first | (refine wpList_load_row rfl 44 _ rfl w.heap.size rfl 44 _ (0, 0) _ hrow Try.underlying44 rfl hsz ?_) | fail)
  refine HF.out.mono ?_
  rintro e w1 ⟨rfl, bel1⟩
  have H1 := HH.out.next bel1
  have HN := Lib.hid H1
  have hlt := H1.blk.lt
  clear H1 hrow
  go_wp2_with fail
  refine wp_region_held_drew (S := fun W => W.heap[w.heap.size]? = some (.cells h.arr 44 (0, 0))) (by kernel_rfl) ?_ (fun hHeld => ?_)
  · exact HN.out.drew.blk
  refine wpAnyH_take (i := 0) (v := .agg h.arr) rfl (by kernel_rfl) (by kernel_rfl) (by kernel_rfl) (fun _ _ _ h => h) (Or.inl ⟨by rfl, fun W hW => ?_⟩) hHeld ?_
  · exact exec_load_row 44 (.tmp 1) rfl w.heap.size rfl 44 h.arr (0, 0) _ hW Try.underlying44 rfl hsz
  simp only [Act.put]
  refine wpAnyH_take (i := 2) (v := .pointer (some ⟨w.heap.size, 93, none⟩)) rfl (by kernel_rfl) (by kernel_rfl) (by kernel_rfl) (fun _ _ _ h => h) (Or.inl ⟨by rfl, fun W _ => ?_⟩) hHeld ?_
  · go_simp
  simp only [Act.put]
  refine wpAnyH_take (i := 3) (v := .slice (some ⟨w.heap.size, 93, none⟩) 32 32) rfl (by kernel_rfl) (by kernel_rfl) (by kernel_rfl) (fun _ _ _ h => h) (Or.inl ⟨by rfl, fun W _ => ?_⟩) hHeld ?_
  · go_simp
  simp only [Act.put]
  refine wpAnyH_ready (rs := [1]) (by kernel_rfl) (by simp) ?_
  refine AllReadyH.cons rfl (fun K hK => ?_) AllReadyH.nil
  go_simp
  go_at_call 40
  refine (HC.out _).mono ?_
  rintro e w2 ⟨A, c2, rfl, own2, fr2, bel2⟩
  have hN2 := HN.out.drew.next bel2
  have HN2 := Lib.hid hN2
  clear hN2
  go_wp2
  refine hK.out _ _ HN2.out.blk (fun hHeld2 => ?_)
  clear hK K hHeld
  refine wpAnyH_ready (rs := [4]) (by kernel_rfl) (by simp) ?_
  refine AllReadyH.cons rfl (fun K hK => ?_) AllReadyH.nil
  refine step_app (by rfl) (.tmp 7) (.tmp 9) rfl _ A _ c2 C rfl own2 (some ⟨w.heap.size, 93, none⟩) 32 32 h.cd rfl hcl (HN2.out).rcd (by omega) ?_
  intro A' c' w3 own3 gr3 bl3
  simp only [Act.put, List.getElem_toArray, List.getElem_cons_succ, List.getElem_cons_zero]
  have bel3 : Below w.heap.size w w3 := by
    have b2 := hb0.trans (bel1.mono hb0.size)
    have b3 := b2.trans (((Below.refl w.heap.size w1).drew).trans (bel2.mono (by simp; omega)))
    exact b3.grown gr3 b3.size (fun r hr => by have := fr2 r hr; simp at this; omega)
  have hfr3 : ∀ r, blkOf A' = some r → w.heap.size ≤ r := by
    intro r hr
    rcases bl3 with h | h
    · rw [h] at hr
      have := fr2 r hr
      simp at this
      omega
    · rw [h] at hr
      cases hr
      have := HN2.out.blk.lt
      omega
  refine hK.out _ _ ((gr3.block _ HN2.out.blk.lt (fun e => by have := fr2 _ e.symm; simp at this; omega)).trans HN2.out.blk) (fun hHeld3 => ?_)
  clear hK K hHeld2
  refine wpAnyH_take (i := 5) (v := _) rfl (by kernel_rfl) (by kernel_rfl) (by kernel_rfl) (fun _ _ _ h => h) (Or.inl ⟨by rfl, fun W _ => rfl⟩) hHeld3 ?_
  simp only [Act.put, List.getElem_toArray, List.getElem_cons_succ, List.getElem_cons_zero]
  refine wpAnyH_done (by kernel_rfl) ?_ _
  go_wp2
  go_returns
  have e1 : (C ++ h.cd).length = C.length + 32 := by rw [List.length_append, hcl]
  exact ⟨A', c', by rw [e1]; rfl, by rw [e1]; exact own3, hfr3, bel3⟩

end Go.Proofs.Ytdkadlifjmmcbaa
