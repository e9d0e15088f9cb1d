/- The walks of the reference's Bytes for a formed header, and of its Blank for the zero header. -/
import Derived.Test.YtdkadlifjmmcbaaRco
import Derived.Test.YtdkadlifjmmcbaaBy
import Derived.Test.YtdkadlifjmmcbaaHp
import Derived.Deep.RegionHeldLaw
namespace Go.Proofs.Ytdkadlifjmmcbaa
open Go.RowKit

theorem flat_len16 : ∀ l : List (List UInt8), (∀ t ∈ l, t.length = 16) → l.flatten.length = 16 * l.length
  | [], _ => rfl
  | t :: l, h => by
    have h1 := h t (by simp)
    have h2 := flat_len16 l (fun t ht => h t (List.mem_cons_of_mem _ ht))
    simp only [List.flatten_cons, List.length_append, List.length_cons]
    omega
theorem TS.all16 {w : World} {A : Option Addr} {l : List (List UInt8)} (h : TS w A l) : ∀ t ∈ l, t.length = 16 := by
  intro t ht
  obtain ⟨j, hj, rfl⟩ := List.getElem_of_mem ht
  exact (h j hj).1

theorem coreB_len {h : Hdr} (o : h.ok) (toks : List (List UInt8)) (h16 : ∀ t ∈ toks, t.length = 16) (h8 : toks.length ≤ 1000) (hn : h.n ≤ 1000) (hk : ∀ k ∈ h.kn, k < 18446744073709551616) (hq : h.sq < 18446744073709551616) (ht : h.tm < 18446744073709551616)
    (hw2 : h.wr ≤ 6) (he2 : h.ep ≤ 255) (hz2 : h.sz ≤ 3000) : (coreB h toks).length ≤ 20000 := by
  have l1 := numB_len64 (x := h.wr.toNat) (by omega)
  have l2 := numB_len64 (x := h.sq) (by omega)
  have l3 := numB_len64 (x := h.ep.toNat) (by omega)
  have l4 := numB_len64 (x := h.tm) (by omega)
  have l5 := numB_len64 (x := h.sz.toNat) (by omega)
  have l6 := numB_len64 (x := h.n) (by omega)
  have lt := flat_len16 toks h16
  obtain ⟨k0, k1, k2, k3, k4, k5, hkn⟩ := list6 o.kn
  rw [hkn] at hk
  have m0 := numB_len64 (x := k0) (hk _ (by simp))
  have m1 := numB_len64 (x := k1) (hk _ (by simp))
  have m2 := numB_len64 (x := k2) (hk _ (by simp))
  have m3 := numB_len64 (x := k3) (hk _ (by simp))
  have m4 := numB_len64 (x := k4) (hk _ (by simp))
  have m5 := numB_len64 (x := k5) (hk _ (by simp))
  simp only [coreB, hkn, List.length_append, List.map_cons, List.map_nil, List.flatten_cons, List.flatten_nil, List.length_cons, List.length_nil, o.pv, o.it, o.sm, lt]
  omega

set_option maxRecDepth 100000 in
set_option maxHeartbeats 1000000 in
theorem rbytes_true (h : Hdr) (o : h.ok) (toks : List (List UInt8)) (w : World) (hlen : toks.length = h.n) (hts : TS w h.A toks) (hf : formedH h (sortedB toks) = true) :
    Calls Try.prog 16 #[.agg h.arr] w (RetB (coreB h toks ++ h.cd) (fun v => v) w) := by
  obtain ⟨f1, f2, f3, f4, f5, f6, f7, f8, f9, f10, f11, f12, f13, f14, f15, f16⟩ := formFacts hf
  have H := HAt.new w o
  have hsz : (Try.prog.info? 44).map (·.size) = some h.arr.size := by rw [Hdr.size o]; kernel_rfl
  have hrow := H.blk
  unfold Blk at hrow
  have hb0 : Below w.heap.size w (w.alloc (.cells h.arr 44)) := (Below.refl _ w).alloc (Nat.le_refl _) _
  have hts0 := hts.below hb0
  have hfo := rformedh_true h o toks (w.alloc (.cells h.arr 44)) hlen hts0 hf
  have hk64 : ∀ k ∈ h.kn, k < 18446744073709551616 := fun k hk => Nat.lt_of_le_of_lt (f9 k hk) (by omega)
  have hco := fun W (hW : TS W h.A toks) => rcore_any h o toks W hlen hW (by omega) (by omega) (by omega) (by omega) (by omega) (by omega) (by omega) (by omega) (by omega) hk64
  have hcl := o.cd
  have HC := Lib.hid hco
  have HH := Lib.hid H
  have HF := Lib.hid hfo
  have HTS := Lib.hid hts0
  have hCl := coreB_len o toks hts.all16 (by omega) (by omega) hk64 (by omega) (by omega) f2 f6 (by omega)
  generalize coreB h toks = C at *
  clear hco H hfo hf hts0 hts hlen f1 f2 f3 f4 f5 f6 f7 f8 f9 f10 f11 f12 f13 f14 f15 f16 hk64
  go_enter Try.func16, Try.ntmps16
  go_wp2_with (first | (refine wpList_load_row rfl 44 _ rfl w.heap.size rfl 44 _ (0, 0) _ hrow Try.underlying44 rfl hsz ?_) | fail)
  refine HF.out.mono ?_
  rintro e w1 ⟨rfl, bel1⟩
  have H1 := HH.out.next bel1
  have HN := Lib.hid H1
  have HT1 := Lib.hid (HTS.out.below bel1)
  have hlt := H1.blk.lt
  clear H1 hrow
  go_wp2_with fail
  refine wp_region_held_drew (S := fun W => W.heap[w.heap.size]? = some (.cells h.arr 44 (0, 0))) (by kernel_rfl) ?_ (fun hHeld => ?_)
  · exact HN.out.drew.blk
  refine wpAnyH_take (i := 0) (v := .agg h.arr) rfl (by kernel_rfl) (by kernel_rfl) (by kernel_rfl) (fun _ _ _ h => h) (Or.inl ⟨by rfl, fun W hW => ?_⟩) hHeld ?_
  · exact exec_load_row 44 (.tmp 1) rfl w.heap.size rfl 44 h.arr (0, 0) _ hW Try.underlying44 rfl hsz
  simp only [Act.put]
  refine wpAnyH_take (i := 2) (v := .pointer (some ⟨w.heap.size, 93, none⟩)) rfl (by kernel_rfl) (by kernel_rfl) (by kernel_rfl) (fun _ _ _ h => h) (Or.inl ⟨by rfl, fun W _ => ?_⟩) hHeld ?_
  · go_simp
  simp only [Act.put]
  refine wpAnyH_take (i := 3) (v := .slice (some ⟨w.heap.size, 93, none⟩) 32 32) rfl (by kernel_rfl) (by kernel_rfl) (by kernel_rfl) (fun _ _ _ h => h) (Or.inl ⟨by rfl, fun W _ => ?_⟩) hHeld ?_
  · go_simp
  simp only [Act.put]
  refine wpAnyH_ready (rs := [1]) (by kernel_rfl) (by simp) ?_
  refine AllReadyH.cons rfl (fun K hK => ?_) AllReadyH.nil
  go_simp
  go_at_call 39
  refine (HC.out w1.drew (HT1.out.keep (w' := w1.drew) fun _ _ => rfl)).mono ?_
  rintro e w2 ⟨A, c2, rfl, own2, fr2, bel2⟩
  have hN2 := HN.out.drew.next bel2
  have HN2 := Lib.hid hN2
  clear hN2
  go_wp2
  refine hK.out _ _ HN2.out.blk (fun hHeld2 => ?_)
  clear hK K hHeld
  refine wpAnyH_ready (rs := [4]) (by kernel_rfl) (by simp) ?_
  refine AllReadyH.cons rfl (fun K hK => ?_) AllReadyH.nil
  refine step_app (by rfl) (.tmp 7) (.tmp 9) rfl _ A _ c2 C rfl own2 (some ⟨w.heap.size, 93, none⟩) 32 32 h.cd rfl hcl (HN2.out).rcd (by omega) ?_
  intro A' c' w3 own3 gr3 bl3
  simp only [Act.put, List.getElem_toArray, List.getElem_cons_succ, List.getElem_cons_zero]
  have bel3 : Below w.heap.size w w3 := by
    have b2 := hb0.trans (bel1.mono hb0.size)
    have b3 := b2.trans (((Below.refl w.heap.size w1).drew).trans (bel2.mono (by simp; omega)))
    exact b3.grown gr3 b3.size (fun r hr => by have := fr2 r hr; simp at this; omega)
  have hfr3 : ∀ r, blkOf A' = some r → w.heap.size ≤ r := by
    intro r hr
    rcases bl3 with h | h
    · rw [h] at hr
      have := fr2 r hr
      simp at this
      omega
    · rw [h] at hr
      cases hr
      have := HN2.out.blk.lt
      omega
  refine hK.out _ _ ((gr3.block _ HN2.out.blk.lt (fun e => by have := fr2 _ e.symm; simp at this; omega)).trans HN2.out.blk) (fun hHeld3 => ?_)
  clear hK K hHeld2
  refine wpAnyH_take (i := 5) (v := _) rfl (by kernel_rfl) (by kernel_rfl) (by kernel_rfl) (fun _ _ _ h => h) (Or.inl ⟨by rfl, fun W _ => rfl⟩) hHeld3 ?_
  simp only [Act.put, List.getElem_toArray, List.getElem_cons_succ, List.getElem_cons_zero]
  refine wpAnyH_done (by kernel_rfl) ?_ _
  go_wp2
  go_returns
  have e1 : (C ++ h.cd).length = C.length + 32 := by rw [List.length_append, hcl]
  exact ⟨A', c', by rw [e1]; rfl, by rw [e1]; exact own3, hfr3, bel3⟩

set_option maxRecDepth 100000 in
set_option maxHeartbeats 1000000 in
theorem blank_zero (w : World) : Calls Try.prog 14 #[.agg hdrZ.arr] w fun e w' => e = .returned (.bool true) ∧ Below w.heap.size w w' := by
  have H := HAt.new w hdrZ_ok
  have h0 : (w.alloc (.cells hdrZ.arr 44)).cell? ⟨w.heap.size, 0, none⟩ = some (.int .i64 0) := H.wr
  have h1 : (w.alloc (.cells hdrZ.arr 44)).cell? ⟨w.heap.size, 1, none⟩ = some (.int .u64 0) := H.sq
  have h2 : (w.alloc (.cells hdrZ.arr 44)).cell? ⟨w.heap.size, 34, none⟩ = some (.int .i64 0) := H.ep
  have h3 : (w.alloc (.cells hdrZ.arr 44)).cell? ⟨w.heap.size, 36, none⟩ = some (.int .u64 0) := H.tm
  have h4 : (w.alloc (.cells hdrZ.arr 44)).cell? ⟨w.heap.size, 92, none⟩ = some (.int .i64 0) := H.sz
  have h5 : (w.alloc (.cells hdrZ.arr 44)).cell? ⟨w.heap.size, 53, none⟩ = some (.slice none 0 0) := H.toks
  have HG := Lib.hid H.gcd
  have heq := eqin_zero (P := Try.prog) (t := 38) (e := 5) Try.underlying38 (by kernel_rfl) Try.underlying5 hdrZ.cd hdrZ_ok.cd
  have hz : (hdrZ.cd == zeros 32) = true := by decide
  simp only [hz] at heq
  have hsz : (Try.prog.info? 38).map (·.size) = some (bytesL hdrZ.cd).length := by rw [bytesL_len, hdrZ_ok.cd]; kernel_rfl
  clear H hz
  go_enter Try.func14, Try.ntmps14
  go_wp2_with (first | ((with_reducible refine wpList_load_midS w.heap.size 93 (bytesL hdrZ.cd) _ HG.out Try.underlying38 ?_ hsz ?_ ?_ ?_); rfl; rfl; rfl) | fail)
  go_returns
  exact ⟨rfl, by go_grown⟩

end Go.Proofs.Ytdkadlifjmmcbaa
