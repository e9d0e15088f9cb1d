/- The walk of entry.Parse. -/
import Derived.Test.YtdkadlifjmmcbaaPhm
import Derived.Test.YtdkadlifjmmcbaaPh
import Derived.Test.YtdkadlifjmmcbaaAw
import Derived.Deep.RegionHeldLaw
import Derived.Test.YtdkadlifjmmcbaaHr
import Derived.Test.YtdkadlifjmmcbaaSo3
import Derived.Test.YtdkadlifjmmcbaaFo
namespace Go.Proofs.Ytdkadlifjmmcbaa
open Go.RowKit

/-- the zero header -/
def hdrZ : Hdr := ⟨0, 0, zeros 32, 0, false, 0, zeros 16, none, 0, 0, [0, 0, 0, 0, 0, 0], zeros 32, 0, zeros 32⟩
theorem hdrZ_ok : hdrZ.ok := ⟨rfl, rfl, rfl, rfl, rfl⟩
theorem hdrZ_zero (W : World) : (zeroValue 44).run Try.prog W = .ok (.agg hdrZ.arr) W := hdr_zero W

theorem tok_zero (W : World) : (zeroValue 40).run Try.prog W = .ok (.agg (bytesL (zeros 16)).toArray) W := by
  rw [zeros16]
  exact run_zero_of (by kernel_rfl) W

theorem info_tok : (Try.prog.info? 40).map (fun i => (i.zero, i.size, i.bytes)) = some (some (.agg #[.int .u8 0, .int .u8 0, .int .u8 0, .int .u8 0, .int .u8 0, .int .u8 0, .int .u8 0, .int .u8 0, .int .u8 0, .int .u8 0, .int .u8 0, .int .u8 0, .int .u8 0, .int .u8 0, .int .u8 0, .int .u8 0]), 16, 16) := by kernel_rfl

theorem list16 {α : Type} : ∀ {l : List α}, l.length = 16 → ∃ a0 a1 a2 a3 a4 a5 a6 a7 a8 a9 a10 a11 a12 a13 a14 a15, l = [a0, a1, a2, a3, a4, a5, a6, a7, a8, a9, a10, a11, a12, a13, a14, a15]
  | [a0, a1, a2, a3, a4, a5, a6, a7, a8, a9, a10, a11, a12, a13, a14, a15], _ => ⟨a0, a1, a2, a3, a4, a5, a6, a7, a8, a9, a10, a11, a12, a13, a14, a15, rfl⟩

theorem set16 (z : Array Value) (hz : z.size = 16) (b0 b1 b2 b3 b4 b5 b6 b7 b8 b9 b10 b11 b12 b13 b14 b15 : Value) : ((((((((((((((((z).setIfInBounds 0 b0).setIfInBounds 1 b1).setIfInBounds 2 b2).setIfInBounds 3 b3).setIfInBounds 4 b4).setIfInBounds 5 b5).setIfInBounds 6 b6).setIfInBounds 7 b7).setIfInBounds 8 b8).setIfInBounds 9 b9).setIfInBounds 10 b10).setIfInBounds 11 b11).setIfInBounds 12 b12).setIfInBounds 13 b13).setIfInBounds 14 b14).setIfInBounds 15 b15 = #[b0, b1, b2, b3, b4, b5, b6, b7, b8, b9, b10, b11, b12, b13, b14, b15] := by
  obtain ⟨l⟩ := z
  obtain ⟨a0, a1, a2, a3, a4, a5, a6, a7, a8, a9, a10, a11, a12, a13, a14, a15, rfl⟩ := list16 (l := l) (by simpa using hz)
  simp only [List.setIfInBounds_toArray, List.set_cons_succ, List.set_cons_zero]

theorem run_tok_slice (tk : List UInt8) (h : tk.length = 16) (W : World) : (Instr.buildSlice 41 1 #[(0, .agg (bytesL tk).toArray)]).run Try.prog W = .ok (.slice (some ⟨W.heap.size, 0, none⟩) 1 1) (W.alloc (.cells (bytesL tk).toArray 40)) := by
  obtain ⟨a0, a1, a2, a3, a4, a5, a6, a7, a8, a9, a10, a11, a12, a13, a14, a15, rfl⟩ := list16 h
  obtain ⟨i, hi, hs⟩ := info_size (P := Try.prog) (t := 40) (n := 16) (by kernel_rfl)
  have hc : Try.prog.cellsOf 40 = 16 := by simp [Program.cellsOf, hi, hs]
  simp only [Instr.buildSlice, Sem.run_bind, run_underlying Try.underlying41, Result.andThen_ok, run_sizeOf W hi, hc]
  simp [bytesL, Instr.fill, Value.cells, newRow]
  rw [set16 _ (by simp)]

theorem wpList_tok_slice {ops : Array Oper} {rest : List Oper} {o : Oper} {a : Act} {w : World} {Q : Exit → Act → World → Prop} (hgd : o.guard = none) (x : Operand) (ho : o.op = .buildSlice 41 1 #[(0, x)])
    (tk : List UInt8) (hx : a.eval x = .agg (bytesL tk).toArray) (h16 : tk.length = 16)
    (h : wpList Try.prog ops Q rest (a.put o.dst (.slice (some ⟨w.heap.size, 0, none⟩) 1 1)) (w.alloc (.cells (bytesL tk).toArray 40))) : wpList Try.prog ops Q (o :: rest) a w := by
  refine wpList_plain hgd fun K hK => ?_
  unfold Oper.wp execOp
  have hm : (#[(0, x)] : Array (Nat × Operand)).map (fun p => (p.1, a.eval p.2)) = #[(0, .agg (bytesL tk).toArray)] := by simp [hx]
  simp only [ho]
  show match ((Instr.buildSlice 41 1 ((#[(0, x)] : Array (Nat × Operand)).map (fun p => (p.1, a.eval p.2))) >>= fun v => pure (.value v) : Sem Next)).run Try.prog w with | _ => _
  rw [hm]
  simp only [Sem.run_bind, run_tok_slice tk h16, Result.andThen_ok, Sem.run_pure]
  exact hK _ _ h

theorem lay_tok {s : List UInt8} (hs : s = [] ∨ s.length = 16) : laidB (bytesL (zeros 16)) 0 s = bytesL (pickB s (zeros 16)) := by
  rcases hs with rfl | hs
  · exact laidB_nil _ _
  · rw [pickB_of hs (by omega)]
    have := laid_here (p := zeros 16) (s := s) (b := []) (by rw [hs, zeros_len])
    simpa using this

theorem Hdr.len {h : Hdr} (o : h.ok) : h.cells.length = 125 := by
  have := Hdr.size o
  simpa [Hdr.arr] using this

theorem Hdr.one (h : Hdr) : h.arr.all (·.oneCell') = true := by
  refine all_oneCell_toArray fun v hv => ?_
  simp only [Hdr.cells, bytesL, List.mem_append, List.mem_cons, List.mem_map, List.not_mem_nil, or_false] at hv
  rcases hv with (rfl | rfl) | ⟨x, _, rfl⟩ | (rfl | rfl | rfl) | ⟨x, _, rfl⟩ | rfl | ⟨x, _, rfl⟩ | ⟨x, _, rfl⟩ | rfl | ⟨x, _, rfl⟩ <;> rfl

/-- what is taken of one array, the header's field turned -/
theorem lay_pv' {h : Hdr} (o : h.ok) {s : List UInt8} (hs : s = [] ∨ s.length = 32) : laidB h.cells 2 s = { h with pv := pickB s h.pv }.cells ∧ { h with pv := pickB s h.pv }.ok := by
  rcases hs with rfl | hs
  · exact ⟨laidB_nil _ _, o⟩
  · rw [pickB_of hs (by omega)]
    exact ⟨Hdr.lay_pv o hs, ⟨hs, o.it, o.kn, o.sm, o.cd⟩⟩
theorem lay_it' {h : Hdr} (o : h.ok) {s : List UInt8} (hs : s = [] ∨ s.length = 16) : laidB h.cells 37 s = { h with it := pickB s h.it }.cells ∧ { h with it := pickB s h.it }.ok := by
  rcases hs with rfl | hs
  · exact ⟨laidB_nil _ _, o⟩
  · rw [pickB_of hs (by omega)]
    exact ⟨Hdr.lay_it o hs, ⟨o.pv, hs, o.kn, o.sm, o.cd⟩⟩
theorem lay_sm' {h : Hdr} (o : h.ok) {s : List UInt8} (hs : s = [] ∨ s.length = 32) : laidB h.cells 60 s = { h with sm := pickB s h.sm }.cells ∧ { h with sm := pickB s h.sm }.ok := by
  rcases hs with rfl | hs
  · exact ⟨laidB_nil _ _, o⟩
  · rw [pickB_of hs (by omega)]
    exact ⟨Hdr.lay_sm o hs, ⟨o.pv, o.it, o.kn, hs, o.cd⟩⟩
theorem lay_cd' {h : Hdr} (o : h.ok) {s : List UInt8} (hs : s = [] ∨ s.length = 32) : laidB h.cells 93 s = { h with cd := pickB s h.cd }.cells ∧ { h with cd := pickB s h.cd }.ok := by
  rcases hs with rfl | hs
  · exact ⟨laidB_nil _ _, o⟩
  · rw [pickB_of hs (by omega)]
    exact ⟨Hdr.lay_cd o hs, ⟨o.pv, o.it, o.kn, o.sm, hs⟩⟩

theorem toksTo_16 (l : List UInt8) (bad : Bool) (k : Nat) : ∀ t ∈ (toksTo l bad k).1, t.length = 16 := by
  induction k with
  | zero => simp [toksTo]
  | succ k ih =>
    intro t ht
    simp only [toksTo, List.mem_append, List.mem_singleton] at ht
    rcases ht with h | rfl
    · exact ih t h
    · rcases rawT_cases 16 (toksTo l bad k).2.1 (toksTo l bad k).2.2 with e | e
      · rw [e]; rfl
      · rw [pickB_of e (by omega)]; exact e

theorem tokC_get : ∀ (l : List (List UInt8)), (∀ t ∈ l, t.length = 16) → ∀ j (hj : j < l.length) (i : Nat) (v : Value), (bytesL l[j])[i]? = some v → (tokC l)[j * 16 + i]? = some v
  | [], _, j, hj, _, _, _ => by simp at hj
  | t :: l, h, 0, _, i, v, hv => by
    have ht := h t (by simp)
    have hi : i < 16 := by have := (List.getElem?_eq_some_iff.1 hv).1; rw [bytesL_len] at this; simp at this; omega
    show (bytesL t ++ tokC l)[0 * 16 + i]? = some v
    rw [get_here (k := 16) (by rw [bytesL_len, ht]) (by omega)]
    simpa using hv
  | t :: l, h, j + 1, hj, i, v, hv => by
    have ht := h t (by simp)
    show (bytesL t ++ tokC l)[(j + 1) * 16 + i]? = some v
    rw [get_skip (k := 16) (by rw [bytesL_len, ht]) (by omega), show (j + 1) * 16 + i - 16 = j * 16 + i from by omega]
    exact tokC_get l (fun t ht => h t (List.mem_cons_of_mem _ ht)) j (by simpa using hj) i v (by simpa using hv)

/-- an own row of tokens is read as such -/
theorem own_TS {w : World} {A : Option Addr} {n c : Nat} {l : List (List UInt8)} (h : w.ownsRow 0 40 16 (.slice A n c) n (tokC l)) (hl : l.length = n) (h16 : ∀ t ∈ l, t.length = 16) : TS w A l := by
  intro j hj
  refine ⟨h16 _ (List.getElem_mem hj), ?_⟩
  rcases h.2 with ⟨e, hn⟩ | ⟨g, cap, cur, he, _, hg, _, _, _, ht⟩
  · omega
  · injection he with he
    subst he
    refine ⟨g, 0, rfl, fun i v hv => ?_⟩
    have hx := tokC_get l h16 j hj i v hv
    rw [cell_of_row w g _ cur _ _ hg]
    rw [← ht, List.getElem?_take] at hx
    split at hx
    · rw [← hx]; simp
    · cases hx

/-- is all parsed, and formed? -/
def okH (b : List UInt8) : Bool := (parseH b).over && formedH (parseH b).h (sortedB (parseH b).toks)

/-- the header that is parsed, with its tokens' row -/
def Hdr.at' (h : Hdr) (A : Option Addr) (c : Nat) : Hdr := ⟨h.wr, h.sq, h.pv, h.ep, h.ct, h.tm, h.it, A, h.n, c, h.kn, h.sm, h.sz, h.cd⟩

def RetH (b : List UInt8) (e : Ending) (w' : World) : Prop :=
  if okH b then ∃ A c, e = .returned (.tuple #[.agg ((parseH b).h.at' A c).arr, .int .i64 0]) ∧ TS w' A (parseH b).toks
  else e = .returned (.tuple #[.agg hdrZ.arr, .int .i64 2])

set_option maxRecDepth 100000 in
set_option maxHeartbeats 1000000 in
theorem hparse_any (A : Option Addr) (n c : Nat) (b : List UInt8) (w : World) (hl : b.length = n) (hr : RB w A b) (hb : n ≤ 100000000000000) :
    Calls Try.prog 13 #[.slice A n c] w fun e w' => RetH b e w' ∧ Below w.heap.size w w' := by
  subst hl
  have hrd := fun o o' => read_any ((w.alloc o).alloc o') A b.length c b rfl ((hr.keep fun p hp => World.cell?_alloc_lt w _ p hp).keep fun p hp => World.cell?_alloc_lt _ _ p hp) (by omega)
  have HRd := Lib.hid hrd
  have hzv := hdrZ_zero
  clear hrd hr
-- GEN
  go_enter Try.func13, Try.ntmps13
  go_wp2_with fail
  refine (HRd.out _ _).mono ?_
  rintro e w1 ⟨gi, R, rfl, hin1, hR1, bel1⟩
  have hgi := hR1 gi hin1.rg
  simp only [World.size_alloc] at hgi hR1 bel1
  have hbz := (Blk.new (w.alloc (.cells hdrZ.arr 44)) 44 hdrZ.arr).below bel1 (by simp)
  rw [World.size_alloc] at hbz
  have hI : HInv (w.alloc (.cells hdrZ.arr 44)) (w.heap.size + 1) R gi (w.heap.size + 1) ⟨0, 0, zeros 32, 0, false, 0, zeros 16, none, 0, 0, [0, 0, 0, 0, 0, 0], zeros 32, 0, zeros 32⟩ [] b false w1 :=
    ⟨hin1, ⟨hbz, hdrZ_ok⟩, World.ownsRow_nil _ _ _ _, (fun r h => by cases h), (fun h => by have := hR1 _ h; omega), Nat.le_refl _, by omega, ((Below.refl _ _).alloc (by simp) _).trans (bel1.mono (by omega)), by simp, fun i hi => (hR1 i hi).2⟩
  have HI := Lib.hid hI
  clear hI hin1 bel1 HRd hzv
  go_wp2_with fail
  refine (inum_in R _ gi b false HI.out.inn 6 (by omega)).mono ?_
  rintro e w2 ⟨rfl, hin, hk⟩
  have hI := HI.out.inp hin hk
  have hn0 := numT_le 6 b false
  have hl0 := numT_len 6 b false
  generalize e0 : numT 6 b false = r0 at *
  have E0 := Lib.hid e0
  have hc := hI.hat.wr
  have hf := hI.hat.blk.free 0
  have hlt := hI.hat.blk.lt
  have hJ : HInv (w.alloc (.cells hdrZ.arr 44)) (w.heap.size + 1) R gi (w.heap.size + 1) ⟨r0.1, 0, zeros 32, 0, false, 0, zeros 16, none, 0, 0, [0, 0, 0, 0, 0, 0], zeros 32, 0, zeros 32⟩ [] r0.2.1 r0.2.2 (w2.setCell ⟨w.heap.size + 1, 0, none⟩ (.int .i64 (r0.1 : Int))) := hI.put (i := 0) (Hdr.set_wr hI.hat.ok _) (Hdr.ok.wr hI.hat.ok _) rfl rfl rfl
  clear e0 hin hk hI HI
  have HI := Lib.hid hJ
  clear hJ
  go_wp2_with fail
  refine (inum_in R _ gi r0.2.1 r0.2.2 HI.out.inn 1048576 (by omega)).mono ?_
  rintro e w3 ⟨rfl, hin, hk⟩
  have hI := HI.out.inp hin hk
  have hn1 := numT_le 1048576 r0.2.1 r0.2.2
  have hl1 := numT_len 1048576 r0.2.1 r0.2.2
  generalize e1 : numT 1048576 r0.2.1 r0.2.2 = r1 at *
  have E1 := Lib.hid e1
  have hc := hI.hat.sq
  have hf := hI.hat.blk.free 1
  have hlt := hI.hat.blk.lt
  have hJ : HInv (w.alloc (.cells hdrZ.arr 44)) (w.heap.size + 1) R gi (w.heap.size + 1) ⟨r0.1, r1.1, zeros 32, 0, false, 0, zeros 16, none, 0, 0, [0, 0, 0, 0, 0, 0], zeros 32, 0, zeros 32⟩ [] r1.2.1 r1.2.2 (w3.setCell ⟨w.heap.size + 1, 1, none⟩ (.int .u64 (r1.1 : Int))) := hI.put (i := 1) (Hdr.set_sq hI.hat.ok _) (Hdr.ok.sq hI.hat.ok _) rfl rfl rfl
  clear e1 hin hk hI HI
  have HI := Lib.hid hJ
  clear hJ
  go_wp2_with fail
  have hrc := rawT_cases 32 r1.2.1 r1.2.2
  have hl2 := (rawT_len 32 r1.2.1 r1.2.2).1
  refine (array_hash R _ gi (w.heap.size + 1) 44 (Hdr.cells ⟨r0.1, r1.1, zeros 32, 0, false, 0, zeros 16, none, 0, 0, [0, 0, 0, 0, 0, 0], zeros 32, 0, zeros 32⟩) 2 r1.2.1 r1.2.2 HI.out.inn HI.out.nr HI.out.hat.blk (by rw [Hdr.len HI.out.hat.ok]; omega) (by omega)).mono ?_
  rintro e w4 hret
  generalize e2 : rawT 32 r1.2.1 r1.2.2 = r2 at *
  have E2 := Lib.hid e2
  have hL := lay_pv' HI.out.hat.ok hrc
  have hJ : HInv (w.alloc (.cells hdrZ.arr 44)) (w.heap.size + 1) R gi (w.heap.size + 1) ⟨r0.1, r1.1, pickB r2.1 (zeros 32), 0, false, 0, zeros 16, none, 0, 0, [0, 0, 0, 0, 0, 0], zeros 32, 0, zeros 32⟩ [] r2.2.1 r2.2.2 w4 := HI.out.arr hret rfl hL.1 hL.2 rfl rfl rfl
  obtain ⟨rfl, _⟩ := hret
  clear e2 hrc hL HI
  have HI := Lib.hid hJ
  clear hJ
  go_wp2_with fail
  refine (inum_in R _ gi r2.2.1 r2.2.2 HI.out.inn 255 (by omega)).mono ?_
  rintro e w5 ⟨rfl, hin, hk⟩
  have hI := HI.out.inp hin hk
  have hn3 := numT_le 255 r2.2.1 r2.2.2
  have hl3 := numT_len 255 r2.2.1 r2.2.2
  generalize e3 : numT 255 r2.2.1 r2.2.2 = r3 at *
  have E3 := Lib.hid e3
  have hc := hI.hat.ep
  have hf := hI.hat.blk.free 34
  have hlt := hI.hat.blk.lt
  have hJ : HInv (w.alloc (.cells hdrZ.arr 44)) (w.heap.size + 1) R gi (w.heap.size + 1) ⟨r0.1, r1.1, pickB r2.1 (zeros 32), r3.1, false, 0, zeros 16, none, 0, 0, [0, 0, 0, 0, 0, 0], zeros 32, 0, zeros 32⟩ [] r3.2.1 r3.2.2 (w5.setCell ⟨w.heap.size + 1, 34, none⟩ (.int .i64 (r3.1 : Int))) := hI.put (i := 34) (Hdr.set_ep hI.hat.ok _) (Hdr.ok.ep hI.hat.ok _) rfl rfl rfl
  clear e3 hin hk hI HI
  have HI := Lib.hid hJ
  clear hJ
  go_wp2_with fail
  refine (iflag_in R _ gi r3.2.1 r3.2.2 HI.out.inn (by omega)).mono ?_
  rintro e w6 ⟨rfl, hin, hk⟩
  have hI := HI.out.inp hin hk
  have hl4 := flagT_len r3.2.1 r3.2.2
  generalize e4 : flagT r3.2.1 r3.2.2 = r4 at *
  have E4 := Lib.hid e4
  have hc := hI.hat.ct
  have hf := hI.hat.blk.free 35
  have hlt := hI.hat.blk.lt
  have hJ : HInv (w.alloc (.cells hdrZ.arr 44)) (w.heap.size + 1) R gi (w.heap.size + 1) ⟨r0.1, r1.1, pickB r2.1 (zeros 32), r3.1, r4.1, 0, zeros 16, none, 0, 0, [0, 0, 0, 0, 0, 0], zeros 32, 0, zeros 32⟩ [] r4.2.1 r4.2.2 (w6.setCell ⟨w.heap.size + 1, 35, none⟩ (.bool r4.1)) := hI.put (i := 35) (Hdr.set_ct hI.hat.ok _) (Hdr.ok.ct hI.hat.ok _) rfl rfl rfl
  clear e4 hin hk hI HI
  have HI := Lib.hid hJ
  clear hJ
  go_wp2_with fail
  refine (inum_in R _ gi r4.2.1 r4.2.2 HI.out.inn 1099511627776 (by omega)).mono ?_
  rintro e w7 ⟨rfl, hin, hk⟩
  have hI := HI.out.inp hin hk
  have hn5 := numT_le 1099511627776 r4.2.1 r4.2.2
  have hl5 := numT_len 1099511627776 r4.2.1 r4.2.2
  generalize e5 : numT 1099511627776 r4.2.1 r4.2.2 = r5 at *
  have E5 := Lib.hid e5
  have hc := hI.hat.tm
  have hf := hI.hat.blk.free 36
  have hlt := hI.hat.blk.lt
  have hJ : HInv (w.alloc (.cells hdrZ.arr 44)) (w.heap.size + 1) R gi (w.heap.size + 1) ⟨r0.1, r1.1, pickB r2.1 (zeros 32), r3.1, r4.1, r5.1, zeros 16, none, 0, 0, [0, 0, 0, 0, 0, 0], zeros 32, 0, zeros 32⟩ [] r5.2.1 r5.2.2 (w7.setCell ⟨w.heap.size + 1, 36, none⟩ (.int .u64 (r5.1 : Int))) := hI.put (i := 36) (Hdr.set_tm hI.hat.ok _) (Hdr.ok.tm hI.hat.ok _) rfl rfl rfl
  clear e5 hin hk hI HI
  have HI := Lib.hid hJ
  clear hJ
  go_wp2_with fail
  have hrc := rawT_cases 16 r5.2.1 r5.2.2
  have hl6 := (rawT_len 16 r5.2.1 r5.2.2).1
  refine (array_token R _ gi (w.heap.size + 1) 44 (Hdr.cells ⟨r0.1, r1.1, pickB r2.1 (zeros 32), r3.1, r4.1, r5.1, zeros 16, none, 0, 0, [0, 0, 0, 0, 0, 0], zeros 32, 0, zeros 32⟩) 37 r5.2.1 r5.2.2 HI.out.inn HI.out.nr HI.out.hat.blk (by rw [Hdr.len HI.out.hat.ok]; omega) (by omega)).mono ?_
  rintro e w8 hret
  generalize e6 : rawT 16 r5.2.1 r5.2.2 = r6 at *
  have E6 := Lib.hid e6
  have hL := lay_it' HI.out.hat.ok hrc
  have hJ : HInv (w.alloc (.cells hdrZ.arr 44)) (w.heap.size + 1) R gi (w.heap.size + 1) ⟨r0.1, r1.1, pickB r2.1 (zeros 32), r3.1, r4.1, r5.1, pickB r6.1 (zeros 16), none, 0, 0, [0, 0, 0, 0, 0, 0], zeros 32, 0, zeros 32⟩ [] r6.2.1 r6.2.2 w8 := HI.out.arr hret rfl hL.1 hL.2 rfl rfl rfl
  obtain ⟨rfl, _⟩ := hret
  clear e6 hrc hL HI
  have HI := Lib.hid hJ
  clear hJ
  go_wp2_with fail
  refine (inum_in R _ gi r6.2.1 r6.2.2 HI.out.inn 8 (by omega)).mono ?_
  rintro e w9 ⟨rfl, hin, hk⟩
  have hI := HI.out.inp hin hk
  have hn7 := numT_le 8 r6.2.1 r6.2.2
  have hl7 := numT_len 8 r6.2.1 r6.2.2
  generalize e7 : numT 8 r6.2.1 r6.2.2 = r7 at *
  have E7 := Lib.hid e7
  clear e7 hin hk HI
  have HI := Lib.hid hI
  clear hI hc hf hlt
  go_wp2
  go_loopw [35] (fun i wr => ∃ (k : Nat) (A' : Option Addr) (c' : Nat), k ≤ r7.1 ∧ i = .int .u64 k ∧ HInv (w.alloc (.cells hdrZ.arr 44)) (w.heap.size + 1) R gi (w.heap.size + 1) ⟨r0.1, r1.1, pickB r2.1 (zeros 32), r3.1, r4.1, r5.1, pickB r6.1 (zeros 16), A', k, c', [0, 0, 0, 0, 0, 0], zeros 32, 0, zeros 32⟩ (toksTo r7.2.1 r7.2.2 k).1 (toksTo r7.2.1 r7.2.2 k).2.1 (toksTo r7.2.1 r7.2.2 k).2.2 wr) (fun i _ => r7.1 - (intOf i).toNat)
  case atStart => exact ⟨0, none, 0, Nat.zero_le _, rfl, HI.out⟩
  case round =>
    obtain ⟨k, A', c', hk, rfl, hI⟩ := hrel
    have HPr := Lib.hid hI
    have hgl := hI.hat.blk.lt
    have htl := toksTo_len r7.2.1 r7.2.2 k
    clear hI HI
    by_cases hlt : k < r7.1
    · have hs : toksTo r7.2.1 r7.2.2 (k + 1) = ((toksTo r7.2.1 r7.2.2 k).1 ++ [pickB (rawT 16 (toksTo r7.2.1 r7.2.2 k).2.1 (toksTo r7.2.1 r7.2.2 k).2.2).1 (zeros 16)], (rawT 16 (toksTo r7.2.1 r7.2.2 k).2.1 (toksTo r7.2.1 r7.2.2 k).2.2).2) := rfl
      have HS := Lib.hid hs
      clear hs
      generalize (toksTo r7.2.1 r7.2.2 k) = q at *
      have hzt := tok_zero
      have hIa := HPr.out.alloc (.cells (bytesL (zeros 16)).toArray 40)
      have HIa := Lib.hid hIa
      have hrc := rawT_cases 16 q.2.1 q.2.2
      clear hIa
      go_wp2_with fail
      refine (array_token R _ gi wr.heap.size 40 (bytesL (zeros 16)) 0 q.2.1 q.2.2 HIa.out.inn (fun h => by have := HPr.out.rlt _ h; omega) (Blk.new _ _ _) (by rw [bytesL_len, zeros_len]; omega) (by omega)).mono ?_
      rintro e w10 hret
      have hJ := HIa.out.other hret (fun q hq => by have := own_lt HPr.out.own hq; omega) (by omega) (by have := HPr.out.bel.size; simp at this; omega)
      have htk := hret.2.2.1
      rw [lay_tok hrc] at htk
      obtain ⟨rfl, _⟩ := hret
      have hl16 : (pickB (rawT 16 q.2.1 q.2.2).1 (zeros 16)).length = 16 := by rcases hrc with e | e; rw [e]; rfl; rw [pickB_of e (by omega)]; exact e
      generalize rawT 16 q.2.1 q.2.2 = r at *
      generalize pickB r.1 (zeros 16) = tk at *
      have hsz16 : (Try.prog.info? 40).map (·.size) = some (bytesL tk).toArray.size := by rw [List.size_toArray, bytesL_len, hl16]; kernel_rfl
      have hc := hJ.hat.toks
      have hf := hJ.hat.blk.free 53
      unfold Blk at htk
      obtain ⟨i0, hi0, hz0, hz1, hz2⟩ := info_parts info_tok
      have hoc : ∀ u ∈ bytesL tk, u.oneCell' = true := fun u hu => by obtain ⟨x, _, rfl⟩ := List.mem_map.1 hu; rfl
      have HOC := Lib.hid hoc
      have HJ := Lib.hid hJ
      have hbl16 := bytesL_len tk
      clear hoc hJ HPr HIa
      go_wp2_with (first | (refine wpList_load_row rfl 40 _ rfl wr.heap.size rfl 40 _ (0, 0) _ htk Try.underlying40 rfl hsz16 ?_) | (refine wpList_tok_slice rfl (.tmp 41) rfl tk rfl hl16 ?_) | (at_builtin; go_loud (refine wpList_append_lies _ rfl (.tmp 40) (.tmp 42) _ rfl 0 40 i0 _ 16 16 Try.underlying41 hi0 hz0 hz1 hz2 rfl (by omega) (.slice A' k c') k (tokC q.1) rfl ((HJ.out.own).alloc _) ⟨w10.heap.size, 0, none⟩ 1 1 (bytesL tk) rfl (by rw [hbl16, hl16]) (World.news_of_block (cs := (bytesL tk).toArray) (t := 40) (fr := (0, 0)) (heap_alloc_new w10 _)) HOC.out (by omega) (by simp only [maxLen]; omega) (by omega) (Nat.zero_le _) (w10.heap.size + 1) (by simp) ?_); intro g' cap w11 hown6 hg6 hb6 hlt6; have hm6 := ((HJ.out).alloc (.cells (bytesL tk).toArray 40)).mid (by rw [← ownBlk A' k c']; exact hg6); have hc6 := hm6.toks; have hf6 := hm6.blk.free 53; have hgl6 := hm6.blk.lt; have H6 := Lib.hid (((HJ.out).alloc (.cells (bytesL tk).toArray 40)).push (t := tk) hlt6 hown6 (by rw [← ownBlk A' k c']; exact hg6) (by rw [← ownBlk A' k c']; simpa using hb6)); clear hm6 hown6 hg6 hb6 hlt6))
      go_wp2
      refine ⟨⟨k + 1, some ⟨g', 0, none⟩, cap, by omega, by go_num, ?_⟩, by simp [intOf]; omega⟩
      rw [HS.out]
      exact H6.out
    · obtain rfl : k = r7.1 := by omega
      generalize eq7 : toksTo r7.2.1 r7.2.2 r7.1 = q at *
      have EQ7 := Lib.hid eq7
      clear eq7
      have HI := HPr
      clear HPr
      go_wp2_with fail
      refine wp_loop_rounds 7 ?_
      rw [rounds_succ]
      go_wp2_with fail
      refine (inum_in R _ gi q.2.1 q.2.2 HI.out.inn 1048576 (by omega)).mono ?_
      rintro e w10 ⟨rfl, hin, hk⟩
      have hI := HI.out.inp hin hk
      have hn8 := numT_le 1048576 q.2.1 q.2.2
      have hl8 := numT_len 1048576 q.2.1 q.2.2
      generalize e8 : numT 1048576 q.2.1 q.2.2 = r8 at *
      have E8 := Lib.hid e8
      have hc : w10.cell? ⟨w.heap.size + 1, 54, none⟩ = some (.int .u64 0) := by rw [hI.hat.kn 0 (by omega)]; rfl
      have hf := hI.hat.blk.free 54
      have hlt := hI.hat.blk.lt
      have hJ : HInv (w.alloc (.cells hdrZ.arr 44)) (w.heap.size + 1) R gi (w.heap.size + 1) ⟨r0.1, r1.1, pickB r2.1 (zeros 32), r3.1, r4.1, r5.1, pickB r6.1 (zeros 16), A', r7.1, c', [r8.1, 0, 0, 0, 0, 0], zeros 32, 0, zeros 32⟩ q.1 r8.2.1 r8.2.2 (w10.setCell ⟨w.heap.size + 1, 54, none⟩ (.int .u64 (r8.1 : Int))) := hI.put (i := 54) (Hdr.set_kn hI.hat.ok 0 (by omega) _) (Hdr.ok.knw hI.hat.ok 0 _) rfl rfl rfl
      clear e8 hin hk hI HI
      have HI := Lib.hid hJ
      clear hJ
      go_wp2_with fail
      rw [rounds_succ]
      go_wp2_with fail
      refine (inum_in R _ gi r8.2.1 r8.2.2 HI.out.inn 1048576 (by omega)).mono ?_
      rintro e w11 ⟨rfl, hin, hk⟩
      have hI := HI.out.inp hin hk
      have hn9 := numT_le 1048576 r8.2.1 r8.2.2
      have hl9 := numT_len 1048576 r8.2.1 r8.2.2
      generalize e9 : numT 1048576 r8.2.1 r8.2.2 = r9 at *
      have E9 := Lib.hid e9
      have hc : w11.cell? ⟨w.heap.size + 1, 55, none⟩ = some (.int .u64 0) := by rw [hI.hat.kn 1 (by omega)]; rfl
      have hf := hI.hat.blk.free 55
      have hlt := hI.hat.blk.lt
      have hJ : HInv (w.alloc (.cells hdrZ.arr 44)) (w.heap.size + 1) R gi (w.heap.size + 1) ⟨r0.1, r1.1, pickB r2.1 (zeros 32), r3.1, r4.1, r5.1, pickB r6.1 (zeros 16), A', r7.1, c', [r8.1, r9.1, 0, 0, 0, 0], zeros 32, 0, zeros 32⟩ q.1 r9.2.1 r9.2.2 (w11.setCell ⟨w.heap.size + 1, 55, none⟩ (.int .u64 (r9.1 : Int))) := hI.put (i := 55) (Hdr.set_kn hI.hat.ok 1 (by omega) _) (Hdr.ok.knw hI.hat.ok 1 _) rfl rfl rfl
      clear e9 hin hk hI HI
      have HI := Lib.hid hJ
      clear hJ
      go_wp2_with fail
      rw [rounds_succ]
      go_wp2_with fail
      refine (inum_in R _ gi r9.2.1 r9.2.2 HI.out.inn 1048576 (by omega)).mono ?_
      rintro e w12 ⟨rfl, hin, hk⟩
      have hI := HI.out.inp hin hk
      have hn10 := numT_le 1048576 r9.2.1 r9.2.2
      have hl10 := numT_len 1048576 r9.2.1 r9.2.2
      generalize e10 : numT 1048576 r9.2.1 r9.2.2 = r10 at *
      have E10 := Lib.hid e10
      have hc : w12.cell? ⟨w.heap.size + 1, 56, none⟩ = some (.int .u64 0) := by rw [hI.hat.kn 2 (by omega)]; rfl
      have hf := hI.hat.blk.free 56
      have hlt := hI.hat.blk.lt
      have hJ : HInv (w.alloc (.cells hdrZ.arr 44)) (w.heap.size + 1) R gi (w.heap.size + 1) ⟨r0.1, r1.1, pickB r2.1 (zeros 32), r3.1, r4.1, r5.1, pickB r6.1 (zeros 16), A', r7.1, c', [r8.1, r9.1, r10.1, 0, 0, 0], zeros 32, 0, zeros 32⟩ q.1 r10.2.1 r10.2.2 (w12.setCell ⟨w.heap.size + 1, 56, none⟩ (.int .u64 (r10.1 : Int))) := hI.put (i := 56) (Hdr.set_kn hI.hat.ok 2 (by omega) _) (Hdr.ok.knw hI.hat.ok 2 _) rfl rfl rfl
      clear e10 hin hk hI HI
      have HI := Lib.hid hJ
      clear hJ
      go_wp2_with fail
      rw [rounds_succ]
      go_wp2_with fail
      refine (inum_in R _ gi r10.2.1 r10.2.2 HI.out.inn 1048576 (by omega)).mono ?_
      rintro e w13 ⟨rfl, hin, hk⟩
      have hI := HI.out.inp hin hk
      have hn11 := numT_le 1048576 r10.2.1 r10.2.2
      have hl11 := numT_len 1048576 r10.2.1 r10.2.2
      generalize e11 : numT 1048576 r10.2.1 r10.2.2 = r11 at *
      have E11 := Lib.hid e11
      have hc : w13.cell? ⟨w.heap.size + 1, 57, none⟩ = some (.int .u64 0) := by rw [hI.hat.kn 3 (by omega)]; rfl
      have hf := hI.hat.blk.free 57
      have hlt := hI.hat.blk.lt
      have hJ : HInv (w.alloc (.cells hdrZ.arr 44)) (w.heap.size + 1) R gi (w.heap.size + 1) ⟨r0.1, r1.1, pickB r2.1 (zeros 32), r3.1, r4.1, r5.1, pickB r6.1 (zeros 16), A', r7.1, c', [r8.1, r9.1, r10.1, r11.1, 0, 0], zeros 32, 0, zeros 32⟩ q.1 r11.2.1 r11.2.2 (w13.setCell ⟨w.heap.size + 1, 57, none⟩ (.int .u64 (r11.1 : Int))) := hI.put (i := 57) (Hdr.set_kn hI.hat.ok 3 (by omega) _) (Hdr.ok.knw hI.hat.ok 3 _) rfl rfl rfl
      clear e11 hin hk hI HI
      have HI := Lib.hid hJ
      clear hJ
      go_wp2_with fail
      rw [rounds_succ]
      go_wp2_with fail
      refine (inum_in R _ gi r11.2.1 r11.2.2 HI.out.inn 1048576 (by omega)).mono ?_
      rintro e w14 ⟨rfl, hin, hk⟩
      have hI := HI.out.inp hin hk
      have hn12 := numT_le 1048576 r11.2.1 r11.2.2
      have hl12 := numT_len 1048576 r11.2.1 r11.2.2
      generalize e12 : numT 1048576 r11.2.1 r11.2.2 = r12 at *
      have E12 := Lib.hid e12
      have hc : w14.cell? ⟨w.heap.size + 1, 58, none⟩ = some (.int .u64 0) := by rw [hI.hat.kn 4 (by omega)]; rfl
      have hf := hI.hat.blk.free 58
      have hlt := hI.hat.blk.lt
      have hJ : HInv (w.alloc (.cells hdrZ.arr 44)) (w.heap.size + 1) R gi (w.heap.size + 1) ⟨r0.1, r1.1, pickB r2.1 (zeros 32), r3.1, r4.1, r5.1, pickB r6.1 (zeros 16), A', r7.1, c', [r8.1, r9.1, r10.1, r11.1, r12.1, 0], zeros 32, 0, zeros 32⟩ q.1 r12.2.1 r12.2.2 (w14.setCell ⟨w.heap.size + 1, 58, none⟩ (.int .u64 (r12.1 : Int))) := hI.put (i := 58) (Hdr.set_kn hI.hat.ok 4 (by omega) _) (Hdr.ok.knw hI.hat.ok 4 _) rfl rfl rfl
      clear e12 hin hk hI HI
      have HI := Lib.hid hJ
      clear hJ
      go_wp2_with fail
      rw [rounds_succ]
      go_wp2_with fail
      refine (inum_in R _ gi r12.2.1 r12.2.2 HI.out.inn 1048576 (by omega)).mono ?_
      rintro e w15 ⟨rfl, hin, hk⟩
      have hI := HI.out.inp hin hk
      have hn13 := numT_le 1048576 r12.2.1 r12.2.2
      have hl13 := numT_len 1048576 r12.2.1 r12.2.2
      generalize e13 : numT 1048576 r12.2.1 r12.2.2 = r13 at *
      have E13 := Lib.hid e13
      have hc : w15.cell? ⟨w.heap.size + 1, 59, none⟩ = some (.int .u64 0) := by rw [hI.hat.kn 5 (by omega)]; rfl
      have hf := hI.hat.blk.free 59
      have hlt := hI.hat.blk.lt
      have hJ : HInv (w.alloc (.cells hdrZ.arr 44)) (w.heap.size + 1) R gi (w.heap.size + 1) ⟨r0.1, r1.1, pickB r2.1 (zeros 32), r3.1, r4.1, r5.1, pickB r6.1 (zeros 16), A', r7.1, c', [r8.1, r9.1, r10.1, r11.1, r12.1, r13.1], zeros 32, 0, zeros 32⟩ q.1 r13.2.1 r13.2.2 (w15.setCell ⟨w.heap.size + 1, 59, none⟩ (.int .u64 (r13.1 : Int))) := hI.put (i := 59) (Hdr.set_kn hI.hat.ok 5 (by omega) _) (Hdr.ok.knw hI.hat.ok 5 _) rfl rfl rfl
      clear e13 hin hk hI HI
      have HI := Lib.hid hJ
      clear hJ
      go_wp2_with fail
      rw [rounds_succ]
      go_wp2_with fail
      have hrc := rawT_cases 32 r13.2.1 r13.2.2
      have hl14 := (rawT_len 32 r13.2.1 r13.2.2).1
      refine (array_hash R _ gi (w.heap.size + 1) 44 (Hdr.cells ⟨r0.1, r1.1, pickB r2.1 (zeros 32), r3.1, r4.1, r5.1, pickB r6.1 (zeros 16), A', r7.1, c', [r8.1, r9.1, r10.1, r11.1, r12.1, r13.1], zeros 32, 0, zeros 32⟩) 60 r13.2.1 r13.2.2 HI.out.inn HI.out.nr HI.out.hat.blk (by rw [Hdr.len HI.out.hat.ok]; omega) (by omega)).mono ?_
      rintro e w16 hret
      generalize e14 : rawT 32 r13.2.1 r13.2.2 = r14 at *
      have E14 := Lib.hid e14
      have hL := lay_sm' HI.out.hat.ok hrc
      have hJ : HInv (w.alloc (.cells hdrZ.arr 44)) (w.heap.size + 1) R gi (w.heap.size + 1) ⟨r0.1, r1.1, pickB r2.1 (zeros 32), r3.1, r4.1, r5.1, pickB r6.1 (zeros 16), A', r7.1, c', [r8.1, r9.1, r10.1, r11.1, r12.1, r13.1], pickB r14.1 (zeros 32), 0, zeros 32⟩ q.1 r14.2.1 r14.2.2 w16 := HI.out.arr hret rfl hL.1 hL.2 rfl rfl rfl
      obtain ⟨rfl, _⟩ := hret
      clear e14 hrc hL HI
      have HI := Lib.hid hJ
      clear hJ
      go_wp2_with fail
      refine (inum_in R _ gi r14.2.1 r14.2.2 HI.out.inn 2064 (by omega)).mono ?_
      rintro e w17 ⟨rfl, hin, hk⟩
      have hI := HI.out.inp hin hk
      have hn15 := numT_le 2064 r14.2.1 r14.2.2
      have hl15 := numT_len 2064 r14.2.1 r14.2.2
      generalize e15 : numT 2064 r14.2.1 r14.2.2 = r15 at *
      have E15 := Lib.hid e15
      have hc := hI.hat.sz
      have hf := hI.hat.blk.free 92
      have hlt := hI.hat.blk.lt
      have hJ : HInv (w.alloc (.cells hdrZ.arr 44)) (w.heap.size + 1) R gi (w.heap.size + 1) ⟨r0.1, r1.1, pickB r2.1 (zeros 32), r3.1, r4.1, r5.1, pickB r6.1 (zeros 16), A', r7.1, c', [r8.1, r9.1, r10.1, r11.1, r12.1, r13.1], pickB r14.1 (zeros 32), r15.1, zeros 32⟩ q.1 r15.2.1 r15.2.2 (w17.setCell ⟨w.heap.size + 1, 92, none⟩ (.int .i64 (r15.1 : Int))) := hI.put (i := 92) (Hdr.set_sz hI.hat.ok _) (Hdr.ok.sz hI.hat.ok _) rfl rfl rfl
      clear e15 hin hk hI HI
      have HI := Lib.hid hJ
      clear hJ
      go_wp2_with fail
      have hrc := rawT_cases 32 r15.2.1 r15.2.2
      have hl16 := (rawT_len 32 r15.2.1 r15.2.2).1
      refine (array_hash R _ gi (w.heap.size + 1) 44 (Hdr.cells ⟨r0.1, r1.1, pickB r2.1 (zeros 32), r3.1, r4.1, r5.1, pickB r6.1 (zeros 16), A', r7.1, c', [r8.1, r9.1, r10.1, r11.1, r12.1, r13.1], pickB r14.1 (zeros 32), r15.1, zeros 32⟩) 93 r15.2.1 r15.2.2 HI.out.inn HI.out.nr HI.out.hat.blk (by rw [Hdr.len HI.out.hat.ok]; omega) (by omega)).mono ?_
      rintro e w18 hret
      generalize e16 : rawT 32 r15.2.1 r15.2.2 = r16 at *
      have E16 := Lib.hid e16
      have hL := lay_cd' HI.out.hat.ok hrc
      have hJ : HInv (w.alloc (.cells hdrZ.arr 44)) (w.heap.size + 1) R gi (w.heap.size + 1) ⟨r0.1, r1.1, pickB r2.1 (zeros 32), r3.1, r4.1, r5.1, pickB r6.1 (zeros 16), A', r7.1, c', [r8.1, r9.1, r10.1, r11.1, r12.1, r13.1], pickB r14.1 (zeros 32), r15.1, pickB r16.1 (zeros 32)⟩ q.1 r16.2.1 r16.2.2 w18 := HI.out.arr hret rfl hL.1 hL.2 rfl rfl rfl
      obtain ⟨rfl, _⟩ := hret
      clear e16 hrc hL HI
      have HI := Lib.hid hJ
      clear hJ
      have hP : parseH b = ⟨⟨r0.1, r1.1, pickB r2.1 (zeros 32), r3.1, r4.1, r5.1, pickB r6.1 (zeros 16), none, r7.1, 0, [r8.1, r9.1, r10.1, r11.1, r12.1, r13.1], pickB r14.1 (zeros 32), r15.1, pickB r16.1 (zeros 32)⟩, q.1, !r16.2.2 && r16.2.1.isEmpty⟩ := by
        simp only [parseH, numsTo, E0.out, E1.out, E2.out, E3.out, E4.out, E5.out, E6.out, E7.out, EQ7.out, E8.out, E9.out, E10.out, E11.out, E12.out, E13.out, E14.out, E15.out, E16.out, List.nil_append, List.cons_append]
      have hq16 : ∀ t ∈ q.1, t.length = 16 := by rw [← EQ7.out]; exact toksTo_16 _ _ _
      have hqn : q.1.length = r7.1 := by rw [← EQ7.out]; exact (toksTo_len _ _ _).1
      have hts := own_TS HI.out.own hqn hq16
      have hres := (Blk.new w 44 hdrZ.arr).below HI.out.bel (Nat.lt_succ_self _)
      have hzv := hdrZ_zero
      have hszh : (Try.prog.info? 44).map (·.size) = some hdrZ.arr.size := by rw [Hdr.size hdrZ_ok]; kernel_rfl
      have hRH : ∀ (x : Bool) (e : Ending) (w' : World), okH b = x → (if x = true then ∃ A c, e = .returned (.tuple #[.agg ((parseH b).h.at' A c).arr, .int .i64 0]) ∧ TS w' A (parseH b).toks else e = .returned (.tuple #[.agg hdrZ.arr, .int .i64 2])) → RetH b e w' := by
        rintro x e w' rfl h
        exact h
      have hO : okH b = ((!r16.2.2 && r16.2.1.isEmpty) && formedH ⟨r0.1, r1.1, pickB r2.1 (zeros 32), r3.1, r4.1, r5.1, pickB r6.1 (zeros 16), A', r7.1, c', [r8.1, r9.1, r10.1, r11.1, r12.1, r13.1], pickB r14.1 (zeros 32), r15.1, pickB r16.1 (zeros 32)⟩ (sortedB q.1)) := by
        unfold okH
        rw [hP]
        rfl
      have HRH := Lib.hid hRH
      have HO := Lib.hid hO
      have HPP := Lib.hid hP
      have HTS := Lib.hid hts
      clear hP hO hRH hts E0 E1 E2 E3 E4 E5 E6 E7 E8 E9 E10 E11 E12 E13 E14 E15 E16 EQ7
      have HQ := Lib.hid (And.intro hq16 hqn)
      clear hq16 hqn
      unfold Blk at hres
      cases hov : (!r16.2.2 && r16.2.1.isEmpty)
      · go_wp2_with fail
        refine (over_in R _ gi r16.2.1 r16.2.2 HI.out.inn).mono ?_
        rintro e w' ⟨rfl, rfl⟩
        rw [hov]
        go_wp2_with (refine wpList_store_row rfl 44 _ _ rfl w.heap.size hdrZ.arr rfl rfl 44 hdrZ.arr hres hszh rfl (Hdr.one _) ?_)
        refine bodyPost_ret (results_cell_row2 Try.results13 _ _ w.heap.size 44 hdrZ.arr (0, 0) _ rfl (setRow_heap _ _ hdrZ.arr _ _ (0, 0) hres) Try.underlying44 rfl hszh) rfl ?_
        refine ⟨HRH.out false _ _ (by rw [HO.out, hov]; rfl) rfl, ?_⟩
        exact below_setRow (((Below.refl w.heap.size w).alloc (Nat.le_refl _) _).trans (HI.out.bel.mono (Nat.le_succ _))) (Nat.le_refl _) _
      · have hszg : (Try.prog.info? 44).map (·.size) = some (Hdr.arr ⟨r0.1, r1.1, pickB r2.1 (zeros 32), r3.1, r4.1, r5.1, pickB r6.1 (zeros 16), A', r7.1, c', [r8.1, r9.1, r10.1, r11.1, r12.1, r13.1], pickB r14.1 (zeros 32), r15.1, pickB r16.1 (zeros 32)⟩).size := by rw [Hdr.size HI.out.hat.ok]; kernel_rfl
        have hso : SortSays w18 ⟨r0.1, r1.1, pickB r2.1 (zeros 32), r3.1, r4.1, r5.1, pickB r6.1 (zeros 16), A', r7.1, c', [r8.1, r9.1, r10.1, r11.1, r12.1, r13.1], pickB r14.1 (zeros 32), r15.1, pickB r16.1 (zeros 32)⟩ (sortedB q.1) := fun W hb => sorted_any _ _ _ q.1 W HQ.out.2 (HTS.out.below hb) (by show r7.1 ≤ _; omega)
        have hfo := eformedh_any ⟨r0.1, r1.1, pickB r2.1 (zeros 32), r3.1, r4.1, r5.1, pickB r6.1 (zeros 16), A', r7.1, c', [r8.1, r9.1, r10.1, r11.1, r12.1, r13.1], pickB r14.1 (zeros 32), r15.1, pickB r16.1 (zeros 32)⟩ HI.out.hat.ok w18 (by show r1.1 < _; omega) (by show r5.1 < _; omega) (by show r7.1 ≤ _; omega) (by show _ ≤ (r15.1 : Int); omega) (by show (r15.1 : Int) ≤ _; omega) (sortedB q.1) hso
        have hra : w18.rangeAt (w.heap.size + 1) 0 (Hdr.cells ⟨r0.1, r1.1, pickB r2.1 (zeros 32), r3.1, r4.1, r5.1, pickB r6.1 (zeros 16), A', r7.1, c', [r8.1, r9.1, r10.1, r11.1, r12.1, r13.1], pickB r14.1 (zeros 32), r15.1, pickB r16.1 (zeros 32)⟩) := fun j v hv => by rw [Nat.zero_add, HI.out.hat.at, hv]
        have HRA := Lib.hid hra
        clear hra
        have hszl : (Try.prog.info? 44).map (·.size) = some (Hdr.cells ⟨r0.1, r1.1, pickB r2.1 (zeros 32), r3.1, r4.1, r5.1, pickB r6.1 (zeros 16), A', r7.1, c', [r8.1, r9.1, r10.1, r11.1, r12.1, r13.1], pickB r14.1 (zeros 32), r15.1, pickB r16.1 (zeros 32)⟩).length := by rw [Hdr.len HI.out.hat.ok]; kernel_rfl
        generalize hfb : formedH ⟨r0.1, r1.1, pickB r2.1 (zeros 32), r3.1, r4.1, r5.1, pickB r6.1 (zeros 16), A', r7.1, c', [r8.1, r9.1, r10.1, r11.1, r12.1, r13.1], pickB r14.1 (zeros 32), r15.1, pickB r16.1 (zeros 32)⟩ (sortedB q.1) = fb at *
        have HFO := Lib.hid hfo
        clear hfo hso
        cases fb
        · go_wp2_with fail
          refine (over_in R _ gi r16.2.1 r16.2.2 HI.out.inn).mono ?_
          rintro e w' ⟨rfl, rfl⟩
          rw [hov]
          go_wp2_with (refine wpList_load_midG (by rfl) 44 _ rfl (w.heap.size + 1) 0 rfl (Hdr.cells ⟨r0.1, r1.1, pickB r2.1 (zeros 32), r3.1, r4.1, r5.1, pickB r6.1 (zeros 16), A', r7.1, c', [r8.1, r9.1, r10.1, r11.1, r12.1, r13.1], pickB r14.1 (zeros 32), r15.1, pickB r16.1 (zeros 32)⟩) _ HRA.out Try.underlying44 rfl hszl ?_)
          refine HFO.out.mono ?_
          rintro e w19 ⟨rfl, bel19⟩
          have hres9 := Blk.next (t := 44) (cs := hdrZ.arr) hres bel19
          have hblk9 := HI.out.hat.next bel19
          have hb9 := (((Below.refl w.heap.size w).alloc (Nat.le_refl _) _).trans (HI.out.bel.mono (Nat.le_succ _))).trans (bel19.mono (by have := HI.out.hat.blk.lt; omega))
          have hblk9 := hblk9.blk
          unfold Blk at hblk9 hres9
          have hO2 := HO.out
          rw [hov] at hO2
          skip
          go_wp2_with (refine wpList_store_row rfl 44 _ _ rfl w.heap.size hdrZ.arr rfl rfl 44 hdrZ.arr hres9 hszh rfl (Hdr.one _) ?_)
          refine bodyPost_ret (results_cell_row2 Try.results13 _ _ w.heap.size 44 hdrZ.arr (0, 0) _ rfl (setRow_heap _ _ hdrZ.arr _ _ (0, 0) hres9) Try.underlying44 rfl hszh) rfl ?_
          refine ⟨HRH.out false _ _ hO2 rfl, below_setRow hb9 (Nat.le_refl _) _⟩
        · go_wp2_with fail
          refine (over_in R _ gi r16.2.1 r16.2.2 HI.out.inn).mono ?_
          rintro e w' ⟨rfl, rfl⟩
          rw [hov]
          go_wp2_with (refine wpList_load_midG (by rfl) 44 _ rfl (w.heap.size + 1) 0 rfl (Hdr.cells ⟨r0.1, r1.1, pickB r2.1 (zeros 32), r3.1, r4.1, r5.1, pickB r6.1 (zeros 16), A', r7.1, c', [r8.1, r9.1, r10.1, r11.1, r12.1, r13.1], pickB r14.1 (zeros 32), r15.1, pickB r16.1 (zeros 32)⟩) _ HRA.out Try.underlying44 rfl hszl ?_)
          refine HFO.out.mono ?_
          rintro e w19 ⟨rfl, bel19⟩
          have hres9 := Blk.next (t := 44) (cs := hdrZ.arr) hres bel19
          have hblk9 := HI.out.hat.next bel19
          have hb9 := (((Below.refl w.heap.size w).alloc (Nat.le_refl _) _).trans (HI.out.bel.mono (Nat.le_succ _))).trans (bel19.mono (by have := HI.out.hat.blk.lt; omega))
          have hblk9 := hblk9.blk
          unfold Blk at hblk9 hres9
          have hO2 := HO.out
          rw [hov] at hO2
          skip
          have hownR := own_keep HI.out.own (w' := w19.setRow w.heap.size (Hdr.arr ⟨r0.1, r1.1, pickB r2.1 (zeros 32), r3.1, r4.1, r5.1, pickB r6.1 (zeros 16), A', r7.1, c', [r8.1, r9.1, r10.1, r11.1, r12.1, r13.1], pickB r14.1 (zeros 32), r15.1, pickB r16.1 (zeros 32)⟩)) (fun r hr hlt => by rw [setRow_other _ _ _ _ (by have := (HI.out.sep r hr).2.2; omega)]; exact bel19.block r hlt)
          have HOR := Lib.hid hownR
          clear hownR
          go_wp2_with (first | (refine wpList_load_row rfl 44 _ rfl (w.heap.size + 1) rfl 44 _ (0, 0) _ hblk9 Try.underlying44 rfl hszg ?_) | (refine wpList_store_row rfl 44 _ _ rfl w.heap.size (Hdr.arr ⟨r0.1, r1.1, pickB r2.1 (zeros 32), r3.1, r4.1, r5.1, pickB r6.1 (zeros 16), A', r7.1, c', [r8.1, r9.1, r10.1, r11.1, r12.1, r13.1], pickB r14.1 (zeros 32), r15.1, pickB r16.1 (zeros 32)⟩) rfl rfl 44 hdrZ.arr hres9 hszg (by rw [Hdr.size hdrZ_ok, Hdr.size HI.out.hat.ok]) (Hdr.one _) ?_))
          refine bodyPost_ret (results_cell_row2 Try.results13 _ _ w.heap.size 44 (Hdr.arr ⟨r0.1, r1.1, pickB r2.1 (zeros 32), r3.1, r4.1, r5.1, pickB r6.1 (zeros 16), A', r7.1, c', [r8.1, r9.1, r10.1, r11.1, r12.1, r13.1], pickB r14.1 (zeros 32), r15.1, pickB r16.1 (zeros 32)⟩) (0, 0) _ rfl (setRow_heap _ _ hdrZ.arr _ _ (0, 0) hres9) Try.underlying44 rfl hszg) rfl ?_
          refine ⟨HRH.out true _ _ hO2 ?_, below_setRow hb9 (Nat.le_refl _) _⟩
          rw [if_pos rfl, HPP.out]
          exact ⟨A', c', rfl, own_TS HOR.out HQ.out.2 HQ.out.1⟩

end Go.Proofs.Ytdkadlifjmmcbaa
