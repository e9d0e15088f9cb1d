/- The walks of hash.start, appendBig and padded. -/
import Derived.Test.YtdkadlifjmmcbaaDoorSh4
import Derived.Test.YtdkadlifjmmcbaaDoorRf
namespace Go.Proofs.YtdkadlifjmmcbaaDoor
open Go.RowKit

set_option maxRecDepth 100000 in
set_option maxHeartbeats 400000 in
theorem start_any (w : World) : Calls Tryd.prog 69 #[] w fun e w' => e = .returned (.agg (stA St.start)) ∧ Below w.heap.size w w' := by
  have hzs := st_zero
  have hszS : (Tryd.prog.info? 108).map (·.size) = some (stA St.start).size := by kernel_rfl
  have hnew := heap_alloc_new w (.cells #[.int .u32 0, .int .u32 0, .int .u32 0, .int .u32 0, .int .u32 0, .int .u32 0, .int .u32 0, .int .u32 0] 108)
  have e : stA St.start = #[.int .u32 1779033703, .int .u32 3144134277, .int .u32 1013904242, .int .u32 2773480762, .int .u32 1359893119, .int .u32 2600822924, .int .u32 528734635, .int .u32 1541459225] := rfl
  have hone := stA_one St.start
  rw [e] at hone hszS ⊢
  clear e
  go_enter Tryd.func69, Tryd.ntmps69
  go_wp2_with (first | (refine wpList_store_row rfl 108 _ _ rfl w.heap.size _ rfl rfl 108 _ hnew hszS rfl hone ?_) | fail)
  refine bodyPost_ret (results_cell_row Tryd.results69 _ _ w.heap.size 108 _ (0, 0) _ rfl (setRow_heap _ _ _ _ _ (0, 0) hnew) Tryd.underlying108 rfl hszS) rfl ?_
  exact ⟨rfl, below_setRow ((Below.refl _ w).alloc (Nat.le_refl _) _) (Nat.le_refl _) _⟩

theorem rb_byte (w : World) (x : UInt8) (v : Value) (hv : v = .int .u8 (x.toNat : Int)) : RB (w.alloc (.cells #[v] 5)) (some ⟨w.heap.size, 0, none⟩) [x] := by
  intro j hj
  obtain rfl : j = 0 := by simp at hj; omega
  refine ⟨_, _, rfl, ?_⟩
  rw [Blk.cell (Blk.new w 5 #[v]), hv]
  rfl

/-- a row of bytes that is gathered: new behind B, all older blocks as they were -/
structure OInv (B : Nat) (w0 : World) (A : Option Addr) (n c : Nat) (acc : List UInt8) (w : World) : Prop where
  own : OwnB w A n c acc
  fr : Fresh B A
  bel : Below B w0 w
  hB : B ≤ w.heap.size
theorem OInv.alloc {B : Nat} {w0 w : World} {A : Option Addr} {n c : Nat} {acc : List UInt8} (C : OInv B w0 A n c acc w) (x : Obj) : OInv B w0 A n c acc (w.alloc x) :=
  ⟨C.own.alloc x, C.fr, C.bel.alloc C.hB x, by have := C.hB; simp; omega⟩
theorem OInv.app {B : Nat} {w0 w w' : World} {A A' : Option Addr} {n m c c' : Nat} {acc l : List UInt8} (C : OInv B w0 A n c acc w) (ho : OwnB w' A' (n + m) c' (acc ++ l)) (hg : w.grownBy w' (blkOf A)) (hb : blkOf A' = blkOf A ∨ blkOf A' = some w.heap.size) : OInv B w0 A' (n + m) c' (acc ++ l) w' :=
  ⟨ho, C.fr.app hb C.hB, bel_app C.bel hg C.hB C.fr, Nat.le_trans C.hB hg.size⟩

set_option maxRecDepth 100000 in
set_option maxHeartbeats 1000000 in
theorem abig_any (B : Nat) (w0 : World) (A : Option Addr) (n c : Nat) (acc : List UInt8) (w : World) (h : OInv B w0 A n c acc w) (x : Nat) (hx : x < 18446744073709551616) (hn : n ≤ 70368744177664) :
    Calls Tryd.prog 80 #[.slice A n c, .int .u64 (x : Int)] w fun e w' => ∃ A' c', e = .returned (.slice A' (n + 8) c') ∧ OInv B w0 A' (n + 8) c' (acc ++ be64 x) w' := by
  have C0 := Lib.hid h
  clear h
  go_enter Tryd.func80, Tryd.ntmps80
  go_wp2_with fail
  refine wp_loop_rounds 9 ?_
  rw [rounds_succ]
  go_wp2_with (at_builtin; refine wpList_app rfl (.tmp 10) (.tmp 15) rfl _ A _ c _ rfl (C0.out.alloc _).own (some ⟨w.heap.size, 0, none⟩) 1 1 [(UInt8.ofNat (x / 72057594037927936))] rfl rfl (rb_byte w (UInt8.ofNat (x / 72057594037927936)) _ (by simp; try omega)) (by omega) ?_; intro A1 c1 w1 ho hg hb; have C1 := Lib.hid ((C0.out.alloc _).app ho hg hb); clear ho hg hb)
  rw [rounds_succ]
  go_wp2_with (at_builtin; refine wpList_app rfl (.tmp 10) (.tmp 15) rfl _ A1 _ c1 _ rfl (C1.out.alloc _).own (some ⟨w1.heap.size, 0, none⟩) 1 1 [(UInt8.ofNat (x / 281474976710656))] rfl rfl (rb_byte w1 (UInt8.ofNat (x / 281474976710656)) _ (by simp; try omega)) (by omega) ?_; intro A2 c2 w2 ho hg hb; have C2 := Lib.hid ((C1.out.alloc _).app ho hg hb); clear ho hg hb)
  rw [rounds_succ]
  go_wp2_with (at_builtin; refine wpList_app rfl (.tmp 10) (.tmp 15) rfl _ A2 _ c2 _ rfl (C2.out.alloc _).own (some ⟨w2.heap.size, 0, none⟩) 1 1 [(UInt8.ofNat (x / 1099511627776))] rfl rfl (rb_byte w2 (UInt8.ofNat (x / 1099511627776)) _ (by simp; try omega)) (by omega) ?_; intro A3 c3 w3 ho hg hb; have C3 := Lib.hid ((C2.out.alloc _).app ho hg hb); clear ho hg hb)
  rw [rounds_succ]
  go_wp2_with (at_builtin; refine wpList_app rfl (.tmp 10) (.tmp 15) rfl _ A3 _ c3 _ rfl (C3.out.alloc _).own (some ⟨w3.heap.size, 0, none⟩) 1 1 [(UInt8.ofNat (x / 4294967296))] rfl rfl (rb_byte w3 (UInt8.ofNat (x / 4294967296)) _ (by simp; try omega)) (by omega) ?_; intro A4 c4 w4 ho hg hb; have C4 := Lib.hid ((C3.out.alloc _).app ho hg hb); clear ho hg hb)
  rw [rounds_succ]
  go_wp2_with (at_builtin; refine wpList_app rfl (.tmp 10) (.tmp 15) rfl _ A4 _ c4 _ rfl (C4.out.alloc _).own (some ⟨w4.heap.size, 0, none⟩) 1 1 [(UInt8.ofNat (x / 16777216))] rfl rfl (rb_byte w4 (UInt8.ofNat (x / 16777216)) _ (by simp; try omega)) (by omega) ?_; intro A5 c5 w5 ho hg hb; have C5 := Lib.hid ((C4.out.alloc _).app ho hg hb); clear ho hg hb)
  rw [rounds_succ]
  go_wp2_with (at_builtin; refine wpList_app rfl (.tmp 10) (.tmp 15) rfl _ A5 _ c5 _ rfl (C5.out.alloc _).own (some ⟨w5.heap.size, 0, none⟩) 1 1 [(UInt8.ofNat (x / 65536))] rfl rfl (rb_byte w5 (UInt8.ofNat (x / 65536)) _ (by simp; try omega)) (by omega) ?_; intro A6 c6 w6 ho hg hb; have C6 := Lib.hid ((C5.out.alloc _).app ho hg hb); clear ho hg hb)
  rw [rounds_succ]
  go_wp2_with (at_builtin; refine wpList_app rfl (.tmp 10) (.tmp 15) rfl _ A6 _ c6 _ rfl (C6.out.alloc _).own (some ⟨w6.heap.size, 0, none⟩) 1 1 [(UInt8.ofNat (x / 256))] rfl rfl (rb_byte w6 (UInt8.ofNat (x / 256)) _ (by simp; try omega)) (by omega) ?_; intro A7 c7 w7 ho hg hb; have C7 := Lib.hid ((C6.out.alloc _).app ho hg hb); clear ho hg hb)
  rw [rounds_succ]
  go_wp2_with (at_builtin; refine wpList_app rfl (.tmp 10) (.tmp 15) rfl _ A7 _ c7 _ rfl (C7.out.alloc _).own (some ⟨w7.heap.size, 0, none⟩) 1 1 [(UInt8.ofNat x)] rfl rfl (rb_byte w7 (UInt8.ofNat x) _ (by simp; try omega)) (by omega) ?_; intro A8 c8 w8 ho hg hb; have C8 := Lib.hid ((C7.out.alloc _).app ho hg hb); clear ho hg hb)
  rw [rounds_succ]
  go_wp2
  go_ret
  refine ⟨A8, c8, by simp [Nat.add_assoc], ?_⟩
  have e := C8.out
  simp only [List.append_assoc, List.cons_append, List.nil_append, Nat.add_assoc] at e
  exact e

def lenV : Value → Nat
  | .slice _ m _ => m
  | _ => 0

set_option maxRecDepth 100000 in
set_option maxHeartbeats 1000000 in
theorem padded_any (A : Option Addr) (n c : Nat) (b : List UInt8) (w : World) (hl : b.length = n) (hr : RB w A b) (hn : n ≤ 1099511627776) :
    Calls Tryd.prog 70 #[.slice A n c] w (RetB (padM b) (fun v => v) w) := by
  subst hl
  have hcl := clone_any w A b.length c b rfl hr (by omega)
  have HCL := Lib.hid hcl
  have hz1 := padZ_mod b.length
  have hz2 := padZ_least b.length
  have hpe : padM b = b ++ [128] ++ List.replicate (padZ b.length) 0 ++ be64 (8 * b.length) := rfl
  have hpl := padM_len b
  have hzb : padZ b.length < 64 := by unfold padZ; omega
  generalize padM b = pm at *
  generalize padZ b.length = z at *
  have HZ2 := Lib.hid hz2
  have HPE := Lib.hid hpe
  have HPL := Lib.hid hpl
  clear hcl hr hz2 hpe hpl
  go_enter Tryd.func70, Tryd.ntmps70
  go_wp2_with fail
  refine HCL.out.mono ?_
  rintro e w1 ⟨A1, c1, rfl, own1, fr1, bel1⟩
  have C1 : OInv w.heap.size w A1 b.length c1 b w1 := ⟨own1, fr1, bel1, bel1.size⟩
  have HC1 := Lib.hid C1
  clear own1 fr1 bel1 C1
  go_wp2_with (at_builtin; refine wpList_app rfl (.tmp 5) (.tmp 6) rfl _ A1 _ c1 _ rfl (HC1.out.alloc _).own (some ⟨w1.heap.size, 0, none⟩) 1 1 [128] rfl rfl (rb_byte w1 128 _ (by rfl)) (by omega) ?_; intro A2 c2 w2 ho hg hb; have HC2 := Lib.hid ((HC1.out.alloc _).app ho hg hb); clear ho hg hb)
  go_loopw [3] (fun v wr => ∃ (k m : Nat) (A' : Option Addr) (c' : Nat), k ≤ z ∧ m = b.length + 1 + k ∧ v = .slice A' m c' ∧ OInv w.heap.size w A' m c' (b ++ [128] ++ List.replicate k 0) wr) (fun v _ => b.length + 1 + z - lenV v)
  case atStart => exact ⟨0, _, A2, c2, by omega, rfl, rfl, by simpa using HC2.out⟩
  case round =>
    obtain ⟨k, m, A', c', hk, hm, rfl, hC⟩ := hrel
    have HC := Lib.hid hC
    have HM := Lib.hid hm
    clear hC HC1 HC2
    by_cases hlt : k < z
    · have hne := HZ2.out k hlt
      rw [← hm] at hne
      have t1 : (((m : Int) % 64) != 56) = true := by simp; omega
      have hmb : m ≤ 2199023255552 := by omega
      clear hm
      go_wp2_with (at_builtin; refine wpList_app rfl (.tmp 12) (.tmp 13) rfl _ A' _ c' _ rfl (HC.out.alloc _).own (some ⟨wr.heap.size, 0, none⟩) 1 1 [0] rfl rfl (rb_byte wr 0 _ (by rfl)) (by omega) ?_; intro A3 c3 w3 ho hg hb; have HC3 := Lib.hid ((HC.out.alloc _).app ho hg hb); clear ho hg hb)
      refine ⟨⟨k + 1, m + 1, A3, c3, by omega, by have := HM.out; omega, rfl, ?_⟩, ?_⟩
      · rw [List.replicate_succ', ← List.append_assoc]
        exact HC3.out
      · show b.length + 1 + z - (m + 1) < b.length + 1 + z - m
        have := HM.out
        omega
    · obtain rfl : k = z := by omega
      have t1 : (((m : Int) % 64) != 56) = false := by simp; omega
      have hmb : m ≤ 2199023255552 := by omega
      have h8 : 8 * b.length < 18446744073709551616 := by omega
      clear hm
      have hab := abig_any w.heap.size w A' m c' _ wr HC.out (8 * b.length) h8 (by omega)
      simp only [Int.natCast_mul, Int.cast_ofNat_Int] at hab
      have HAB := Lib.hid hab
      clear hab
      go_wp2_with fail
      refine HAB.out.mono ?_
      rintro e w2 ⟨A3, c3, rfl, hO⟩
      have HO := Lib.hid hO
      have e8 : m + 8 = pm.length := by have := HM.out; have := HPL.out; omega
      have HE := Lib.hid e8
      clear hO e8
      go_wp2
      go_ret
      refine ⟨A3, c3, by rw [← HE.out]; rfl, ?_, HO.out.fr, HO.out.bel⟩
      rw [← HE.out, HPE.out]
      exact HO.out.own

end Go.Proofs.YtdkadlifjmmcbaaDoor
