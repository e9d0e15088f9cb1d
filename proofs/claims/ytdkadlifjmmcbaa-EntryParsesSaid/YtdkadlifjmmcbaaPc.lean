/- The walk of ParseChange. -/
import Derived.Test.YtdkadlifjmmcbaaRd
import Derived.Test.YtdkadlifjmmcbaaPcm
import Derived.Deep.RegionLaw
import Derived.Deep.AppendLies
import Derived.Handy
namespace Go.Proofs.Ytdkadlifjmmcbaa
open Go.RowKit

theorem info_str : (Try.prog.info? 9).map (fun i => (i.zero, i.size, i.bytes)) = some (some (.string ⟨#[]⟩), 1, 16) := by kernel_rfl

/-- the state of a parse: In at gi, the change at gc, its tags in a row of their own -/
structure PInv (w0 : World) (B : Nat) (R : Nat → Prop) (gi gc : Nat) (op : Int) (name : ByteArray) (tags : List ByteArray) (l : List UInt8) (bad : Bool) (A : Option Addr) (k c : Nat) (w : World) : Prop where
  inn : InIs R w gi l bad
  blk : Blk w gc 24 #[.int .i64 op, .string name, .slice A k c, .string ⟨#[]⟩]
  own : w.ownsRow 0 9 1 (.slice A k c) k (tags.map Value.string)
  sep : ∀ r, blkOf A = some r → ¬ R r ∧ r ≠ gc ∧ B ≤ r
  bel : Below B w0 w
  hB : B ≤ w0.heap.size
  rlt : ∀ i, R i → i < w.heap.size

theorem bel_keep {B : Nat} {S : Nat → Prop} {w0 w w' : World} (h : Below B w0 w) (hB : B ≤ w.heap.size) (hk : Keep S w w') (hS : ∀ i, i < B → S i) : Below B w0 w' :=
  h.trans (hk.below hS hB)

theorem own_keep {e : TypeId} {sz : Nat} {w w' : World} {A : Option Addr} {n c : Nat} {xs : List Value} (h : w.ownsRow 0 e sz (.slice A n c) n xs) (hk : ∀ r, blkOf A = some r → r < w.heap.size → w'.heap[r]? = w.heap[r]?) : w'.ownsRow 0 e sz (.slice A n c) n xs := by
  obtain ⟨a, b⟩ := h
  refine ⟨a, ?_⟩
  rcases b with b | ⟨g, cap, cur, he, hb, hg, hr⟩
  · exact .inl b
  · refine .inr ⟨g, cap, cur, he, hb, ?_, hr⟩
    injection he with he
    subst he
    rw [hk g rfl (Blk.lt (cs := cur) hg), hg]

theorem own_lt {e : TypeId} {sz : Nat} {w : World} {A : Option Addr} {n c : Nat} {xs : List Value} (h : w.ownsRow 0 e sz (.slice A n c) n xs) {r : Nat} (hr : blkOf A = some r) : r < w.heap.size :=
  (h.lt r (by rw [ownBlk]; exact hr)).2

theorem PInv.text {w0 : World} {B : Nat} {R : Nat → Prop} {gi gc : Nat} {op : Int} {name : ByteArray} {tags : List ByteArray} {l l' : List UInt8} {bad bad' : Bool} {A : Option Addr} {k c : Nat} {w w' : World}
    (h : PInv w0 B R gi gc op name tags l bad A k c w) (hgi : B ≤ gi) (hgc : gc ≠ gi) (hin : InIs R w' gi l' bad') (hk : Keep (· ≠ gi) w w') : PInv w0 B R gi gc op name tags l' bad' A k c w' := by
  obtain ⟨h1, h2, h3, h4, h5, hB, h6⟩ := h
  refine ⟨hin, hk.blk h2 hgc, ?_, h4, bel_keep h5 (Nat.le_trans hB h5.size) hk (fun i hi => by omega), hB, fun i hi => Nat.lt_of_lt_of_le (h6 i hi) hk.size⟩
  exact own_keep h3 fun r hr hlt => hk.block r hlt (by rintro rfl; exact (h4 _ hr).1 h1.rg)

theorem PInv.push {w0 : World} {B : Nat} {R : Nat → Prop} {gi gc : Nat} {op : Int} {name s : ByteArray} {tags : List ByteArray} {l : List UInt8} {bad : Bool} {A : Option Addr} {k c g' c' : Nat} {w w' : World}
    (h : PInv w0 B R gi gc op name tags l bad A k c w) (hgc : ¬ R gc) (hBc : B ≤ gc) (hlt : g' < w'.heap.size)
    (hown : w'.ownsRow 0 9 1 (.slice (some ⟨g', 0, none⟩) (k + 1) c') (k + 1) (tags.map Value.string ++ [.string s])) (hg : w.grownBy w' (blkOf A)) (hb : blkOf A = some g' ∨ g' = w.heap.size) :
    PInv w0 B R gi gc op name (tags ++ [s]) l bad (some ⟨g', 0, none⟩) (k + 1) c' (w'.setCell ⟨gc, 2, none⟩ (.slice (some ⟨g', 0, none⟩) (k + 1) c')) := by
  obtain ⟨h1, h2, h3, h4, h5, hB, h6⟩ := h
  have hgl : ¬ R g' ∧ g' ≠ gc ∧ B ≤ g' := by
    rcases hb with h | rfl
    · exact h4 _ h
    · exact ⟨fun hr => by have := h6 _ hr; omega, fun e => by have := h2.lt; omega, Nat.le_trans hB h5.size⟩
  have hkR : Keep R w (w'.setCell ⟨gc, 2, none⟩ (.slice (some ⟨g', 0, none⟩) (k + 1) c')) := (Keep.of_grown hg (fun r hr => (h4 r hr).1)).setCell hgc _
  have hblk : Blk w' gc 24 #[.int .i64 op, .string name, .slice A k c, .string ⟨#[]⟩] := (hg.block gc h2.lt (fun e => (h4 gc e.symm).2.1 rfl)).trans h2
  refine ⟨h1.keep hkR, hblk.set 2 _, ?_, ?_, (h5.grown hg (Nat.le_trans hB h5.size) (fun r hr => (h4 r hr).2.2)).setCell hBc _, hB, fun i hi => Nat.lt_of_lt_of_le (h6 i hi) hkR.size⟩
  · rw [List.map_append]
    exact own_keep hown fun r hr _ => Below.heap_setCell _ _ _ _ (by cases hr; exact hgl.2.1)
  · intro r hr
    cases hr
    exact hgl

theorem PInv.alloc {w0 : World} {B : Nat} {R : Nat → Prop} {gi gc : Nat} {op : Int} {name : ByteArray} {tags : List ByteArray} {l : List UInt8} {bad : Bool} {A : Option Addr} {k c : Nat} {w : World}
    (h : PInv w0 B R gi gc op name tags l bad A k c w) (o : Obj) : PInv w0 B R gi gc op name tags l bad A k c (w.alloc o) := by
  obtain ⟨h1, h2, h3, h4, h5, hB, h6⟩ := h
  exact ⟨h1.keep ((Keep.refl R w).alloc o), h2.alloc o, h3.alloc o, h4, h5.alloc (Nat.le_trans hB h5.size) o, hB, fun i hi => by have := h6 i hi; simp; omega⟩

theorem PInv.mid {w0 : World} {B : Nat} {R : Nat → Prop} {gi gc : Nat} {op : Int} {name : ByteArray} {tags : List ByteArray} {l : List UInt8} {bad : Bool} {A : Option Addr} {k c : Nat} {w w' : World}
    (h : PInv w0 B R gi gc op name tags l bad A k c w) (hg : w.grownBy w' (blkOf A)) : Blk w' gc 24 #[.int .i64 op, .string name, .slice A k c, .string ⟨#[]⟩] :=
  (hg.block gc h.blk.lt (fun e => (h.sep gc e.symm).2.1 rfl)).trans h.blk

theorem cell_far {w : World} {p q : Addr} (h : q.block ≠ p.block) (u : Value) : (w.setCell p u).cell? q = w.cell? q := by
  unfold World.cell?
  rw [Below.heap_setCell w p u q.block h]

theorem own_rs {w : World} {A : Option Addr} {n c : Nat} {l : List ByteArray} (h : w.ownsRow 0 9 1 (.slice A n c) n (l.map Value.string)) : RS w A l ∧ l.length = n ∧ n ≤ c ∧ c ≤ maxLen := by
  obtain ⟨h1, h2⟩ := h
  have hl : l.length = n := by simpa using h1
  rcases h2 with ⟨he, hn⟩ | ⟨g, cap, cur, he, _, hg, hnc, hm, hcs, ht⟩
  · injection he with _ _ he
    subst hn
    have : l = [] := List.eq_nil_of_length_eq_zero hl
    subst this
    exact ⟨fun j hj => absurd hj (by simp), rfl, by omega, by omega⟩
  · injection he with he _ he2
    subst he he2
    refine ⟨fun j hj => ⟨g, 0, rfl, ?_⟩, hl, hnc, hm⟩
    rw [cell_of_row w g _ cur _ _ hg, Nat.zero_add]
    have h3 : (l.map Value.string)[j]? = some (.string l[j]) := by simp [hj]
    rw [← ht, List.getElem?_take] at h3
    split at h3
    · rw [← h3, Array.getElem?_toList]
    · simp at h3

set_option maxRecDepth 100000 in
set_option maxHeartbeats 2000000 in
theorem eparse_any (A : Option Addr) (n c : Nat) (b : List UInt8) (w : World) (hl : b.length = n) (hr : RB w A b) (hb : n ≤ 100000000000000) :
    Calls Try.prog 10 #[.slice A n c] w fun e w' => ∃ (A' : Option Addr) (N : Nat), Below w.heap.size w w' ∧
      ((okC b = false ∧ e = .returned (.tuple #[.agg #[.int .i64 0, .string ⟨#[]⟩, .slice none 0 0, .string ⟨#[]⟩], .int .i64 2])) ∨
       (okC b = true ∧ e = .returned (.tuple #[.agg #[.int .i64 (parseC b).op, .string (parseC b).name, .slice A' N N, .string (parseC b).val], .int .i64 0]) ∧ N = (parseC b).tags.length ∧ RS w' A' (parseC b).tags)) := by
  subst hl
  have hrd := fun o => read_any (w.alloc o) A b.length c b rfl (hr.keep fun p hp => World.cell?_alloc_lt w _ p hp) (by omega)
  have HRd := Lib.hid hrd
  clear hrd hr
  go_enter Try.func10, Try.ntmps10
  go_wp2_with fail
  refine (HRd.out _).mono ?_
  rintro e w1 ⟨gi, R, rfl, hin1, hR1, bel1⟩
  have hgi := hR1 gi hin1.rg
  simp only [World.size_alloc] at hgi hR1 bel1
  go_wp2_with fail
  refine (inum_in R _ gi b false hin1 3 (by omega)).mono ?_
  rintro e w2 ⟨rfl, hin2, hk2⟩
  have hn0 := numT_le 3 b false
  have hl0 := numT_len 3 b false
  generalize e0 : numT 3 b false = r0 at *
  have E0 := Lib.hid e0
  clear e0 hin1
  go_wp2_with fail
  refine (itext_in R _ gi _ _ hin2 24 (by omega) (by omega)).mono ?_
  rintro e w3 ⟨A3, c3, rfl, own3, fr3, hin3, hk3⟩
  have ht1 := textT_len 24 r0.2.1 r0.2.2
  generalize e1 : textT 24 r0.2.1 r0.2.2 = r1 at *
  have E1 := Lib.hid e1
  have hcv := conv_bs w3 A3 _ c3 _ rfl own3.rb
  have bel3 : Below (w.heap.size + 1) (w.alloc (.cells #[.int .i64 0, .string ⟨#[]⟩, .slice none 0 0, .string ⟨#[]⟩] 24)) w3 :=
    bel_keep (bel_keep bel1 (by omega) hk2 (fun i hi => by omega)) (by have := hk2.size; omega) hk3 (fun i hi => by omega)
  have hlt3 : w1.heap.size ≤ w3.heap.size := Nat.le_trans hk2.size hk3.size
  clear e1 hin2 hk2 hk3 own3 fr3 bel1
  go_wp2_with fail
  clear hcv
  refine (inum_in R _ gi r1.2.1 r1.2.2 (hin3.keep ((Keep.refl R w3).alloc _)) 8 (by omega)).mono ?_
  rintro e w4 ⟨rfl, hin4, hk4⟩
  have hn2 := numT_le 8 r1.2.1 r1.2.2
  have hl2 := numT_len 8 r1.2.1 r1.2.2
  generalize e2 : numT 8 r1.2.1 r1.2.2 = r2 at *
  have E2 := Lib.hid e2
  have hpi : PInv (w.alloc (.cells #[.int .i64 0, .string ⟨#[]⟩, .slice none 0 0, .string ⟨#[]⟩] 24)) (w.heap.size + 1) R gi w3.heap.size r0.1 (mkS r1.1) [] r2.2.1 r2.2.2 none 0 0 w4 := by
    refine ⟨hin4, hk4.blk (Blk.new _ _ _) (by omega), World.ownsRow_nil _ _ _ _, (fun r h => by cases h), bel_keep (bel3.alloc (by omega) _) (by simp; omega) hk4 (fun i hi => by omega), by simp, fun i hi => ?_⟩
    have h1 := hk4.size
    have h2 := (hR1 i hi).2
    simp at h1
    omega
  have HP := Lib.hid hpi
  clear e2 hin3 hin4 hk4 hpi
  go_wp2
  go_loopw [17] (fun i wr => ∃ (k : Nat) (A' : Option Addr) (c' : Nat), k ≤ r2.1 ∧ i = .int .u64 k ∧
      PInv (w.alloc (.cells #[.int .i64 0, .string ⟨#[]⟩, .slice none 0 0, .string ⟨#[]⟩] 24)) (w.heap.size + 1) R gi w3.heap.size r0.1 (mkS r1.1) (tagsTo r2.2.1 r2.2.2 k).1 (tagsTo r2.2.1 r2.2.2 k).2.1 (tagsTo r2.2.1 r2.2.2 k).2.2 A' k c' wr)
    (fun i _ => r2.1 - (intOf i).toNat)
  case atStart => exact ⟨0, none, 0, Nat.zero_le _, rfl, HP.out⟩
  case round =>
    obtain ⟨k, A', c', hk, rfl, hpi⟩ := hrel
    have HPr := Lib.hid hpi
    have hcell := hpi.blk.cell 2
    have htl := tagsTo_len r2.2.1 r2.2.2 k
    clear hpi HP
    by_cases hlt : k < r2.1
    · have hs : (tagsTo r2.2.1 r2.2.2 (k + 1)) = ((tagsTo r2.2.1 r2.2.2 k).1 ++ [mkS (textT 24 (tagsTo r2.2.1 r2.2.2 k).2.1 (tagsTo r2.2.1 r2.2.2 k).2.2).1], (textT 24 (tagsTo r2.2.1 r2.2.2 k).2.1 (tagsTo r2.2.1 r2.2.2 k).2.2).2) := rfl
      have HS := Lib.hid hs
      clear hs
      generalize tagsTo r2.2.1 r2.2.2 k = q at *
      obtain ⟨i0, hi0, hz0, hz1, hz2⟩ := info_parts info_str
      have hts := textT_len 24 q.2.1 q.2.2
      go_wp2_with fail
      go_region_law (first | (refine step_append_lies _ (by rfl) (.tmp 20) (.tmp 24) _ (by rfl) 0 9 i0 _ 1 16 Try.underlying22 hi0 hz0 hz1 hz2 rfl (by omega) (.slice A' k c') k (q.1.map Value.string) (by rfl) ((H5.out.own).alloc _) ⟨w5.heap.size, 0, none⟩ 1 1 [.string (mkS (textT 24 q.2.1 q.2.2).1)] (by rfl) (by rfl) (World.news_of_block (cs := #[.string (mkS (textT 24 q.2.1 q.2.2).1)]) (t := 9) (fr := (0, 0)) (heap_alloc_new w5 _)) (by simp [Value.oneCell']) (by omega) (by simp only [maxLen]; omega) (by omega) (Nat.zero_le _) (w5.heap.size + 1) (by simp) ?_; intro g' cap w6 hown6 hg6 hb6 hlt6; have H6 := Lib.hid (((H5.out).alloc _).push (by intro h; have := (hR1 _ h).2; omega) (by omega) hlt6 hown6 (by rw [← ownBlk A' k c']; exact hg6) (by rw [← ownBlk A' k c']; simpa using hb6)); have hblk6 := ((H5.out).alloc _).mid (by rw [← ownBlk A' k c']; exact hg6); have hc6 := hblk6.cell 2; have hf6 := hblk6.free 2; clear hown6 hg6 hb6 hlt6 hblk6) | (go_simp; go_at_call 26; refine (itext_in R _ gi _ _ (HPr.out.inn.keep ((Keep.refl R wr).drew)) 24 (by omega) (by omega)).mono ?_; rintro e w5 ⟨A5, c5, rfl, own5, fr5, hin5, hk5⟩; have hcv5 := conv_bs w5 A5 _ c5 _ rfl own5.rb; have H5 := Lib.hid (HPr.out.text (by omega) (by omega) hin5 ((Keep.refl _ wr).drew.trans hk5)); have hcell5 := H5.out.blk.cell 2; have hcell5a : (w5.alloc (Obj.cells #[.string (mkS (textT 24 q.2.1 q.2.2).1)] 9)).cell? ⟨w3.heap.size, 2, none⟩ = some (.slice A' k c') := (H5.out.blk.alloc _).cell 2; have hlt5 := H5.out.blk.lt; clear own5 fr5 hin5 hk5))
      all_goals
        go_wp2
        go_roundw
        case rel => exact ⟨k + 1, _, cap, by omega, by go_num, by rw [HS.out]; exact H6.out⟩
        case measure => simp [intOf]; omega
    · obtain rfl : k = r2.1 := by omega
      have hsz := tagsTo_size r2.2.1 r2.2.2 r2.1
      generalize e3 : tagsTo r2.2.1 r2.2.2 r2.1 = q at *
      have E3 := Lib.hid e3
      have HSZ := Lib.hid hsz
      clear e3 hsz hcell hk
      have ht5 := textT_len 512 q.2.1 q.2.2
      go_wp2_with fail
      refine (itext_in R _ gi _ _ HPr.out.inn 512 (by omega) (by omega)).mono ?_
      rintro e w5 ⟨A5, c5, rfl, own5, fr5, hin5, hk5⟩
      generalize e4 : textT 512 q.2.1 q.2.2 = r3 at *
      have E4 := Lib.hid e4
      clear e4
      have hcv5 := conv_bs w5 A5 _ c5 _ rfl own5.rb
      have hpi5 := HPr.out.text (by omega) (by omega) hin5 hk5
      have hblk5 := hpi5.blk.set 3 (.string (mkS r3.1))
      have hf5 := hpi5.blk.free 3
      have hc5 : w5.cell? ⟨w3.heap.size, 3, none⟩ = some (.string ⟨#[]⟩) := hpi5.blk.cell 3
      have hlt5 := hpi5.blk.lt
      obtain ⟨hrs5, hql, hqc, hqm⟩ := own_rs hpi5.own
      have hsep5 := hpi5.sep
      have hbel5 := hpi5.bel
      have hRc : ¬ R w3.heap.size := fun h => by have := (hR1 _ h).2; omega
      have hin5' := hpi5.inn.keep ((Keep.refl R w5).setCell (p := ⟨w3.heap.size, 3, none⟩) hRc (.string (mkS r3.1)))
      have hbel6 := (show Below _ _ (w5.setCell ⟨w3.heap.size, 3, none⟩ (.string (mkS r3.1))) from hbel5.setCell (by simp; omega) _)
      have hrs6 : RS (w5.setCell ⟨w3.heap.size, 3, none⟩ (.string (mkS r3.1))) A' q.1 := by
        intro j hj
        obtain ⟨b1, o1, e1, hcj⟩ := hrs5 j hj
        refine ⟨b1, o1, e1, ?_⟩
        subst e1
        rw [← hcj]
        exact cell_far (hsep5 _ rfl).2.1 _
      have HRS := Lib.hid hrs6
      have HIN := Lib.hid hin5'
      have HBEL := Lib.hid hbel6
      have HBLK := Lib.hid hblk5
      clear hpi5 hrs5 hrs6 hin5' hbel5 hbel6 own5 fr5 hin5 hk5
      go_wp2_with fail
      clear hcv5 hf5 hc5
      refine (over_in R _ gi _ _ HIN.out).mono ?_
      rintro e w6 ⟨rfl, rfl⟩
      have hres := (Blk.new w 24 #[.int .i64 0, .string ⟨#[]⟩, .slice none 0 0, .string ⟨#[]⟩]).below HBEL.out (Nat.lt_succ_self _)
      have hbelw := ((Below.refl w.heap.size w).alloc (Nat.le_refl _) (.cells #[.int .i64 0, .string ⟨#[]⟩, .slice none 0 0, .string ⟨#[]⟩] 24)).trans (HBEL.out.mono (Nat.le_succ _))
      have hsz6 := HBEL.out.size
      have hblk6 := HBLK.out
      simp only [World.size_alloc] at hsz6
      have hwlt : w3.heap.size < (w5.setCell ⟨w3.heap.size, 3, none⟩ (.string (mkS r3.1))).heap.size := by simpa using hlt5
      generalize w5.setCell ⟨w3.heap.size, 3, none⟩ (.string (mkS r3.1)) = w6 at *
      clear HBEL HBLK HIN HPr hlt5 hblk5
      have hc0 : w6.cell? ⟨w3.heap.size, 0, none⟩ = some (.int .i64 r0.1) := hblk6.cell 0
      have hc1 : w6.cell? ⟨w3.heap.size, 1, none⟩ = some (.string (mkS r1.1)) := hblk6.cell 1
      have hc2 : w6.cell? ⟨w3.heap.size, 2, none⟩ = some (.slice A' r2.1 c') := hblk6.cell 2
      have hc3 : w6.cell? ⟨w3.heap.size, 3, none⟩ = some (.string (mkS r3.1)) := hblk6.cell 3
      have hd0 : w6.cell? ⟨w.heap.size, 0, none⟩ = some (.int .i64 0) := hres.cell 0
      have hd1 : w6.cell? ⟨w.heap.size, 1, none⟩ = some (.string ⟨#[]⟩) := hres.cell 1
      have hd2 : w6.cell? ⟨w.heap.size, 2, none⟩ = some (.slice none 0 0) := hres.cell 2
      have hd3 : w6.cell? ⟨w.heap.size, 3, none⟩ = some (.string ⟨#[]⟩) := hres.cell 3
      have hf := hblk6.free
      have hg := hres.free
      have hP : parseC b = ⟨r0.1, mkS r1.1, q.1, mkS r3.1, !r3.2.2 && r3.2.1.isEmpty⟩ := by
        simp only [parseC, E0.out, E1.out, E2.out, E3.out, E4.out]
      have HPC := Lib.hid hP
      clear hP
      generalize hov : (!r3.2.2 && r3.2.1.isEmpty) = ov at *
      have hfin : ∀ (w' : World) (v0 v1 v2 v3 : Value), Blk w' w.heap.size 24 #[.int .i64 0, .string ⟨#[]⟩, .slice none 0 0, .string ⟨#[]⟩] → Below w.heap.size w w' → ∃ W, W = ((((w'.setCell ⟨w.heap.size, 0, none⟩ v0).setCell ⟨w.heap.size, 1, none⟩ v1).setCell ⟨w.heap.size, 2, none⟩ v2).setCell ⟨w.heap.size, 3, none⟩ v3) ∧
          Blk W w.heap.size 24 #[v0, v1, v2, v3] ∧ Below w.heap.size w W := fun w' v0 v1 v2 v3 hres hb =>
        ⟨_, rfl, (((hres.set 0 v0).set 1 v1).set 2 v2).set 3 v3, by go_grown⟩
      have HF := Lib.hid hfin
      have HRES := Lib.hid hres
      have HSEP := Lib.hid hsep5
      clear hfin hres hsep5
      cases ov
      · go_wp2
        obtain ⟨W, hW, hblkW, hbelW⟩ := HF.out w6 (.int .i64 0) (.string ⟨#[]⟩) (.slice none 0 0) (.string ⟨#[]⟩) HRES.out hbelw
        rw [← hW]
        have hz0 := hblkW.cell 0
        have hz1 := hblkW.cell 1
        have hz2 := hblkW.cell 2
        have hz3 := hblkW.cell 3
        refine bodyPost_ret (by simp [results, Try.results10, hz0, hz1, hz2, hz3, go_sem]; try rfl) rfl ?_
        exact ⟨none, 0, hbelW, .inl ⟨by rw [okC, HPC.out]; rfl, rfl⟩⟩
      · go_wp2_with fail
        refine (eformed_any _ _ _ A' r2.1 c' q.1 w6 hql HRS.out (by omega) (fun s hs => by have := HSZ.out s hs; omega) (by rw [mkS_size]; omega) (by rw [mkS_size]; omega)).mono ?_
        rintro e w7 ⟨rfl, bel7⟩
        have hres7 := HRES.out.next bel7
        have hc2' := (bel7.cell (p := ⟨w3.heap.size, 2, none⟩) hwlt).trans hc2
        have hblk7 := hblk6.next bel7
        have hrs7 := HRS.out.below bel7
        have hbelw7 := hbelw.trans (bel7.mono hbelw.size)
        have hwlt7 := Nat.lt_of_lt_of_le hwlt bel7.size
        have hf7 := hblk7.free 2
        have HBLK7 := Lib.hid hblk7
        have HRES7 := Lib.hid hres7
        have HRS7 := Lib.hid hrs7
        clear hc0 hc1 hc2 hc3 hd0 hd1 hd2 hd3 hf hg hblk7 hres7 hrs7 hblk6
        cases hfo : formedC (↑r0.1) (mkS r1.1) q.1 (mkS r3.1)
        · have hg := HRES7.out.free
          have hd0 : w7.cell? ⟨w.heap.size, 0, none⟩ = some (.int .i64 0) := HRES7.out.cell 0
          have hd1 : w7.cell? ⟨w.heap.size, 1, none⟩ = some (.string ⟨#[]⟩) := HRES7.out.cell 1
          have hd2 : w7.cell? ⟨w.heap.size, 2, none⟩ = some (.slice none 0 0) := HRES7.out.cell 2
          have hd3 : w7.cell? ⟨w.heap.size, 3, none⟩ = some (.string ⟨#[]⟩) := HRES7.out.cell 3
          go_wp2
          obtain ⟨W, hW, hblkW, hbelW⟩ := HF.out w7 (.int .i64 0) (.string ⟨#[]⟩) (.slice none 0 0) (.string ⟨#[]⟩) HRES7.out hbelw7
          rw [← hW]
          have hz0 := hblkW.cell 0
          have hz1 := hblkW.cell 1
          have hz2 := hblkW.cell 2
          have hz3 := hblkW.cell 3
          refine bodyPost_ret (by simp [results, Try.results10, hz0, hz1, hz2, hz3, go_sem]; try rfl) rfl ?_
          exact ⟨none, 0, hbelW, .inl ⟨by rw [okC, HPC.out]; exact hfo, rfl⟩⟩
        · go_wp2_with fail
          refine (clip_any w7 A' r2.1 c' hqc (by simp only [maxLen] at hqm; omega)).mono ?_
          rintro e w8 ⟨rfl, rfl⟩
          have hg := HRES7.out.free
          have hd0 : w7.cell? ⟨w.heap.size, 0, none⟩ = some (.int .i64 0) := HRES7.out.cell 0
          have hd1 : w7.cell? ⟨w.heap.size, 1, none⟩ = some (.string ⟨#[]⟩) := HRES7.out.cell 1
          have hd2 : w7.cell? ⟨w.heap.size, 2, none⟩ = some (.slice none 0 0) := HRES7.out.cell 2
          have hd3 : w7.cell? ⟨w.heap.size, 3, none⟩ = some (.string ⟨#[]⟩) := HRES7.out.cell 3
          have hc0 : w7.cell? ⟨w3.heap.size, 0, none⟩ = some (.int .i64 r0.1) := HBLK7.out.cell 0
          have hc1 : w7.cell? ⟨w3.heap.size, 1, none⟩ = some (.string (mkS r1.1)) := HBLK7.out.cell 1
          have hc3 : w7.cell? ⟨w3.heap.size, 3, none⟩ = some (.string (mkS r3.1)) := HBLK7.out.cell 3
          have hne : w.heap.size ≠ w3.heap.size := by omega
          have hres8 := HRES7.out.far (p := ⟨w3.heap.size, 2, none⟩) hne (.slice A' r2.1 r2.1)
          have hbel8 := hbelw7.setCell (p := ⟨w3.heap.size, 2, none⟩) (by simp; omega) (.slice A' r2.1 r2.1)
          have HRES8 := Lib.hid hres8
          have HBEL8 := Lib.hid hbel8
          clear hres8 hbel8
          go_wp2
          obtain ⟨W, hW, hblkW, hbelW⟩ := HF.out _ (.int .i64 r0.1) (.string (mkS r1.1)) (.slice A' r2.1 r2.1) (.string (mkS r3.1)) HRES8.out HBEL8.out
          have hrsW : RS W A' q.1 := by
            rw [hW]
            intro j hj
            obtain ⟨b1, o1, e1, hcj⟩ := HRS7.out j hj
            refine ⟨b1, o1, e1, ?_⟩
            subst e1
            have h1 : ¬ R b1 ∧ b1 ≠ w3.heap.size ∧ w.heap.size + 1 ≤ b1 := HSEP.out _ rfl
            have h2 : b1 ≠ w.heap.size := by omega
            rw [cell_far h2, cell_far h2, cell_far h2, cell_far h2, cell_far h1.2.1, hcj]
          rw [← hW]
          have hz0 := hblkW.cell 0
          have hz1 := hblkW.cell 1
          have hz2 := hblkW.cell 2
          have hz3 := hblkW.cell 3
          refine bodyPost_ret (by simp [results, Try.results10, hz0, hz1, hz2, hz3, go_sem]; try rfl) rfl ?_
          refine ⟨A', r2.1, hbelW, .inr ⟨by rw [okC, HPC.out]; exact hfo, by rw [HPC.out], by rw [HPC.out]; exact hql.symm, by rw [HPC.out]; exact hrsW⟩⟩

end Go.Proofs.Ytdkadlifjmmcbaa
