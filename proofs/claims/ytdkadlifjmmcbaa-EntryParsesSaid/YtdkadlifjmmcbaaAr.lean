/- The walks of entry.array for a hash and for a token. -/
import Derived.Test.YtdkadlifjmmcbaaHd
import Derived.Test.YtdkadlifjmmcbaaPi3
import Derived.Laws.CopyOwn
namespace Go.Proofs.Ytdkadlifjmmcbaa
open Go.RowKit

/-- cells with some bytes laid over them -/
def laidB (cs : List Value) (o : Nat) (s : List UInt8) : List Value := cs.take o ++ (bytesL s ++ cs.drop (o + (bytesL s).length))
theorem laidB_nil (cs : List Value) (o : Nat) : laidB cs o [] = cs := by simp [laidB, bytesL]
theorem laidB_len {cs : List Value} {o : Nat} {s : List UInt8} (h : o + s.length ≤ cs.length) : (laidB cs o s).length = cs.length := by
  simp [laidB, bytesL_len]
  omega

/-- what entry.array does: the bytes taken lie in the block's cells -/
def RetArr (R : Nat → Prop) (gi g : Nat) (t : TypeId) (cs : List Value) (o : Nat) (r : List UInt8 × List UInt8 × Bool) (w : World) (e : Ending) (w' : World) : Prop :=
  e = .returned (.tuple #[]) ∧ InIs R w' gi r.2.1 r.2.2 ∧ Blk w' g t (laidB cs o r.1).toArray ∧ Keep (fun i => i ≠ gi ∧ i ≠ g) w w'

theorem keep_setRow {S : Nat → Prop} {w0 w : World} (h : Keep S w0 w) {g : Nat} (hg : ¬ S g) (cs : Array Value) : Keep S w0 (w.setRow g cs) :=
  h.trans ⟨rfl, rfl, rfl, by simp [World.setRow], fun k _ hk => setRow_other w g k cs (fun e => hg (e ▸ hk))⟩

theorem rawT_cases (n : Nat) (l : List UInt8) (bad : Bool) : (rawT n l bad).1 = [] ∨ (rawT n l bad).1.length = n := by
  unfold rawT
  split
  · exact .inl rfl
  · rename_i h
    right
    simp
    omega

set_option maxRecDepth 100000 in
set_option maxHeartbeats 400000 in
theorem hashTo_any (g o : Nat) (w : World) : Calls Try.prog 32 #[.pointer (some ⟨g, o, none⟩)] w fun e w' => e = .returned (.slice (some ⟨g, o, none⟩) 32 32) ∧ w = w' := by
  go_enter Try.func32, Try.ntmps32
  go_wp2
  go_returns
  exact ⟨rfl, rfl⟩

set_option maxRecDepth 100000 in
set_option maxHeartbeats 400000 in
theorem array_hash (R : Nat → Prop) (w : World) (gi g : Nat) (t : TypeId) (cs : List Value) (o : Nat) (l : List UInt8) (bad : Bool) (h : InIs R w gi l bad) (hR : ¬ R g) (hb : Blk w g t cs.toArray) (ho : o + 32 ≤ cs.length) (hl : l.length ≤ 140737488355328) :
    Calls Try.prog 31 #[.pointer (some ⟨gi, 0, none⟩), .pointer (some ⟨g, o, none⟩), .func (.func 32) #[] #[]] w (RetArr R gi g t cs o (rawT 32 l bad) w) := by
  have hne : g ≠ gi := fun e => hR (e ▸ h.rg)
  have hraw := iraw_in R w gi l bad h 32 hl
  have hrc := rawT_cases 32 l bad
  generalize rawT 32 l bad = r at *
  obtain ⟨r1, l1, b1⟩ := r
  have HR := Lib.hid hraw
  have HB := Lib.hid hb
  have hsz1 : (Try.prog.info? 5).map (·.size) = some 1 := by kernel_rfl
  clear hraw hb h
  simp only at hrc
  rcases hrc with h0 | h0
  · subst h0
    go_enter Try.func31, Try.ntmps31
    go_wp2_with fail
    refine (hashTo_any _ _ _).mono ?_
    rintro e w1 ⟨rfl, rfl⟩
    go_wp2_with fail
    refine HR.out.mono ?_
    rintro e w2 ⟨A, c, rfl, own2, fr2, in2, k2⟩
    have hb2 := k2.blk HB.out hne
    go_wp2_with (refine wpList_copy_nothing rfl (.tmp 10) (.tmp 14) 26 26 rfl 5 Try.underlying26 hsz1 (some ⟨g, o, none⟩) A 32 32 0 c rfl rfl rfl ?_)

    go_returns
    exact ⟨rfl, in2, by rw [laidB_nil]; exact hb2, ⟨k2.os, k2.tape, k2.output, k2.size, fun i hi hx => k2.block i hi hx.1⟩⟩
  · have hbl := bytesL_len r1
    go_enter Try.func31, Try.ntmps31
    go_wp2_with fail
    refine (hashTo_any _ _ _).mono ?_
    rintro e w1 ⟨rfl, rfl⟩
    go_wp2_with fail
    refine HR.out.mono ?_
    rintro e w2 ⟨A, c, rfl, own2, fr2, in2, k2⟩
    have hb2 := k2.blk HB.out hne
    obtain ⟨ab, ao, rfl, _⟩ := own2.rb 0 (show 0 < r1.length by omega)
    have hsrc : ∀ j v, (bytesL r1)[j]? = some v → w2.cell? ((⟨ab, ao, none⟩ : Addr).add j) = some v := by
      intro j v hv
      have hj : j < r1.length := by rw [← hbl]; exact (List.getElem?_eq_some_iff.1 hv).1
      obtain ⟨b', o', e', hc'⟩ := own2.rb j hj
      cases e'
      have hadd : (⟨ab, ao, none⟩ : Addr).add j = ⟨ab, ao + j, none⟩ := by unfold Addr.add; split <;> simp_all
      rw [hadd, hc', ← hv, bytesL_get r1 j hj]
    have h1c : ∀ v ∈ bytesL r1, v.oneCell' = true := fun v hv => by
      obtain ⟨x, _, rfl⟩ := List.mem_map.1 hv
      rfl
    have HS := Lib.hid hsrc
    have H1 := Lib.hid h1c
    clear hsrc h1c
    go_wp2_with (refine wpList_copy_own rfl (.tmp 10) (.tmp 14) 26 26 rfl 5 Try.underlying26 hsz1 g o 32 32 ⟨ab, ao, none⟩ 32 c rfl (by rw [← h0]; rfl) cs.toArray t hb2 (bytesL r1) (by rw [hbl, h0]; rfl) HS.out (by simp [hbl, h0]; omega) H1.out ?_)
    go_returns
    refine ⟨rfl, in2.keep (keep_setRow (Keep.refl R w2) hR _), ?_, keep_setRow ⟨k2.os, k2.tape, k2.output, k2.size, fun i hi hx => k2.block i hi hx.1⟩ (fun h => h.2 rfl) _⟩
    have e1 : laidB cs o r1 = cs.take o ++ (bytesL r1 ++ cs.drop (o + 32)) := by rw [laidB, hbl, h0]
    show Blk _ g t (laidB cs o r1).toArray
    rw [e1]
    exact setRow_heap w2 g cs.toArray _ t (0, 0) hb2

set_option maxRecDepth 100000 in
set_option maxHeartbeats 400000 in
theorem tokenTo_any (g o : Nat) (w : World) : Calls Try.prog 35 #[.pointer (some ⟨g, o, none⟩)] w fun e w' => e = .returned (.slice (some ⟨g, o, none⟩) 16 16) ∧ w = w' := by
  go_enter Try.func35, Try.ntmps35
  go_wp2
  go_returns
  exact ⟨rfl, rfl⟩

set_option maxRecDepth 100000 in
set_option maxHeartbeats 400000 in
theorem array_token (R : Nat → Prop) (w : World) (gi g : Nat) (t : TypeId) (cs : List Value) (o : Nat) (l : List UInt8) (bad : Bool) (h : InIs R w gi l bad) (hR : ¬ R g) (hb : Blk w g t cs.toArray) (ho : o + 16 ≤ cs.length) (hl : l.length ≤ 140737488355328) :
    Calls Try.prog 34 #[.pointer (some ⟨gi, 0, none⟩), .pointer (some ⟨g, o, none⟩), .func (.func 35) #[] #[]] w (RetArr R gi g t cs o (rawT 16 l bad) w) := by
  have hne : g ≠ gi := fun e => hR (e ▸ h.rg)
  have hraw := iraw_in R w gi l bad h 16 hl
  have hrc := rawT_cases 16 l bad
  generalize rawT 16 l bad = r at *
  obtain ⟨r1, l1, b1⟩ := r
  have HR := Lib.hid hraw
  have HB := Lib.hid hb
  have hsz1 : (Try.prog.info? 5).map (·.size) = some 1 := by kernel_rfl
  clear hraw hb h
  simp only at hrc
  rcases hrc with h0 | h0
  · subst h0
    go_enter Try.func34, Try.ntmps34
    go_wp2_with fail
    refine (tokenTo_any _ _ _).mono ?_
    rintro e w1 ⟨rfl, rfl⟩
    go_wp2_with fail
    refine HR.out.mono ?_
    rintro e w2 ⟨A, c, rfl, own2, fr2, in2, k2⟩
    have hb2 := k2.blk HB.out hne
    go_wp2_with (refine wpList_copy_nothing rfl (.tmp 10) (.tmp 14) 26 26 rfl 5 Try.underlying26 hsz1 (some ⟨g, o, none⟩) A 16 16 0 c rfl rfl rfl ?_)
    go_returns
    exact ⟨rfl, in2, by rw [laidB_nil]; exact hb2, ⟨k2.os, k2.tape, k2.output, k2.size, fun i hi hx => k2.block i hi hx.1⟩⟩
  · have hbl := bytesL_len r1
    go_enter Try.func34, Try.ntmps34
    go_wp2_with fail
    refine (tokenTo_any _ _ _).mono ?_
    rintro e w1 ⟨rfl, rfl⟩
    go_wp2_with fail
    refine HR.out.mono ?_
    rintro e w2 ⟨A, c, rfl, own2, fr2, in2, k2⟩
    have hb2 := k2.blk HB.out hne
    obtain ⟨ab, ao, rfl, _⟩ := own2.rb 0 (show 0 < r1.length by omega)
    have hsrc : ∀ j v, (bytesL r1)[j]? = some v → w2.cell? ((⟨ab, ao, none⟩ : Addr).add j) = some v := by
      intro j v hv
      have hj : j < r1.length := by rw [← hbl]; exact (List.getElem?_eq_some_iff.1 hv).1
      obtain ⟨b', o', e', hc'⟩ := own2.rb j hj
      cases e'
      have hadd : (⟨ab, ao, none⟩ : Addr).add j = ⟨ab, ao + j, none⟩ := by unfold Addr.add; split <;> simp_all
      rw [hadd, hc', ← hv, bytesL_get r1 j hj]
    have h1c : ∀ v ∈ bytesL r1, v.oneCell' = true := fun v hv => by
      obtain ⟨x, _, rfl⟩ := List.mem_map.1 hv
      rfl
    have HS := Lib.hid hsrc
    have H1 := Lib.hid h1c
    clear hsrc h1c
    go_wp2_with (refine wpList_copy_own rfl (.tmp 10) (.tmp 14) 26 26 rfl 5 Try.underlying26 hsz1 g o 16 16 ⟨ab, ao, none⟩ 16 c rfl (by rw [← h0]; rfl) cs.toArray t hb2 (bytesL r1) (by rw [hbl, h0]; rfl) HS.out (by simp [hbl, h0]; omega) H1.out ?_)
    go_returns
    refine ⟨rfl, in2.keep (keep_setRow (Keep.refl R w2) hR _), ?_, keep_setRow ⟨k2.os, k2.tape, k2.output, k2.size, fun i hi hx => k2.block i hi hx.1⟩ (fun h => h.2 rfl) _⟩
    have e1 : laidB cs o r1 = cs.take o ++ (bytesL r1 ++ cs.drop (o + 16)) := by rw [laidB, hbl, h0]
    show Blk _ g t (laidB cs o r1).toArray
    rw [e1]
    exact setRow_heap w2 g cs.toArray _ t (0, 0) hb2

end Go.Proofs.Ytdkadlifjmmcbaa
