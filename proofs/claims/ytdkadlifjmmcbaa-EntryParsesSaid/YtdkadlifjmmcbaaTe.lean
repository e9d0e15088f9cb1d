/- The walk of EntryTexts. -/
import Derived.Test.YtdkadlifjmmcbaaInv
import Derived.Test.YtdkadlifjmmcbaaAw
import Derived.Test.YtdkadlifjmmcbaaPc
import Derived.Test.YtdkadlifjmmcbaaRf2
import Derived.Test.YtdkadlifjmmcbaaCh4
import Derived.Deep.RegionLaw
namespace Go.Proofs.Ytdkadlifjmmcbaa
open Go.RowKit

set_option maxRecDepth 100000 in
set_option maxHeartbeats 2000000 in
theorem texts_any (A : Option Addr) (n c : Nat) (b : List UInt8) (w : World) (hl : b.length = n) (hr : RB w A b) :
    Calls Try.prog 4 #[.slice A n c] w fun e w' => e = .returned (.bool true) ∧ Below w.heap.size w w' := by
  cases hn : decide (1000 < (n : Int))
  rotate_left
  · have hn' := of_decide_eq_true hn
    go_enter Try.func4, Try.ntmps4
    go_wp2_with fail
    refine (awake_any _).mono ?_
    rintro e w1 ⟨rfl, bel1⟩
    go_wp2_with fail
    refine (awake_any _).mono ?_
    rintro e w2 ⟨rfl, bel2⟩
    go_wp2
    go_returns
    exact ⟨rfl, bel1.trans (bel2.mono bel1.size)⟩
  have hn' := of_decide_eq_false hn
  have HR := Lib.hid hr
  clear hr
  cases hok : okC b
  · go_enter Try.func4, Try.ntmps4
    go_wp2_with fail
    refine (awake_any _).mono ?_
    rintro e w1 ⟨rfl, bel1⟩
    go_wp2_with fail
    refine (eparse_any A n c b w1 hl (HR.out.below bel1) (by omega)).mono ?_
    rintro e w2 ⟨A', N, bel2, ⟨h1, rfl⟩ | ⟨h1, _⟩⟩
    rotate_left
    · rw [hok] at h1; cases h1
    have hbw := bel1.trans (bel2.mono bel1.size)
    go_wp2_with fail
    refine (same_any 0 0 ⟨#[]⟩ ⟨#[]⟩ ⟨#[]⟩ ⟨#[]⟩ none none 0 0 0 0 [] [] _ rfl rfl (fun j hj => absurd hj (by simp)) (fun j hj => absurd hj (by simp)) (by omega)).mono ?_
    rintro e w3 ⟨rfl, bel3⟩
    rw [sameC_refl]
    go_wp2
    go_returns
    have hsz2 := hbw.size
    exact ⟨rfl, hbw.trans (Below.trans (by go_grown) (bel3.mono (by have := hbw.size; simp; omega)))⟩
  · obtain ⟨hpk, hfm⟩ := ok_pack b hok
    go_enter Try.func4, Try.ntmps4
    go_wp2_with fail
    refine (awake_any _).mono ?_
    rintro e w1 ⟨rfl, bel1⟩
    go_wp2_with fail
    refine (eparse_any A n c b w1 hl (HR.out.below bel1) (by omega)).mono ?_
    rintro e w2 ⟨A', N, bel2, ⟨h1, _⟩ | ⟨h1, rfl, hN, hrs⟩⟩
    · rw [hok] at h1; cases h1
    have hbw := bel1.trans (bel2.mono bel1.size)
    generalize parseC b = p at *
    go_wp2_with fail
    obtain ⟨hfn, hf8, hfv, hfo1, hfo3, hfs⟩ := formed_sizes hfm
    have hblk := (Blk.new w2 24 #[.int .i64 p.op, .string p.name, .slice A' p.tags.length p.tags.length, .string p.val]).drew
    have hrs0 := (fun h => RS.keep (w' := (w2.alloc (.cells #[.int .i64 p.op, .string p.name, .slice A' p.tags.length p.tags.length, .string p.val] 24)).drew) h (fun _ _ => rfl)) <| hrs.alloc (.cells #[.int .i64 p.op, .string p.name, .slice A' p.tags.length p.tags.length, .string p.val] 24)
    have hfo := fun W (h : RS W A' p.tags) => rformed_any p.op p.name p.val A' p.tags.length p.tags.length p.tags W rfl h (by omega) (fun s hs => by have := hfs s hs; omega) (by omega) (by omega)
    rw [hfm] at hfo
    have hrp := fun W (h : RS W A' p.tags) => rpack_any p.op p.name p.val A' p.tags.length p.tags.length p.tags W (by omega) rfl h (by omega) (fun s hs => by have := hfs s hs; omega) (by omega) (by omega)
    rw [hpk] at hrp
    have hrb0 := (HR.out.below hbw).keep (w' := (w2.alloc (.cells #[.int .i64 p.op, .string p.name, .slice A' p.tags.length p.tags.length, .string p.val] 24)).drew) (fun q hq => World.cell?_alloc_lt w2 _ q hq)
    have HB := Lib.hid hblk
    have HS0 := Lib.hid hrs0
    have HFO := Lib.hid hfo
    have HRP := Lib.hid hrp
    have HRB := Lib.hid hrb0
    have hsz2 := hbw.size
    clear hblk hrs0 hfo hrp hrb0 hfs hrs hpk hfm bel1 bel2
    go_region_law (first | (go_simp; go_at_call 8; refine (HFO.out _ HS0.out).mono ?_; rintro e w4 ⟨rfl, bel4⟩; have hb4 := HB.out.next bel4; have hrs4 := RS.below HS0.out bel4; have HS4 := Lib.hid hrs4; have hrb4 := HRB.out.below bel4; have HRB4 := Lib.hid hrb4; have hcv4 := conv_bs w4 A n c b hl hrb4; have d0 := hb4.cell 0; have d1 := hb4.cell 1; have d2 := hb4.cell 2; have d3 := hb4.cell 3; have HB4 := Lib.hid hb4; clear hb4 hrs4 hrb4) | (go_simp; go_at_call 11; refine (HRP.out _ HS4.out).mono ?_; rintro e w5 ⟨A5, c5, rfl, own5, fr5, bel5⟩; have hcv5 := conv_bs w5 A n c b hl (HRB4.out.below bel5); have hcv6 := conv_bs w5 A5 n c5 b hl own5.rb; clear own5 fr5))
    all_goals
      go_wp2
      go_returns
      exact ⟨rfl, hbw.trans (Below.trans (Below.trans (by go_grown) (bel4.mono (by simp; omega))) (bel5.mono (by have := bel4.size; simp at this; omega)))⟩

end Go.Proofs.Ytdkadlifjmmcbaa
