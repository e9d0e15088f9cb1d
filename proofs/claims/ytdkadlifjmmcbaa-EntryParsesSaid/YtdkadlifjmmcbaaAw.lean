/- The walk of the layer's 'awake'. -/
import Derived.Test.YtdkadlifjmmcbaaBy
namespace Go.Proofs.Ytdkadlifjmmcbaa
open Go.RowKit

/-- the header that 'awake' makes -/
def hdr0 : Hdr := ⟨1, 1, zeros 32, 0, false, 0, zeros 16, none, 0, 0, [0, 0, 0, 0, 0, 0], zeros 32, 80, zeros 32⟩

theorem hdr0_ok : hdr0.ok := ⟨rfl, rfl, rfl, rfl, rfl⟩
theorem hdr0_formed : formedH hdr0 true = true := by decide
theorem hdr0_arr : hdr0.arr = #[.int .i64 1, .int .u64 1, .int .u8 0, .int .u8 0, .int .u8 0, .int .u8 0, .int .u8 0, .int .u8 0, .int .u8 0, .int .u8 0, .int .u8 0, .int .u8 0, .int .u8 0, .int .u8 0, .int .u8 0, .int .u8 0, .int .u8 0, .int .u8 0, .int .u8 0, .int .u8 0, .int .u8 0, .int .u8 0, .int .u8 0, .int .u8 0, .int .u8 0, .int .u8 0, .int .u8 0, .int .u8 0, .int .u8 0, .int .u8 0, .int .u8 0, .int .u8 0, .int .u8 0, .int .u8 0, .int .i64 0, .bool false, .int .u64 0, .int .u8 0, .int .u8 0, .int .u8 0, .int .u8 0, .int .u8 0, .int .u8 0, .int .u8 0, .int .u8 0, .int .u8 0, .int .u8 0, .int .u8 0, .int .u8 0, .int .u8 0, .int .u8 0, .int .u8 0, .int .u8 0, .slice none 0 0, .int .u64 0, .int .u64 0, .int .u64 0, .int .u64 0, .int .u64 0, .int .u64 0, .int .u8 0, .int .u8 0, .int .u8 0, .int .u8 0, .int .u8 0, .int .u8 0, .int .u8 0, .int .u8 0, .int .u8 0, .int .u8 0, .int .u8 0, .int .u8 0, .int .u8 0, .int .u8 0, .int .u8 0, .int .u8 0, .int .u8 0, .int .u8 0, .int .u8 0, .int .u8 0, .int .u8 0, .int .u8 0, .int .u8 0, .int .u8 0, .int .u8 0, .int .u8 0, .int .u8 0, .int .u8 0, .int .u8 0, .int .u8 0, .int .u8 0, .int .u8 0, .int .i64 80, .int .u8 0, .int .u8 0, .int .u8 0, .int .u8 0, .int .u8 0, .int .u8 0, .int .u8 0, .int .u8 0, .int .u8 0, .int .u8 0, .int .u8 0, .int .u8 0, .int .u8 0, .int .u8 0, .int .u8 0, .int .u8 0, .int .u8 0, .int .u8 0, .int .u8 0, .int .u8 0, .int .u8 0, .int .u8 0, .int .u8 0, .int .u8 0, .int .u8 0, .int .u8 0, .int .u8 0, .int .u8 0, .int .u8 0, .int .u8 0, .int .u8 0, .int .u8 0] := by rfl
theorem hdr0_len : (coreB hdr0 [] ++ hdr0.cd).length = 125 := by
  have e1 : numB 1 = [1] := numB_small (by omega)
  have e0 : numB 0 = [0] := numB_small (by omega)
  have e80 : numB 80 = [80] := numB_small (by omega)
  simp [coreB, hdr0, e1, e0, e80, zeros]

theorem pack0_formed : formedC 2 ⟨#[120]⟩ [] ⟨#[]⟩ = true := by decide
theorem pack0_len : (packC 2 ⟨#[120]⟩ [] ⟨#[]⟩).length = 5 := by
  have e1 : numB 1 = [1] := numB_small (by omega)
  have e0 : numB 0 = [0] := numB_small (by omega)
  have e2 : numB 2 = [2] := numB_small (by omega)
  have s1 : (⟨#[120]⟩ : ByteArray).size = 1 := rfl
  have s0 : (⟨#[]⟩ : ByteArray).size = 0 := rfl
  simp [packC, textB, e0, e1, e2, s1, s0, sB_len]

theorem run_zero_of {P : Program} {t : TypeId} {v : Value} (h : (P.info? t).map (·.zero) = some (some v)) (W : World) : (zeroValue t).run P W = .ok v W := by
  cases hq : P.info? t with
  | none => simp [hq] at h
  | some i =>
    have hz : i.zero = some v := by simpa [hq] using h
    simp [zeroValue, typeInfo, hq, hz]

theorem hdr_zero (W : World) : (zeroValue 44).run Try.prog W = .ok (.agg #[.int .i64 0, .int .u64 0, .int .u8 0, .int .u8 0, .int .u8 0, .int .u8 0, .int .u8 0, .int .u8 0, .int .u8 0, .int .u8 0, .int .u8 0, .int .u8 0, .int .u8 0, .int .u8 0, .int .u8 0, .int .u8 0, .int .u8 0, .int .u8 0, .int .u8 0, .int .u8 0, .int .u8 0, .int .u8 0, .int .u8 0, .int .u8 0, .int .u8 0, .int .u8 0, .int .u8 0, .int .u8 0, .int .u8 0, .int .u8 0, .int .u8 0, .int .u8 0, .int .u8 0, .int .u8 0, .int .i64 0, .bool false, .int .u64 0, .int .u8 0, .int .u8 0, .int .u8 0, .int .u8 0, .int .u8 0, .int .u8 0, .int .u8 0, .int .u8 0, .int .u8 0, .int .u8 0, .int .u8 0, .int .u8 0, .int .u8 0, .int .u8 0, .int .u8 0, .int .u8 0, .slice none 0 0, .int .u64 0, .int .u64 0, .int .u64 0, .int .u64 0, .int .u64 0, .int .u64 0, .int .u8 0, .int .u8 0, .int .u8 0, .int .u8 0, .int .u8 0, .int .u8 0, .int .u8 0, .int .u8 0, .int .u8 0, .int .u8 0, .int .u8 0, .int .u8 0, .int .u8 0, .int .u8 0, .int .u8 0, .int .u8 0, .int .u8 0, .int .u8 0, .int .u8 0, .int .u8 0, .int .u8 0, .int .u8 0, .int .u8 0, .int .u8 0, .int .u8 0, .int .u8 0, .int .u8 0, .int .u8 0, .int .u8 0, .int .u8 0, .int .u8 0, .int .u8 0, .int .i64 0, .int .u8 0, .int .u8 0, .int .u8 0, .int .u8 0, .int .u8 0, .int .u8 0, .int .u8 0, .int .u8 0, .int .u8 0, .int .u8 0, .int .u8 0, .int .u8 0, .int .u8 0, .int .u8 0, .int .u8 0, .int .u8 0, .int .u8 0, .int .u8 0, .int .u8 0, .int .u8 0, .int .u8 0, .int .u8 0, .int .u8 0, .int .u8 0, .int .u8 0, .int .u8 0, .int .u8 0, .int .u8 0, .int .u8 0, .int .u8 0, .int .u8 0, .int .u8 0]) W :=
  run_zero_of (by kernel_rfl) W

set_option maxRecDepth 100000 in
set_option maxHeartbeats 1000000 in
theorem awake_any (w : World) : Calls Try.prog 6 #[] w fun e w' => e = .returned (.bool true) ∧ Below w.heap.size w w' := by
  have hby := fun W => bytes0_any hdr0 hdr0_ok W hdr0_formed rfl (by decide) (by decide) (by decide) (by decide) (by decide) (by decide) (by decide) (by decide) (by decide)
  have hpk := epack_yes 2 ⟨#[120]⟩ ⟨#[]⟩ none 0 0 [] w rfl (fun j hj => absurd hj (by simp)) pack0_formed
  have hl1 := hdr0_len
  have hl2 := pack0_len
  rw [hdr0_arr] at hby
  generalize coreB hdr0 [] ++ hdr0.cd = C at *
  generalize packC 2 ⟨#[120]⟩ [] ⟨#[]⟩ = D at *
  have HB := Lib.hid hby
  have HP := Lib.hid hpk
  clear hby hpk
  have hzv := hdr_zero
  go_enter Try.func6, Try.ntmps6
  go_wp2_with fail
  refine HP.out.mono ?_
  rintro e w1 ⟨A, c, rfl, own1, fr1, bel1⟩
  rw [hl2]
  go_wp2_with fail
  refine (HB.out _).mono ?_
  rintro e w2 ⟨A2, c2, rfl, own2, fr2, bel2⟩
  rw [hl1]
  go_wp2
  go_returns
  exact ⟨rfl, bel1.trans (bel2.mono bel1.size)⟩

end Go.Proofs.Ytdkadlifjmmcbaa
