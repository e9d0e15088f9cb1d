/- Proved: the Go function jalousielaw12.EntryChanges returns true for every change, does not panic and leaves its argument as it was. Conditions: those that the row itself prints; none besides. (The frame of this text follows the one that the kit's program writes; the walk and the laws beneath it are this claim's own.) -/
import Derived.Test.YtdkadlifjmmcbaaRows
import Derived.WalkKit
import Derived.ProofKit
import Derived.OpenShut
import Derived.ShutString
import Derived.ChangeOld
import Derived.Below
import Derived.Lib.SmallJoins
import Derived.SliceStrings
import Derived.Test.YtdkadlifjmmcbaaTc
namespace Go.Proofs.Ytdkadlifjmmcbaa.entryChanges
open Go.ChangeShapes Go.WideShapes Go.ChangeAt Go.RowKit
open Go.ChangeMaps (open_string shut_string)
open Go.Joins
set_option linter.unusedVariables false

theorem own : ownKnob Try.prog.godebug = none := by kernel_rfl
theorem laidOut : laidOutB Try.prog = true := by kernel_rfl

theorem cells24 : Try.prog.cellsOf 24 = 4 := by kernel_rfl
theorem cells9 : Try.prog.cellsOf 9 = 1 := by kernel_rfl

theorem slice_rs {W : World} {x : Addr} {len cap : Nat} {ss : List ByteArray} (hl : len ≤ cap) (hs : ss.length = cap) (hc : ∀ i, i < ss.length → W.cell? (x.add i) = some (.string (ss.getD i ByteArray.empty))) :
    (ss.take len).length = len ∧ RS W (some x) (ss.take len) := by
  have hlen : (ss.take len).length = len := by simp; omega
  refine ⟨hlen, fun j hj => ?_⟩
  have hj' : j < ss.length := by omega
  obtain ⟨bb, o, sp⟩ := x
  have hsp : sp = none := by
    have h0 := hc 0 (by omega)
    unfold World.cell? Addr.add at h0
    cases sp with
    | none => rfl
    | some y =>
      simp at h0
      split at h0 <;> simp at h0
  subst hsp
  refine ⟨bb, o, rfl, ?_⟩
  have h1 := hc j hj'
  have hadd : (⟨bb, o, none⟩ : Addr).add j = ⟨bb, o + j, none⟩ := by unfold Addr.add; split <;> simp_all
  rw [hadd] at h1
  rw [h1]
  simp [hj']

/-! ### THE ROW's STEP: WRITTEN OUT: LEAVE IT -/
set_option maxRecDepth 100000 in
theorem lifted (os : Os) (started : os.Started) (H : Type) (enc : TypeId × Value → H) :
    ReturnsInHanded {} Try.checked os 3 .any (Rows.entryChangesSpec.pre6 enc Try.prog Try.f3 Rows.entryChangesRow.domain false) (Rows.entryChangesSpec.post enc Try.prog Try.f3 false true false false) := by
  refine returnsInHanded_of_change (C := Try.checked) own started (by kernel_rfl) Try.func3
    (ChangeSpec.witness6 (enc := enc) (C := Try.checked) false ⟨#[], #[.agg #[.int .i64 0, .string ⟨#[]⟩, .slice none 0 0, .string ⟨#[]⟩]], []⟩ 8 (by kernel_rfl) (by kernel_rfl) (by kernel_rfl) (by kernel_rfl)) ?_
  intro W base args ds gs before hval0 hW hcnd _
  have hval : ∀ (j : Nat) t v, Try.f3.params[j]? = some t → args[j]? = some v → Value.okWide Try.prog W .any base t v := hval0
  have hW' := hW
  obtain ⟨p, q, hA0, hV, rfl, hfz, hnd⟩ := hW
  have hA : DataW.TrodAll enc Try.prog W 0 (fun _ => true) true Try.f3.params.toList args.toList ds p := hA0
  rw [Try.params3] at hA hval
  obtain ⟨v0, vs0, d0, ds0, p0, q0, hargs, rfl, rfl, h0, r0⟩ := trodAll_cons hA
  obtain ⟨rfl, rfl, rfl⟩ := trodAll_nil r0
  obtain rfl : args = #[v0] := by cases args; simp_all
  obtain ⟨rfl, rfl⟩ := trodVars_none hV
  have k0 := h0
  have lt0 : ∀ x ∈ p0, x.block < W.heap.size := by obtain ⟨m, hm⟩ := k0; exact DataW.trod_lt m _ _ _ hm
  obtain ⟨c0, c1, c2, c3, y0, y1, y2, y3, m, rfl, rfl, rfl, hy0, hy1, hy2, hy3⟩ := open_agg4 Try.underlying24 (by kernel_rfl) cells24 (hval 0 24 v0 rfl rfl) h0
  obtain ⟨op, e0, rfl, _⟩ := DataW.trod_int Try.underlying3 hy0
  obtain ⟨name, e1, rfl, _⟩ := DataW.trod_string Try.underlying9 hy1
  obtain ⟨val, e3, rfl, _⟩ := DataW.trod_string Try.underlying9 hy3
  simp at e0 e1 e3
  subst e0 e1 e3
  obtain ⟨A, n, c, l, rfl, hl, hr⟩ : ∃ A n c l, c2 = .slice A n c ∧ l.length = n ∧ RS W A l := by
    rcases open_strings Try.underlying22 Try.underlying9 cells9 hy2 with ⟨hcs, _⟩ | ⟨x, len, cap, ss, hcs, _, hl, hm, hs, _, hc, _⟩
    · simp at hcs
      exact ⟨none, 0, 0, [], hcs, rfl, fun j hj => absurd hj (by simp)⟩
    · simp at hcs
      obtain ⟨h1, h2⟩ := slice_rs (W := W) hl (by simpa using hs) hc
      exact ⟨_, _, _, _, hcs, h1, h2⟩
  clear hA0 hval0
  refine (changes_any op name val A n c l W hl hr).mono fun e W' ⟨he, bel⟩ => ?_
  subst he
  exact ⟨_, rfl, _, _, _, [], _, [], hW', trodAll_mk1 (shut_bool Try.underlying4 _), (trodAll_cons_mk (Below.trod laidOut (by kernel_rfl) (of_decide_eq_true (by kernel_rfl)) k0 bel lt0) trodAll_mk0), rfl, bel.frame _, fun h => by cases h⟩

theorem over : Rows.entryChangesRow.holds Try.pinned (OpenSpec.ofChange Rows.entryChangesSpec) :=
  OpenClaim.holds_of_wide 3 Try.f3 rfl rfl rfl rfl rfl rfl rfl ⟨rfl, rfl, rfl, rfl, rfl⟩ rfl rfl rfl rfl rfl (by kernel_rfl) Try.func3 (by kernel_rfl)
    (of_decide_eq_true (by kernel_rfl)) (by unfold Func.isWrapper; first | (rw [if_pos (by decide +kernel)]; kernel_rfl) | (rw [if_neg (by decide +kernel)]; exact ⟨rfl, rfl⟩))
    (fun os started H enc _ => lifted os started H enc)

/-- ████ THE STATEMENT ████ -/
theorem proved : Rows.EntryChangesSaid := over
#print axioms proved
end Go.Proofs.Ytdkadlifjmmcbaa.entryChanges
