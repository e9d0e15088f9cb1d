/- Proved: the tied card of the Go function jalousielaw16.ControlKeys: it returns true for every seed of 32 bytes and every two numbers, does not panic and leaves its arguments as they were. Conditions: those that the row and the card themselves print (the variables jalousie/jalousieref01.words and jalousie/hash.rounds are laid as the program's text lays them); none besides. (The frame of this text was written by the kit's program; the walk and the laws beneath it are this claim's own.) -/
import Derived.Test.YtdkadlifjmmcbaaDoorRows
import Derived.Test.YtdkadlifjmmcbaaDoorTie
import Derived.Test.YtdkadlifjmmcbaaDoorCards
import Derived.WalkKit
import Derived.ProofKit
import Derived.OpenShut
import Derived.ShutString
import Derived.ChangeOld
import Derived.Below
import Derived.LaidMore
import Derived.SevenTiedAt
import Derived.Lib.SmallJoins
import Derived.Lib.LaidTab
import Derived.Stop.LaidErr
import Derived.Test.YtdkadlifjmmcbaaDoorKkf
namespace Go.Proofs.YtdkadlifjmmcbaaDoor.controlKeys
open Go.ChangeShapes Go.WideShapes Go.ChangeAt Go.RowKit
open Go.ChangeMaps (open_string shut_string)
set_option linter.unusedVariables false

theorem own : ownKnob Tryd.prog.godebug = none := by kernel_rfl
theorem laidOut : laidOutB Tryd.prog = true := by kernel_rfl

/-- SHA-256's words as numbers -/
def zsK : List Int := [1116352408, 1899447441, 3049323471, 3921009573, 961987163, 1508970993, 2453635748, 2870763221, 3624381080, 310598401, 607225278, 1426881987, 1925078388, 2162078206, 2614888103, 3248222580, 3835390401, 4022224774, 264347078, 604807628, 770255983, 1249150122, 1555081692, 1996064986, 2554220882, 2821834349, 2952996808, 3210313671, 3336571891, 3584528711, 113926993, 338241895, 666307205, 773529912, 1294757372, 1396182291, 1695183700, 1986661051, 2177026350, 2456956037, 2730485921, 2820302411, 3259730800, 3345764771, 3516065817, 3600352804, 4094571909, 275423344, 430227734, 506948616, 659060556, 883997877, 958139571, 1322822218, 1537002063, 1747873779, 1955562222, 2024104815, 2227730452, 2361852424, 2428436474, 2756734187, 3204031479, 3329325298]
theorem zsK_get : ∀ j, j < 64 → zsK.getD j 0 = (wN (shaK.getD j 0) : Int) := by
  have h : (List.range 64).all (fun j => zsK.getD j 0 == (wN (shaK.getD j 0) : Int)) = true := by kernel_rfl
  intro j hj
  have := List.all_eq_true.1 h j (List.mem_range.2 hj)
  simpa using this

theorem cells23 : Tryd.prog.cellsOf 23 = 32 := by kernel_rfl
theorem cells5 : Tryd.prog.cellsOf 5 = 1 := by kernel_rfl

theorem bytes_of {cs : List Value} (h : ∀ i, i < cs.length → ∃ n : Int, cs[i]? = some (.int .u8 n) ∧ (Lit.int .u8 n).wf = true) : ∃ l : List UInt8, l.length = cs.length ∧ cs = bytesL l := by
  induction cs with
  | nil => exact ⟨[], rfl, rfl⟩
  | cons c cs ih =>
    obtain ⟨n, hn, hw⟩ := h 0 (by simp)
    obtain ⟨l, hl, e⟩ := ih (fun i hi => by
      have := h (i + 1) (by simp; omega)
      simpa using this)
    simp only [List.getElem?_cons_zero, Option.some.injEq] at hn
    refine ⟨UInt8.ofNat n.toNat :: l, by simp [hl], ?_⟩
    simp [Lit.wf, IntKind.min, IntKind.max, IntKind.signed, IntKind.bits] at hw
    show c :: cs = .int .u8 ((UInt8.ofNat n.toNat).toNat : Int) :: bytesL l
    rw [hn, ← e, UInt8.toNat_ofNat']
    congr 2
    omega

set_option maxRecDepth 100000 in
/-- an array of 32 bytes that came in, opened -/
theorem open_hash {H : Type} {enc : TypeId × Value → H} {W : World} {base b0 : Nat} {held : Bool} {r : Reach} {v : Value} {d : DataW H} {p : List MemPlace} (hv : Value.okWide Tryd.prog W r b0 23 v) (h : DataW.Trod enc Tryd.prog W base (fun _ => true) held 23 v d p) :
    ∃ l : List UInt8, l.length = 32 ∧ v = .agg (bytesL l).toArray := by
  have hv2 : ∃ cs : Array Value, v = .agg cs ∧ cs.size = Tryd.prog.cellsOf 23 := by
    simp only [Value.okWide, Tryd.underlying23] at hv
    obtain ⟨cs, h1, h2, _⟩ := hv
    exact ⟨cs, h1, h2⟩
  obtain ⟨cs, rfl, hsz⟩ := hv2
  obtain ⟨fuel, hf⟩ := h
  obtain ⟨xs, m, _, _, _, hxl, hel⟩ := DataW.trod_array Tryd.underlying23 hf
  rw [cells23] at hsz
  simp only [cells5] at hel
  obtain ⟨cl⟩ := cs
  have hcl : cl.length = 32 := by simpa using hsz
  obtain ⟨l, hl, e⟩ := bytes_of (cs := cl) (fun i hi => by
    have hi32 : i < 32 := by omega
    have hq := hel i hi32
    rw [List.getElem?_eq_getElem (by omega)] at hq
    obtain ⟨n, hn, _, hw⟩ := DataW.trod_int Tryd.underlying5 hq
    refine ⟨n, ?_, hw⟩
    have h2 : (cl.drop i).take 1 = [.int .u8 n] := by simpa [Value.cells] using hn
    have h3 : ((cl.drop i).take 1)[0]? = some (.int .u8 n) := by rw [h2]; rfl
    simpa [List.getElem?_take, List.getElem?_drop] using h3)
  exact ⟨l, by rw [hl, hcl], by rw [e]⟩

/-- what the row lists -/
def laid1 : List (String × DataW Unit) := [("jalousie/jalousieref01.words", Rows.laid_jalousie_jalousieref01_words), ("jalousie/hash.rounds", Rows.laid_jalousie_hash_rounds)]

/-- The door's own heap meets the condition: three closed facts. -/
theorem door_met (os : Os) (args : Array Value) : laidMetH Tryd.prog laid1 ((World.doorLaid Tryd.prog 19 os).forCall (fun _ _ => 0) ⟨#[], args, []⟩).memory :=
  laidMetH_of_parts3 (fuel := 8) (laidMet_of_run' 8 (by kernel_rfl) (by kernel_rfl)) (by kernel_rfl) (by kernel_rfl)

theorem tabs {W : World} (h : laidMetH Tryd.prog laid1 W) : RTabOK W ∧ TabOK W := by
  have h2 : laidMet Tryd.prog laid1 W := h
  have e1 : laid1 = ("jalousie/jalousieref01.words", Lib.tabData .u32 zsK) :: [("jalousie/hash.rounds", Lib.tabData .u32 zsK)] := rfl
  rw [e1] at h2
  have t1 := Lib.tabIs_of_head (g := 0) (t := 82) (e := 80) (n := 64) (by kernel_rfl) (by kernel_rfl) Tryd.underlying82 Tryd.underlying80 (by kernel_rfl) (by kernel_rfl) h2
  have t2 := Lib.tabIs_of_head (g := 1) (t := 82) (e := 80) (n := 64) (by kernel_rfl) (by kernel_rfl) Tryd.underlying82 Tryd.underlying80 (by kernel_rfl) (by kernel_rfl) h2.tail
  refine ⟨fun j hj => ?_, fun j hj => ?_⟩
  · rw [t1.cell (by kernel_rfl) j hj, zsK_get j hj]
  · rw [t2.cell (by kernel_rfl) j hj, zsK_get j hj]

set_option maxRecDepth 100000 in
theorem lifted (os : Os) (started : os.Started) (H : Type) (enc : TypeId × Value → H) :
    ReturnsInHanded {} Tryd.checked os 3 .any (fun w args => (Rows.controlKeysSpec.pre enc Tryd.prog Tryd.f3 [] false w args ∧ laidMetH Tryd.prog laid1 w) ∧ sizedMet enc Tryd.prog Tryd.f3 (OpenSpec.ofChange Rows.controlKeysSpec) false w args)
      (Rows.controlKeysSpec.post enc Tryd.prog Tryd.f3 false true false false) := by
  refine returnsInHanded_of_change_and (C := Tryd.checked) (X := fun w _ => laidMetH Tryd.prog laid1 w) (fun _ _ _ hh h => h.of_heap hh) own started (by kernel_rfl) Tryd.func3
    (ChangeSpec.witness_shaped (enc := enc) (C := Tryd.checked) (os := os) (X := fun w _ => laidMetH Tryd.prog laid1 w) false (World.doorLaid Tryd.prog 19 os) #[.agg #[.int .u8 0, .int .u8 0, .int .u8 0, .int .u8 0, .int .u8 0, .int .u8 0, .int .u8 0, .int .u8 0, .int .u8 0, .int .u8 0, .int .u8 0, .int .u8 0, .int .u8 0, .int .u8 0, .int .u8 0, .int .u8 0, .int .u8 0, .int .u8 0, .int .u8 0, .int .u8 0, .int .u8 0, .int .u8 0, .int .u8 0, .int .u8 0, .int .u8 0, .int .u8 0, .int .u8 0, .int .u8 0, .int .u8 0, .int .u8 0, .int .u8 0, .int .u8 0], .int .i64 0, .int .i64 0] 8 rfl (World.shaped_of_RefB (by kernel_rfl) (by kernel_rfl)) (by kernel_rfl) (by kernel_rfl) (by kernel_rfl) (door_met os _)) ?_
  intro W base args ds gs before hval0 hW _ _ hL _
  have hval : ∀ (j : Nat) t v, Tryd.f3.params[j]? = some t → args[j]? = some v → Value.okWide Tryd.prog W .any base t v := hval0
  have hW' := hW
  obtain ⟨p, q, hA0, hV, rfl, hfz, hnd⟩ := hW
  have hA : DataW.TrodAll enc Tryd.prog W 0 (fun _ => true) true Tryd.f3.params.toList args.toList ds p := hA0
  rw [Tryd.params3] at hA hval
  obtain ⟨v0, vs0, d0, ds0, p0, q0, hargs, rfl, rfl, h0, r0⟩ := trodAll_cons hA
  obtain ⟨v1, vs1, d1, ds1, p1, q1, hargs1, rfl, rfl, h1, r1⟩ := trodAll_cons r0
  obtain ⟨v2, vs2, d2, ds2, p2, q2, hargs2, rfl, rfl, h2, r2⟩ := trodAll_cons r1
  obtain ⟨rfl, rfl, rfl⟩ := trodAll_nil r2
  obtain rfl : args = #[v0, v1, v2] := by cases args; simp_all
  obtain ⟨rfl, rfl⟩ := trodVars_none hV
  have k0 := h0
  have k1 := h1
  have k2 := h2
  have lt0 : ∀ x ∈ p0, x.block < W.heap.size := by obtain ⟨m, hm⟩ := k0; exact DataW.trod_lt m _ _ _ hm
  have lt1 : ∀ x ∈ p1, x.block < W.heap.size := by obtain ⟨m, hm⟩ := k1; exact DataW.trod_lt m _ _ _ hm
  have lt2 : ∀ x ∈ p2, x.block < W.heap.size := by obtain ⟨m, hm⟩ := k2; exact DataW.trod_lt m _ _ _ hm
  obtain ⟨l, hl, rfl⟩ := open_hash (hval 0 23 v0 rfl rfl) h0
  obtain ⟨a, rfl⟩ := okWide_int Tryd.underlying3 (hval 1 3 v1 rfl rfl)
  obtain ⟨b, rfl⟩ := okWide_int Tryd.underlying3 (hval 2 3 v2 rfl rfl)
  clear hA0 hval0
  refine (ckeys_any l a b W hl (tabs hL).2 (tabs hL).1).mono fun e W' ⟨he, bel⟩ => ?_
  subst he
  exact ⟨_, rfl, _, _, _, [], _, [], hW', trodAll_mk1 (shut_bool Tryd.underlying4 _), (trodAll_cons_mk (Below.trod laidOut (by kernel_rfl) (of_decide_eq_true (by kernel_rfl)) k0 bel lt0) (trodAll_cons_mk (Below.trod laidOut (by kernel_rfl) (of_decide_eq_true (by kernel_rfl)) k1 bel lt1) (trodAll_cons_mk (Below.trod laidOut (by kernel_rfl) (of_decide_eq_true (by kernel_rfl)) k2 bel lt2) trodAll_mk0))), rfl, bel.frame _, fun h => by cases h⟩

theorem over : Rows.ControlKeysSaid :=
  OpenClaim.holds_of_wide 3 Tryd.f3 rfl rfl rfl rfl rfl rfl rfl ⟨rfl, rfl, rfl, rfl, rfl⟩ rfl rfl rfl rfl rfl (by kernel_rfl) Tryd.func3 (by kernel_rfl)
    (of_decide_eq_true (by kernel_rfl)) (by unfold Func.isWrapper; first | (rw [if_pos (by decide +kernel)]; kernel_rfl) | (rw [if_neg (by decide +kernel)]; exact ⟨rfl, rfl⟩))
    (fun os started H enc _ => lifted os started H enc)

/-- ████ THE TIED CARD ████ -/
theorem proved : Rows.ControlKeysCardSaid :=
  Claim7.holds_tied_plain_at .later [] [.data, .data] true (true, "1df87dbecfdf8e7b1d4129916a54515ed5406b1c40d818b6cdc47c06cf5d3afa") false
    over (fun _ h => by cases h) (by kernel_rfl) (fun _ h => by cases h) controlKeys_row_tie rfl ⟨rfl, rfl⟩ (by kernel_rfl) rfl
    (fun f fn hf hfn => by
      obtain rfl : f = 3 := Option.some.inj ((show Tryd.prog.funcNamed "jalousie/jalousielaw16.ControlKeys" = some 3 by kernel_rfl).symm.trans hf) |>.symm
      obtain rfl : fn = Tryd.f3 := (Option.some.inj (Tryd.func3.symm.trans hfn)).symm
      exact ⟨by kernel_rfl, fun j t ht => by
        rw [Tryd.params3] at ht
        have hm : t ∈ [23, 3, 3] := by simpa using Array.mem_of_getElem? ht
        have hall : ([23, 3, 3].all fun u => !Tryd.prog.wantsStandIn u) = true := by kernel_rfl
        exact (show Tryd.prog.wantsStandIn t = false by simpa using List.all_eq_true.1 hall t hm)⟩)
    (by kernel_rfl)
#print axioms proved
end Go.Proofs.YtdkadlifjmmcbaaDoor.controlKeys
