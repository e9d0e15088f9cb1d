/-
  No cell of these rows narrows 'for every input' (looked for: loops, veiled, ifaces, maps, wideKeys, modest, calm, conditions, laid).
  DERIVED. THE GIVEN ROWS OF THIS SEAT. 3 by the template 'for every input the law returns true; each argument reads behind the call as it read before'; 0 by the template 'total and deterministic' (their statements: YtdkadlifjmmcbaaTotals.lean).
  GIVEN WITH THE SEED: the statements are not yours to turn. If you find one false, say at which input.
  Laid BY PROGRAM, IN A SANDBOX (cutbox-rows.mjs): the forced cells as the released guide's own fill.sh prints them over the translation ddc4a8f27215e937… (all of the seat's roots in one cut). By AI agents, Wed Nov 11 2026. No macro, syntax, notation, axiom, sorry.
-/
import Derived.Test.YtdkadlifjmmcbaaChecked
import GoSem.Claim
import GoSem.ClaimJoined
import GoSem.ClaimMapViews
import Derived.JoinedTies
import Derived.KernelRfl
namespace Go.Proofs.Ytdkadlifjmmcbaa
/- THE CELL 'sum', in the pinned program and in every row, IS THE sha256 OF THE DUMP (.gsa) THAT YtdkadlifjmmcbaaProg.lean LOADS. Nothing in Lean hashes anything: it is a label: what it is worth is what the hold of that sum in a sandbox is worth. -/
noncomputable def Try.pinned : Pinned := { name := "ytdkadlifjmmcbaa", sum := "ddc4a8f27215e937b8ddc72bbfdfa17f78b9edff686f7dde9846d82e459f0452", checked := Try.checked }
namespace Rows
def none {H : Type} : Left H := { results := [], args := [] }

/-- 'jalousielaw12.EntryChanges': WHATEVER THE INPUT: true; the input reads as it did. -/
def entryChangesSpec : ChangeSpec := { name := "entryChanges", fn := fun _ => fun
  | [d] => { results := [.lit (.bool true)], args := [d] }
  | _ => none }
def entryChangesRow : OpenClaim := { program := "ytdkadlifjmmcbaa", sum := "ddc4a8f27215e937b8ddc72bbfdfa17f78b9edff686f7dde9846d82e459f0452", func := "jalousie/jalousielaw12.EntryChanges", spec := "entryChanges", inPlace := ["internal/bytealg.Compare"], apart := false }
def EntryChangesSaid : Prop := entryChangesRow.holds Try.pinned (OpenSpec.ofChange entryChangesSpec)

/-- ITS FALSE NEIGHBOUR: 'it returns false'. Refute it at one input. -/
def entryChangesWrong : ChangeSpec := { name := "entryChanges", fn := fun _ => fun
  | [d] => { results := [.lit (.bool false)], args := [d] }
  | _ => none }
def EntryChangesWrongFalsely : Prop := entryChangesRow.holds Try.pinned (OpenSpec.ofChange entryChangesWrong)

/-- 'jalousielaw12.EntryTexts': WHATEVER THE INPUT: true; the input reads as it did. -/
def entryTextsSpec : ChangeSpec := { name := "entryTexts", fn := fun _ => fun
  | [d] => { results := [.lit (.bool true)], args := [d] }
  | _ => none }
def entryTextsRow : OpenClaim := { program := "ytdkadlifjmmcbaa", sum := "ddc4a8f27215e937b8ddc72bbfdfa17f78b9edff686f7dde9846d82e459f0452", func := "jalousie/jalousielaw12.EntryTexts", spec := "entryTexts", inPlace := ["internal/bytealg.Compare"], apart := false }
def EntryTextsSaid : Prop := entryTextsRow.holds Try.pinned (OpenSpec.ofChange entryTextsSpec)

/-- ITS FALSE NEIGHBOUR: 'it returns false'. Refute it at one input. -/
def entryTextsWrong : ChangeSpec := { name := "entryTexts", fn := fun _ => fun
  | [d] => { results := [.lit (.bool false)], args := [d] }
  | _ => none }
def EntryTextsWrongFalsely : Prop := entryTextsRow.holds Try.pinned (OpenSpec.ofChange entryTextsWrong)

/-- 'jalousielaw12.EntryParses': WHATEVER THE INPUT: true; the input reads as it did. -/
def entryParsesSpec : ChangeSpec := { name := "entryParses", fn := fun _ => fun
  | [d] => { results := [.lit (.bool true)], args := [d] }
  | _ => none }
def entryParsesRow : OpenClaim := { program := "ytdkadlifjmmcbaa", sum := "ddc4a8f27215e937b8ddc72bbfdfa17f78b9edff686f7dde9846d82e459f0452", func := "jalousie/jalousielaw12.EntryParses", spec := "entryParses", inPlace := ["internal/bytealg.Compare"], unfollowed := true, recurses := true, apart := false }
def EntryParsesSaid : Prop := entryParsesRow.holds Try.pinned (OpenSpec.ofChange entryParsesSpec)

/-- ITS FALSE NEIGHBOUR: 'it returns false'. Refute it at one input. -/
def entryParsesWrong : ChangeSpec := { name := "entryParses", fn := fun _ => fun
  | [d] => { results := [.lit (.bool false)], args := [d] }
  | _ => none }
def EntryParsesWrongFalsely : Prop := entryParsesRow.holds Try.pinned (OpenSpec.ofChange entryParsesWrong)

/- THE SECOND FORM. 'bulk': how many values and letters a reading holds, each counted each time it is reached (what is shared counts as often as it is met; a slice's spare places count too). A statement '..UptoSaid' is the law's where the arguments, and the package variables that the reading takes, are together of bulk at most 1048576: NARROWER than '..Said'. Prove '..Said' where nothing that the law and all that it calls make is longer than what came in: it says more and counts as full. Else prove '..UptoSaid'. A law counts once. -/
mutual
def uptoBulk {H : Type} : DataW H → Nat
  | .lit (.string bytes) => bytes.length + 1
  | .lit _ => 1
  | .nil => 1
  | .ptr d => uptoBulk d + 1
  | .slice elems spare => uptoBulkAll elems + uptoBulkAll spare + 1
  | .agg parts => uptoBulkAll parts + 1
  | .iface _ d => uptoBulk d + 1
  | .map entries => uptoBulkEntries entries + 1
  | .held _ => 1
def uptoBulkAll {H : Type} : List (DataW H) → Nat
  | [] => 0
  | d :: r => uptoBulk d + uptoBulkAll r
def uptoBulkEntries {H : Type} : List (Lit × DataW H) → Nat
  | [] => 0
  | x :: r => uptoBulkEntry x + uptoBulkEntries r
def uptoBulkEntry {H : Type} : Lit × DataW H → Nat
  | (.string bytes, d) => bytes.length + uptoBulk d + 1
  | (_, d) => uptoBulk d + 1
 end
def uptoSmall : (H : Type) → List (DataW H) → Bool := fun _ ds => decide (uptoBulkAll ds ≤ 1048576)
def OpenSpec.upto (s : _root_.Go.ChangeSpec) : _root_.Go.OpenSpec := { _root_.Go.OpenSpec.ofChange s with cond := some uptoSmall }

/-- 'jalousielaw12.EntryChanges', WHERE WHAT IT READS IS OF BULK AT MOST 1048576: true; the input reads as it did. -/
def entryChangesUptoRow : OpenClaim := { program := "ytdkadlifjmmcbaa", sum := "ddc4a8f27215e937b8ddc72bbfdfa17f78b9edff686f7dde9846d82e459f0452", func := "jalousie/jalousielaw12.EntryChanges", spec := "entryChanges", inPlace := ["internal/bytealg.Compare"], apart := false, narrowed := true }
def EntryChangesUptoSaid : Prop := entryChangesUptoRow.holds Try.pinned (OpenSpec.upto entryChangesSpec)

/-- 'jalousielaw12.EntryTexts', WHERE WHAT IT READS IS OF BULK AT MOST 1048576: true; the input reads as it did. -/
def entryTextsUptoRow : OpenClaim := { program := "ytdkadlifjmmcbaa", sum := "ddc4a8f27215e937b8ddc72bbfdfa17f78b9edff686f7dde9846d82e459f0452", func := "jalousie/jalousielaw12.EntryTexts", spec := "entryTexts", inPlace := ["internal/bytealg.Compare"], apart := false, narrowed := true }
def EntryTextsUptoSaid : Prop := entryTextsUptoRow.holds Try.pinned (OpenSpec.upto entryTextsSpec)

/-- 'jalousielaw12.EntryParses', WHERE WHAT IT READS IS OF BULK AT MOST 1048576: true; the input reads as it did. -/
def entryParsesUptoRow : OpenClaim := { program := "ytdkadlifjmmcbaa", sum := "ddc4a8f27215e937b8ddc72bbfdfa17f78b9edff686f7dde9846d82e459f0452", func := "jalousie/jalousielaw12.EntryParses", spec := "entryParses", inPlace := ["internal/bytealg.Compare"], unfollowed := true, recurses := true, apart := false, narrowed := true }
def EntryParsesUptoSaid : Prop := entryParsesUptoRow.holds Try.pinned (OpenSpec.upto entryParsesSpec)

end Rows
end Go.Proofs.Ytdkadlifjmmcbaa
