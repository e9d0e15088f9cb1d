/- Strings and bytes: the two conversions. -/
import Derived.Test.YtdkadlifjmmcbaaDoorPo2
import Derived.Test.YtdkadlifjmmcbaaDoorChm
import Derived.Lib.ConvBytes
import Derived.Laws.IdiomStrings
namespace Go.Proofs.YtdkadlifjmmcbaaDoor
open Go.RowKit

/-- the string of some bytes -/
def mkS (l : List UInt8) : ByteArray := ⟨l.toArray⟩
theorem sB_mkS (l : List UInt8) : sB (mkS l) = l := by simp [sB, mkS]
theorem mkS_sB (s : ByteArray) : mkS (sB s) = s := by simp [sB, mkS]
theorem mkS_size (l : List UInt8) : (mkS l).size = l.length := by rw [← sB_len, sB_mkS]
theorem sB_toList (s : ByteArray) : s.toList = sB s := ByteArray.toList_eq s
theorem sB_inj {a b : ByteArray} (h : sB a = sB b) : a = b := by rw [← mkS_sB a, h, mkS_sB]

theorem conv_sb (w : World) (s : ByteArray) : (convert 9 31 (.string s)).run Tryd.prog w = .ok (.slice (some ⟨w.heap.size, 0, none⟩) s.size (grownCap w s.size 0 5)) (Lib.bytesWorld w 5 s) :=
  Lib.run_convert_string_bytes w _ _ _ s Tryd.underlying9 Tryd.underlying31 Tryd.underlying5
theorem bw_size (w : World) (s : ByteArray) : (Lib.bytesWorld w 5 s).heap.size = w.heap.size + 1 := Lib.bytesWorld_size w _ s
attribute [go_sem] conv_sb
attribute [go_sem, simp] bw_size

theorem bw_rb (w : World) (s : ByteArray) : RB (Lib.bytesWorld w 5 s) (some ⟨w.heap.size, 0, none⟩) (sB s) := by
  intro j hj
  refine ⟨_, _, rfl, ?_⟩
  have hj' : j < s.size := by rw [← sB_len]; exact hj
  have : s.data.toList[j]? = some (sB s)[j] := List.getElem?_eq_getElem hj
  rw [Nat.zero_add, Lib.bytesWorld_cell w _ s j hj', List.getD, this]
  rfl
theorem bw_below (w : World) (s : ByteArray) : Below w.heap.size w (Lib.bytesWorld w 5 s) := by
  refine ⟨?_, ?_, ?_, by simp, fun k hk => Lib.bytesWorld_at_old w _ s k hk⟩
  all_goals
    unfold Lib.bytesWorld World.freeze
    rw [if_neg (by decide)]
    rfl

theorem conv_bs (w : World) (A : Option Addr) (n c : Nat) (l : List UInt8) (hl : l.length = n) (hr : RB w A l) : (convert 31 9 (.slice A n c)).run Tryd.prog w = .ok (.string (mkS l)) w := by
  subst hl
  cases A with
  | none =>
    have h0 : l = [] := by
      cases l with
      | nil => rfl
      | cons x l =>
        obtain ⟨b, o, e, _⟩ := hr 0 (by simp)
        cases e
    subst h0
    exact run_convert_bytes_nil w _ _ Tryd.underlying31 Tryd.underlying5 _ _ _ Tryd.underlying9
  | some a =>
    refine run_convert_bytes_back w _ _ _ a c l Tryd.underlying31 Tryd.underlying5 Tryd.underlying9 fun j hj => ?_
    obtain ⟨b, o, e, hc⟩ := hr j hj
    injection e with e
    subst e
    have hadd : (⟨b, o, none⟩ : Addr).add j = ⟨b, o + j, none⟩ := by unfold Addr.add; split <;> simp_all
    rw [hadd, hc]

end Go.Proofs.YtdkadlifjmmcbaaDoor
