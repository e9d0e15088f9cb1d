/- The entry that compares bytes, on slices. -/
import Derived.Test.YtdkadlifjmmcbaaHd
import Derived.Lib.Bytealg
import Derived.Lib.BytesEntry
import Derived.Laws.Externs
namespace Go.Proofs.Ytdkadlifjmmcbaa
open Go.RowKit

theorem run_bytesOf {P : Program} (w : World) (A : Option Addr) (n c : Nat) (l : List UInt8) (hl : l.length = n) (hr : RB w A l) : (Extern.Bytes.bytesOf (.slice A n c)).run P w = .ok ⟨l.toArray⟩ w := by
  subst hl
  cases A with
  | none =>
    cases l with
    | nil => rfl
    | cons x l =>
      obtain ⟨b, o, e, _⟩ := hr 0 (by simp)
      cases e
  | some a =>
    have h := Lib.run_loadBytesX (P := P) w (l.map fun x => (x.toNat : Int)) a .empty (fun j x hj => by
      simp only [List.getElem?_map, Option.map_eq_some_iff] at hj
      obtain ⟨y, hy, rfl⟩ := hj
      have hjl : j < l.length := (List.getElem?_eq_some_iff.1 hy).1
      obtain ⟨b, o, e, hc⟩ := hr j hjl
      cases e
      have hadd : (⟨b, o, none⟩ : Addr).add j = ⟨b, o + j, none⟩ := by unfold Addr.add; split <;> simp_all
      rw [hadd, hc]
      have := (List.getElem?_eq_some_iff.1 hy).2
      rw [this])
    have e : ∀ l : List UInt8, Lib.bytesOf (l.map fun x => (x.toNat : Int)) = l := fun l => by
      induction l with
      | nil => rfl
      | cons x l ih => simp_all [Lib.bytesOf]
    rw [e, List.length_map] at h
    have e2 : ByteArray.empty.data ++ l.toArray = l.toArray := by simp
    rw [e2] at h
    exact h

theorem run_cmp {P : Program} (w : World) (A A2 : Option Addr) (n c m c2 : Nat) (l l2 : List UInt8) (hl : l.length = n) (hr : RB w A l) (hl2 : l2.length = m) (hr2 : RB w A2 l2) :
    (Extern.BytealgCompare.compare #[.slice A n c, .slice A2 m c2]).run P w = .ok (.int .i64 (Lib.compareBytes l l2)) w := by
  change Sem.run P (do pure (goInt (Extern.BytealgCompare.cmp (← Extern.Bytes.bytesOf (.slice A n c)) (← Extern.Bytes.bytesOf (.slice A2 m c2))))) w = _
  simp only [Sem.run_bind, run_bytesOf w A n c l hl hr, run_bytesOf w A2 m c2 l2 hl2 hr2, Result.andThen_ok, Sem.run_pure]
  rw [Lib.cmp_eq]
  rfl

set_option maxRecDepth 100000 in
set_option maxHeartbeats 400000 in
theorem bcompare_any (w : World) (A A2 : Option Addr) (n c m c2 : Nat) (l l2 : List UInt8) (hl : l.length = n) (hr : RB w A l) (hl2 : l2.length = m) (hr2 : RB w A2 l2) :
    Calls Try.prog 54 #[.slice A n c, .slice A2 m c2] w fun e w' => e = .returned (.int .i64 (Lib.compareBytes l l2)) ∧ w = w' := by
  have hc := run_cmp (P := Try.prog) w A A2 n c m c2 l l2 hl hr hl2 hr2
  have hx := fun args W => run_callFunc_extern (P := Try.prog) Try.func55 (e := Extern.BytealgCompare.compare) (by kernel_rfl) (by kernel_rfl) (by kernel_rfl) (by kernel_rfl) args W
  have hcx := hx #[.slice A n c, .slice A2 m c2] w
  rw [hc, Result.andThen_ok] at hcx
  clear hx hc
  go_enter Try.func54, Try.ntmps54
  go_wp2
  go_returns
  exact ⟨rfl, rfl⟩

end Go.Proofs.Ytdkadlifjmmcbaa
