/- The walks of changes: name, tags, FormedChange, both the program's and the reference's. -/
import Derived.Test.YtdkadlifjmmcbaaPi3
import Derived.Test.YtdkadlifjmmcbaaChm
namespace Go.Proofs.Ytdkadlifjmmcbaa
open Go.RowKit

/-- the slice that begins at A reads as these strings -/
def RS (w : World) (A : Option Addr) (l : List ByteArray) : Prop :=
  ∀ j (h : j < l.length), ∃ b o, A = some ⟨b, o, none⟩ ∧ w.cell? ⟨b, o + j, none⟩ = some (.string l[j])

set_option maxRecDepth 100000 in
set_option maxHeartbeats 400000 in
theorem ename_any (s : ByteArray) (w : World) (_hs : s.size ≤ 140737488355328) : Calls Try.prog 22 #[.string s] w fun e w' => e = .returned (.bool (nameB s)) ∧ w = w' := by
  go_enter Try.func22, Try.ntmps22
  by_cases h : 1 ≤ s.size
  · go_wp2
    go_ret
    exact ⟨ret_bool (by simp [nameB, h]; omega), rfl⟩
  · go_wp2
    go_ret
    exact ⟨ret_bool (by simp [nameB, h]; try omega), rfl⟩

set_option maxRecDepth 100000 in
set_option maxHeartbeats 400000 in
theorem etags_any (A : Option Addr) (n c : Nat) (l : List ByteArray) (w : World) (hl : l.length = n) (hr : RS w A l) (hb : n ≤ 140737488355328) (hs : ∀ s ∈ l, s.size ≤ 140737488355328) :
    Calls Try.prog 23 #[.slice A n c] w fun e w' => e = .returned (.bool (tagsB l && decide (l.length ≤ 8))) ∧ w = w' := by
  subst hl
  go_enter Try.func23, Try.ntmps23
  go_wp2
  go_loop [7] (fun i => ∃ k : Nat, k ≤ l.length ∧ i = .int .i64 k ∧ ∀ i, i < k → tagOK l i = true) (fun i => l.length - (intOf i).toNat)
  case atStart => exact ⟨0, Nat.zero_le _, rfl, fun i hi => by omega⟩
  case round =>
    obtain ⟨k, hk, rfl, hok⟩ := hrel
    have HOK := Lib.hid hok
    clear hok
    by_cases hlt : k < l.length
    · obtain ⟨b, o, rfl, hcx⟩ := hr k hlt
      have hsz := hs _ (List.getElem_mem hlt)
      have hno : tagOK l k = false → (tagsB l && decide (l.length ≤ 8)) = false := fun h => by rw [tagsB_false hlt h]; rfl
      have hyes : tagOK l k = true → ∀ i, i < k + 1 → tagOK l i = true := fun h i hi => by
        rcases Nat.lt_or_ge i k with h1 | h1
        · exact HOK.out i h1
        · obtain rfl : i = k := by omega
          exact h
      have HN := Lib.hid hno
      have HY := Lib.hid hyes
      clear hno hyes
      rcases k with _ | k
      · have e := tagOK_zero hlt
        have HE := Lib.hid e
        clear hr hs e
        simp only [Nat.add_zero] at hcx
        cases hnm : nameB l[0]
        all_goals
          go_wp2_with fail
          refine (ename_any _ _ hsz).mono ?_
          rintro e w' ⟨rfl, rfl⟩
          go_wp2
        · go_ret
          exact ⟨ret_bool (HN.out (HE.out.trans hnm)).symm, rfl⟩
        · go_round
          case rel => exact ⟨1, by omega, rfl, HY.out (HE.out.trans hnm)⟩
          case measure => simp [intOf]; omega
      · obtain ⟨b', o', e', hcy⟩ := hr k (by omega)
        cases e'
        have e := tagOK_succ hlt
        have HE := Lib.hid e
        clear hr hs e
        cases hnm : nameB l[k + 1]
        · go_wp2_with fail
          refine (ename_any _ _ hsz).mono ?_
          rintro e w' ⟨rfl, rfl⟩
          go_wp2
          go_ret
          exact ⟨ret_bool (HN.out (by rw [HE.out, hnm]; rfl)).symm, rfl⟩
        · cases hls : Op.bytesLess l[k].toList l[k + 1].toList
          all_goals
            go_wp2_with fail
            refine (ename_any _ _ hsz).mono ?_
            rintro e w' ⟨rfl, rfl⟩
            go_wp2
          · go_ret
            exact ⟨ret_bool (HN.out (by rw [HE.out, hnm, hls]; rfl)).symm, rfl⟩
          · go_round
            case rel => exact ⟨k + 2, by omega, by go_num, HY.out (by rw [HE.out, hnm, hls]; rfl)⟩
            case measure => simp [intOf]; omega
    · go_wp2
      go_ret
      have e : tagsB l = true := tagsB_true fun i hi => HOK.out i (by omega)
      exact ⟨ret_bool (by rw [e, Bool.true_and, decide_eq_decide]; omega), rfl⟩

end Go.Proofs.Ytdkadlifjmmcbaa
