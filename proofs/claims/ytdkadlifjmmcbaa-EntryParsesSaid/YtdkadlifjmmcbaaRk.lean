/- The walk of the reference's Bucket. -/
import Derived.Test.YtdkadlifjmmcbaaPd
namespace Go.Proofs.Ytdkadlifjmmcbaa
open Go.RowKit

/-- the least bucket with room; 0: none -/
def rbk (n : Int) : Int := if n < 64 then 64 else if n < 128 then 128 else if n < 256 then 256 else if n < 512 then 512 else if n < 1024 then 1024 else if n < 2048 then 2048 else 0
theorem rbk_cases (n : Int) : rbk n = 64 ∧ n < 64 ∨ rbk n = 128 ∧ 64 ≤ n ∧ n < 128 ∨ rbk n = 256 ∧ 128 ≤ n ∧ n < 256 ∨ rbk n = 512 ∧ 256 ≤ n ∧ n < 512 ∨
    rbk n = 1024 ∧ 512 ≤ n ∧ n < 1024 ∨ rbk n = 2048 ∧ 1024 ≤ n ∧ n < 2048 ∨ rbk n = 0 ∧ 2048 ≤ n := by
  unfold rbk
  repeat' split
  all_goals simp
  all_goals omega

/-- a size is a bucket's, and 16 more -/
theorem padIs_rbk (z : Int) : padIs (z - 16) = (decide (80 ≤ z) && decide (z ≤ 2064) && (rbk (z - 17) == z - 16)) := by
  have e : z - 16 - 1 = z - 17 := by omega
  simp only [padIs, e]
  rw [Bool.eq_iff_iff]
  simp only [Bool.and_eq_true, beq_iff_eq, decide_eq_true_eq]
  rcases padR_cases (z - 17) with ⟨e, h⟩ | ⟨e, h⟩ | ⟨e, h⟩ | ⟨e, h⟩ | ⟨e, h⟩ | ⟨e, h⟩ | ⟨e, h⟩ | ⟨e, h⟩ <;>
  rcases rbk_cases (z - 17) with ⟨e', h'⟩ | ⟨e', h'⟩ | ⟨e', h'⟩ | ⟨e', h'⟩ | ⟨e', h'⟩ | ⟨e', h'⟩ | ⟨e', h'⟩ <;>
  rw [e, e'] <;> simp <;> omega

set_option maxRecDepth 100000 in
set_option maxHeartbeats 1000000 in
theorem rbucket_any (n : Int) (w : World) :
    Calls Try.prog 38 #[.int .i64 n] w fun e w' => e = .returned (.int .i64 (rbk n)) ∧ Below w.heap.size w w' := by
  rcases rbk_cases n with ⟨e, h⟩ | ⟨e, h⟩ | ⟨e, h⟩ | ⟨e, h⟩ | ⟨e, h⟩ | ⟨e, h⟩ | ⟨e, h⟩
  all_goals
    rw [e]
    clear e
    go_enter Try.func38, Try.ntmps38
    go_wp2
    refine wp_loop_rounds 7 ?_
    repeat any_goals (rw [rounds_succ]; go_wp2)
    all_goals
      go_returns
      exact ⟨rfl, by go_grown⟩

end Go.Proofs.Ytdkadlifjmmcbaa
