/- The walks of pad.Bucket and pad.Is, and the reference's bucket. -/
import Derived.Test.YtdkadlifjmmcbaaHd
namespace Go.Proofs.Ytdkadlifjmmcbaa
open Go.RowKit

/-- a length's bucket, and the error -/
def padR (n : Int) : Int × Int :=
  if n < 0 then (0, 1) else if n < 64 then (64, 0) else if n < 128 then (128, 0) else if n < 256 then (256, 0) else if n < 512 then (512, 0) else if n < 1024 then (1024, 0) else if n < 2048 then (2048, 0) else (0, 3)

def padIs (n : Int) : Bool := (padR (n - 1)).2 == 0 && (padR (n - 1)).1 == n

theorem padR_cases (n : Int) : padR n = (0, 1) ∧ n < 0 ∨ padR n = (64, 0) ∧ 0 ≤ n ∧ n < 64 ∨ padR n = (128, 0) ∧ 64 ≤ n ∧ n < 128 ∨ padR n = (256, 0) ∧ 128 ≤ n ∧ n < 256 ∨ padR n = (512, 0) ∧ 256 ≤ n ∧ n < 512 ∨
    padR n = (1024, 0) ∧ 512 ≤ n ∧ n < 1024 ∨ padR n = (2048, 0) ∧ 1024 ≤ n ∧ n < 2048 ∨ padR n = (0, 3) ∧ 2048 ≤ n := by
  unfold padR
  repeat' split
  all_goals simp
  all_goals omega

set_option maxRecDepth 100000 in
set_option maxHeartbeats 400000 in
theorem bucket_any (n : Int) (w : World) :
    Calls Try.prog 53 #[.int .i64 n] w fun e w' => e = .returned (.tuple #[.int .i64 (padR n).1, .int .i64 (padR n).2]) ∧ w = w' := by
  rcases padR_cases n with ⟨e, h⟩ | ⟨e, h⟩ | ⟨e, h⟩ | ⟨e, h⟩ | ⟨e, h⟩ | ⟨e, h⟩ | ⟨e, h⟩ | ⟨e, h⟩
  all_goals
    rw [e]
    clear e
    go_enter Try.func53, Try.ntmps53
    go_wp2
    try (refine wp_loop_rounds 7 ?_; repeat any_goals (rw [rounds_succ]; go_wp2))
    all_goals (go_returns; exact ⟨rfl, rfl⟩)

set_option maxRecDepth 100000 in
set_option maxHeartbeats 400000 in
theorem is_any (n : Int) (w : World) (h1 : -9223372036854775807 ≤ n) (h2 : n ≤ 9223372036854775807) :
    Calls Try.prog 49 #[.int .i64 n] w fun e w' => e = .returned (.bool (padIs n)) ∧ w = w' := by
  have hp : padIs n = ((padR (n - 1)).2 == 0 && (padR (n - 1)).1 == n) := rfl
  have hbk := fun W => bucket_any (n - 1) W
  rw [hp]
  generalize padR (n - 1) = r at *
  have HB := Lib.hid hbk
  clear hbk hp
  cases hq : r.2 == 0
  all_goals
    go_enter Try.func49, Try.ntmps49
    go_wp2_with fail
    refine (HB.out _).mono ?_
    rintro e w' ⟨rfl, rfl⟩
    go_wp2
    go_returns
    exact ⟨rfl, rfl⟩

end Go.Proofs.Ytdkadlifjmmcbaa
