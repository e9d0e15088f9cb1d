/- The walk of the reference's Formed of a control. -/
import Derived.Test.YtdkadlifjmmcbaaDoorKc
namespace Go.Proofs.YtdkadlifjmmcbaaDoor
open Go.RowKit

theorem someN_sum : ∀ ns : List Nat, someN ns = decide (0 < ns.sum)
  | [] => rfl
  | n :: ns => by
    have ih := someN_sum ns
    unfold someN at ih ⊢
    rw [List.any_cons, ih, List.sum_cons, Bool.eq_iff_iff]
    simp only [Bool.or_eq_true, decide_eq_true_eq]
    omega
theorem take_sum (l : List Nat) (k : Nat) (h : k < l.length) : (l.take (k + 1)).sum = (l.take k).sum + l[k] := by
  rw [List.take_succ_eq_append_getElem h, List.sum_append]
  simp
theorem okSl_le {n : Nat} (h : okSl n = true) : n ≤ 48 := by
  simp only [okSl, Bool.or_eq_true, beq_iff_eq] at h
  omega

set_option maxRecDepth 100000 in
set_option maxHeartbeats 4000000 in
theorem rcformed_any (c : Ctl) (ok : c.ss.length = 6) (w : World) :
    Calls Tryd.prog 12 #[.agg c.arr] w fun e w' => e = .returned (.bool c.formed) ∧ Below w.heap.size w w' := by
  have H := CAt.new w ok
  have HH := Lib.hid H
  have hnl : c.ns.length = 6 := by simp [Ctl.ns, ok]
  have HNL := Lib.hid hnl
  have HOK := Lib.hid ok
  clear ok hnl H
  have hgz : c.ns.all okSl = false → c.formed = false := fun h => by simp [Ctl.formed, formedK, h]
  have HGZ := Lib.hid hgz
  clear hgz
  go_enter Tryd.func12, Tryd.ntmps12
  go_wp2_with fail
  go_loopw [3, 4] (fun s i wr => ∃ (k q : Nat), k ≤ 6 ∧ i = .int .i64 (k : Int) ∧ s = .int .i64 (q : Int) ∧ (c.ns.take k).all okSl = true ∧ q = (c.ns.take k).sum ∧ q ≤ 48 * k ∧ wr = w.alloc (.cells c.arr 35)) (fun _ i _ => 6 - (intOf i).toNat)
  case atStart => exact ⟨0, 0, by omega, rfl, rfl, rfl, rfl, by omega, rfl⟩
  case round =>
    obtain ⟨k, q, hk, rfl, rfl, hal, hsb, hq, rfl⟩ := hrel
    have HAL := Lib.hid hal
    have HSB := Lib.hid hsb
    clear hal hsb
    by_cases hlt : k < 6
    · have hlk : k < c.ss.length := by rw [HOK.out]; exact hlt
      have hln : k < c.ns.length := by rw [HNL.out]; exact hlt
      have hx := HH.out.sl k hlt
      rw [List.getElem?_eq_getElem hlk] at hx
      have hek : c.ns[k] = c.ss[k].n := by simp [Ctl.ns]
      have hts := take_sum c.ns k hln
      have hto := take_ok c.ns k hln
      have hbd := all_bad c.ns k hln
      rw [hek] at hts hto hbd
      clear hek
      generalize c.ss[k] = sk at *
      obtain ⟨Ak, nk, ck⟩ := sk
      simp only [Sl.v, Option.map_some] at hx hts hto hbd
      have HTS := Lib.hid hts
      have HTO := Lib.hid hto
      have HBD := Lib.hid hbd
      clear hts hto hbd
      cases hok : okSl nk
      · have t1 : ((nk : Int) != 0) = true := by simp [okSl] at hok ⊢; omega
        have t2 : ((nk : Int) != 48) = true := by simp [okSl] at hok ⊢; omega
        go_wp2
        go_returns
        exact ⟨ret_bool (HGZ.out (HBD.out hok)).symm, by go_grown⟩
      · have hle := okSl_le hok
        have hto2 : (c.ns.take (k + 1)).all okSl = true := by rw [HTO.out, HAL.out, hok]; rfl
        have hs2 : q + nk = (c.ns.take (k + 1)).sum := by rw [HTS.out, ← HSB.out]
        have HT2 := Lib.hid hto2
        have HS2 := Lib.hid hs2
        clear hto2 hs2
        cases t1 : ((nk : Int) != 0)
        · go_wp2
          exact ⟨⟨k + 1, q + nk, by omega, by go_num, by go_num, HT2.out, HS2.out, by omega, trivial⟩, by simp [intOf]; omega⟩
        · have t2 : ((nk : Int) != 48) = false := by simp [okSl] at hok t1 ⊢; omega
          go_wp2
          exact ⟨⟨k + 1, q + nk, by omega, by go_num, by go_num, HT2.out, HS2.out, by omega, trivial⟩, by simp [intOf]; omega⟩
    · obtain rfl : k = 6 := by omega
      have htk : c.ns.take 6 = c.ns := List.take_of_length_le (by rw [HNL.out]; omega)
      have hal := HAL.out
      have hsb := HSB.out
      rw [htk] at hal hsb
      have hop := HH.out.op
      have hme := HH.out.me
      have hcu := HH.out.cut
      have hhd := HH.out.hd
      have hF : c.formed = (if c.op = 1 ∨ c.op = 4 then c.me == 0 && c.cut == 0 && decide (0 < q) && c.hd.n == 0
         else if c.op = 2 then decide (1 ≤ c.me) && decide (c.me ≤ 6) && c.cut == 0 && decide (0 < q) && c.hd.n == 0
         else if c.op = 3 then decide (1 ≤ c.me) && decide (c.me ≤ 6) && decide (c.cut ≤ 1048576) && decide (0 < q) && c.hd.n == 0
         else if c.op = 5 then decide (1 ≤ c.me) && decide (c.me ≤ 6) && c.cut == 0 && !decide (0 < q) && c.hd.n == 48
         else false) := by
        rw [hsb, Ctl.formed, formedK, hal, someN_sum]; rfl
      have HF := Lib.hid hF
      clear hF hal hsb htk
      by_cases h1 : c.op = 1
      · have hG : c.formed = (c.me == 0 && c.cut == 0 && decide (0 < q) && c.hd.n == 0) := by rw [HF.out, h1]; rfl
        have HG := Lib.hid hG
        clear hG
        rw [h1] at hop
        clear h1
        cases g1 : (c.me != 0)
        rotate_left
        ·
          have g1p := g1
          simp at g1p
          go_wp2
          all_goals (go_returns; exact ⟨ret_bool (by rw [HG.out]; simp; try omega), by go_grown⟩)
        have g1p := g1
        simp at g1p
        cases g0 : decide (0 < (q : Int))
        ·
          have g0p := g0
          simp at g0p
          go_wp2
          all_goals (go_returns; exact ⟨ret_bool (by rw [HG.out]; simp; try omega), by go_grown⟩)
        have g0p := g0
        simp at g0p
        cases g4 : ((c.hd.n : Int) == 0)
        ·
          have g4p := g4
          simp at g4p
          go_wp2
          all_goals (go_returns; exact ⟨ret_bool (by rw [HG.out]; simp; try omega), by go_grown⟩)
        have g4p := g4
        simp at g4p
        cases g3 : ((c.cut : Int) == 0)
        ·
          have g3p := g3
          simp at g3p
          go_wp2
          all_goals (go_returns; exact ⟨ret_bool (by rw [HG.out]; simp; try omega), by go_grown⟩)
        have g3p := g3
        simp at g3p
        go_wp2
        all_goals (go_returns; exact ⟨ret_bool (by rw [HG.out]; simp; try omega), by go_grown⟩)
      by_cases h4 : c.op = 4
      · have hG : c.formed = (c.me == 0 && c.cut == 0 && decide (0 < q) && c.hd.n == 0) := by rw [HF.out, h4]; rfl
        have HG := Lib.hid hG
        clear hG
        rw [h4] at hop
        clear h4
        cases g1 : (c.me != 0)
        rotate_left
        ·
          have g1p := g1
          simp at g1p
          go_wp2
          all_goals (go_returns; exact ⟨ret_bool (by rw [HG.out]; simp; try omega), by go_grown⟩)
        have g1p := g1
        simp at g1p
        cases g0 : decide (0 < (q : Int))
        ·
          have g0p := g0
          simp at g0p
          go_wp2
          all_goals (go_returns; exact ⟨ret_bool (by rw [HG.out]; simp; try omega), by go_grown⟩)
        have g0p := g0
        simp at g0p
        cases g4 : ((c.hd.n : Int) == 0)
        ·
          have g4p := g4
          simp at g4p
          go_wp2
          all_goals (go_returns; exact ⟨ret_bool (by rw [HG.out]; simp; try omega), by go_grown⟩)
        have g4p := g4
        simp at g4p
        cases g3 : ((c.cut : Int) == 0)
        ·
          have g3p := g3
          simp at g3p
          go_wp2
          all_goals (go_returns; exact ⟨ret_bool (by rw [HG.out]; simp; try omega), by go_grown⟩)
        have g3p := g3
        simp at g3p
        go_wp2
        all_goals (go_returns; exact ⟨ret_bool (by rw [HG.out]; simp; try omega), by go_grown⟩)
      by_cases h2 : c.op = 2
      · have hG : c.formed = (decide (1 ≤ c.me) && decide (c.me ≤ 6) && c.cut == 0 && decide (0 < q) && c.hd.n == 0) := by rw [HF.out, h2]; rfl
        have HG := Lib.hid hG
        clear hG
        rw [h2] at hop
        clear h2
        cases g1 : decide (c.me < 1)
        rotate_left
        ·
          have g1p := g1
          simp at g1p
          go_wp2
          all_goals (go_returns; exact ⟨ret_bool (by rw [HG.out]; simp; try omega), by go_grown⟩)
        have g1p := g1
        simp at g1p
        cases g2 : decide (6 < c.me)
        rotate_left
        ·
          have g2p := g2
          simp at g2p
          go_wp2
          all_goals (go_returns; exact ⟨ret_bool (by rw [HG.out]; simp; try omega), by go_grown⟩)
        have g2p := g2
        simp at g2p
        cases g0 : decide (0 < (q : Int))
        ·
          have g0p := g0
          simp at g0p
          go_wp2
          all_goals (go_returns; exact ⟨ret_bool (by rw [HG.out]; simp; try omega), by go_grown⟩)
        have g0p := g0
        simp at g0p
        cases g4 : ((c.hd.n : Int) == 0)
        ·
          have g4p := g4
          simp at g4p
          go_wp2
          all_goals (go_returns; exact ⟨ret_bool (by rw [HG.out]; simp; try omega), by go_grown⟩)
        have g4p := g4
        simp at g4p
        cases g3 : ((c.cut : Int) == 0)
        ·
          have g3p := g3
          simp at g3p
          go_wp2
          all_goals (go_returns; exact ⟨ret_bool (by rw [HG.out]; simp; try omega), by go_grown⟩)
        have g3p := g3
        simp at g3p
        go_wp2
        all_goals (go_returns; exact ⟨ret_bool (by rw [HG.out]; simp; try omega), by go_grown⟩)
      by_cases h3 : c.op = 3
      · have hG : c.formed = (decide (1 ≤ c.me) && decide (c.me ≤ 6) && decide (c.cut ≤ 1048576) && decide (0 < q) && c.hd.n == 0) := by rw [HF.out, h3]; rfl
        have HG := Lib.hid hG
        clear hG
        rw [h3] at hop
        clear h3
        cases g1 : decide (c.me < 1)
        rotate_left
        ·
          have g1p := g1
          simp at g1p
          go_wp2
          all_goals (go_returns; exact ⟨ret_bool (by rw [HG.out]; simp; try omega), by go_grown⟩)
        have g1p := g1
        simp at g1p
        cases g2 : decide (6 < c.me)
        rotate_left
        ·
          have g2p := g2
          simp at g2p
          go_wp2
          all_goals (go_returns; exact ⟨ret_bool (by rw [HG.out]; simp; try omega), by go_grown⟩)
        have g2p := g2
        simp at g2p
        cases g0 : decide (0 < (q : Int))
        ·
          have g0p := g0
          simp at g0p
          go_wp2
          all_goals (go_returns; exact ⟨ret_bool (by rw [HG.out]; simp; try omega), by go_grown⟩)
        have g0p := g0
        simp at g0p
        cases g4 : ((c.hd.n : Int) == 0)
        ·
          have g4p := g4
          simp at g4p
          go_wp2
          all_goals (go_returns; exact ⟨ret_bool (by rw [HG.out]; simp; try omega), by go_grown⟩)
        have g4p := g4
        simp at g4p
        cases g3 : ((c.cut : Int) == 0)
        rotate_left
        ·
          have g3p := g3
          simp at g3p
          go_wp2
          all_goals (go_returns; exact ⟨ret_bool (by rw [HG.out]; simp; try omega), by go_grown⟩)
        have g3p := g3
        simp at g3p
        cases g6 : decide ((c.cut : Int) ≤ 1048576)
        ·
          have g6p := g6
          simp at g6p
          go_wp2
          all_goals (go_returns; exact ⟨ret_bool (by rw [HG.out]; simp; try omega), by go_grown⟩)
        have g6p := g6
        simp at g6p
        go_wp2
        all_goals (go_returns; exact ⟨ret_bool (by rw [HG.out]; simp; try omega), by go_grown⟩)
      by_cases h5 : c.op = 5
      · have hG : c.formed = (decide (1 ≤ c.me) && decide (c.me ≤ 6) && c.cut == 0 && !decide (0 < q) && c.hd.n == 48) := by rw [HF.out, h5]; rfl
        have HG := Lib.hid hG
        clear hG
        rw [h5] at hop
        clear h5
        cases g1 : decide (c.me < 1)
        rotate_left
        ·
          have g1p := g1
          simp at g1p
          go_wp2
          all_goals (go_returns; exact ⟨ret_bool (by rw [HG.out]; simp; try omega), by go_grown⟩)
        have g1p := g1
        simp at g1p
        cases g2 : decide (6 < c.me)
        rotate_left
        ·
          have g2p := g2
          simp at g2p
          go_wp2
          all_goals (go_returns; exact ⟨ret_bool (by rw [HG.out]; simp; try omega), by go_grown⟩)
        have g2p := g2
        simp at g2p
        cases g0 : ((q : Int) == 0)
        ·
          have g0p := g0
          simp at g0p
          go_wp2
          all_goals (go_returns; exact ⟨ret_bool (by rw [HG.out]; simp; try omega), by go_grown⟩)
        have g0p := g0
        simp at g0p
        cases g4 : ((c.hd.n : Int) == 48)
        ·
          have g4p := g4
          simp at g4p
          go_wp2
          all_goals (go_returns; exact ⟨ret_bool (by rw [HG.out]; simp; try omega), by go_grown⟩)
        have g4p := g4
        simp at g4p
        cases g3 : ((c.cut : Int) == 0)
        ·
          have g3p := g3
          simp at g3p
          go_wp2
          all_goals (go_returns; exact ⟨ret_bool (by rw [HG.out]; simp; try omega), by go_grown⟩)
        have g3p := g3
        simp at g3p
        go_wp2
        all_goals (go_returns; exact ⟨ret_bool (by rw [HG.out]; simp; try omega), by go_grown⟩)
      have hG : c.formed = false := by rw [HF.out]; simp [h1, h2, h3, h4, h5]
      have HG := Lib.hid hG
      have hlo : c.op < 1 ∨ 5 < c.op := by omega
      have t1 : (c.op == 1) = false := by simpa using h1
      have t2 : (c.op == 2) = false := by simpa using h2
      have t3 : (c.op == 3) = false := by simpa using h3
      have t4 : (c.op == 4) = false := by simpa using h4
      have t5 : (c.op == 5) = false := by simpa using h5
      clear hG h1 h2 h3 h4 h5
      rcases hlo with hlo | hlo
      · have u1 : decide (c.op < 1) = true := decide_eq_true hlo
        go_wp2
        all_goals (go_returns; exact ⟨ret_bool HG.out.symm, by go_grown⟩)
      · have u1 : decide (c.op < 1) = false := decide_eq_false (by omega)
        have u2 : decide (5 < c.op) = true := decide_eq_true hlo
        go_wp2
        all_goals (go_returns; exact ⟨ret_bool HG.out.symm, by go_grown⟩)

end Go.Proofs.YtdkadlifjmmcbaaDoor
