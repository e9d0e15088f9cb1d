/- A control as a struct's cells; the walks of control.slot and control.Formed. -/
import Derived.Test.YtdkadlifjmmcbaaDoorKaw
namespace Go.Proofs.YtdkadlifjmmcbaaDoor
open Go.RowKit

/-- a slice as it lies in a struct -/
structure Sl where
  A : Option Addr
  n : Nat
  c : Nat
def Sl.v (s : Sl) : Value := .slice s.A s.n s.c

/-- a control's fields -/
structure Ctl where
  op : Int
  me : Int
  cut : Nat
  ss : List Sl
  hd : Sl
def Ctl.cells (c : Ctl) : List Value := [.int .i64 c.op, .int .i64 c.me, .int .u64 (c.cut : Int)] ++ (c.ss.map Sl.v ++ [c.hd.v])
def Ctl.arr (c : Ctl) : Array Value := c.cells.toArray
theorem Ctl.len {c : Ctl} (o : c.ss.length = 6) : c.cells.length = 10 := by simp [Ctl.cells, o]
theorem Ctl.size {c : Ctl} (o : c.ss.length = 6) : c.arr.size = 10 := by simp [Ctl.arr, Ctl.cells, o]
theorem Ctl.one (c : Ctl) : c.arr.all (·.oneCell') = true := by
  refine all_oneCell_toArray fun v hv => ?_
  simp only [Ctl.cells, List.mem_append, List.mem_cons, List.mem_map, List.not_mem_nil, or_false] at hv
  rcases hv with (rfl | rfl | rfl) | ⟨x, _, rfl⟩ | rfl <;> rfl

/-- a control lies whole in a block -/
structure CAt (w : World) (g : Nat) (c : Ctl) : Prop where
  blk : Blk w g 35 c.arr
  ok : c.ss.length = 6
section
variable {w : World} {g : Nat} {c : Ctl} (H : CAt w g c)
include H
theorem CAt.at (i : Nat) : w.cell? ⟨g, i, none⟩ = c.cells[i]? := by rw [H.blk.cell]; simp [Ctl.arr]
theorem CAt.op : w.cell? ⟨g, 0, none⟩ = some (.int .i64 c.op) := by rw [H.at]; rfl
theorem CAt.me : w.cell? ⟨g, 1, none⟩ = some (.int .i64 c.me) := by rw [H.at]; rfl
theorem CAt.cut : w.cell? ⟨g, 2, none⟩ = some (.int .u64 (c.cut : Int)) := by rw [H.at]; rfl
theorem CAt.sl (k : Nat) (hk : k < 6) : w.cell? ⟨g, 3 + k, none⟩ = (c.ss[k]?).map Sl.v := by
  rw [H.at, Ctl.cells, get_skip (k := 3) rfl (by omega), get_here (k := 6) (by rw [List.length_map, H.ok]) (by omega), show 3 + k - 3 = k from by omega, List.getElem?_map]
theorem CAt.hd : w.cell? ⟨g, 9, none⟩ = some (.slice c.hd.A c.hd.n c.hd.c) := by
  rw [H.at, Ctl.cells, get_skip (k := 3) rfl (by omega), get_skip (k := 6) (by rw [List.length_map, H.ok]) (by omega)]; rfl
theorem CAt.row : w.rangeAt g 3 (c.ss.map Sl.v) := fun j v hv => by
  have hj : j < 6 := by have := (List.getElem?_eq_some_iff.1 hv).1; rw [List.length_map, H.ok] at this; exact this
  rw [H.sl j hj, ← hv, List.getElem?_map]
theorem CAt.next {w' : World} (hb : Below w.heap.size w w') : CAt w' g c := ⟨H.blk.next hb, H.ok⟩
theorem CAt.drew : CAt w.drew g c := ⟨H.blk, H.ok⟩
theorem CAt.drewN (n : Nat) : CAt (w.drewN n) g c := ⟨H.blk, H.ok⟩
theorem CAt.keep {S : Nat → Prop} {w' : World} (hk : Keep S w w') (hg : S g) : CAt w' g c := ⟨hk.blk H.blk hg, H.ok⟩
theorem CAt.alloc (o : Obj) : CAt (w.alloc o) g c := ⟨H.blk.alloc o, H.ok⟩
end
theorem CAt.new (w : World) {c : Ctl} (o : c.ss.length = 6) : CAt (w.alloc (.cells c.arr 35)) w.heap.size c := ⟨Blk.new _ _ _, o⟩

def okSl (n : Nat) : Bool := n == 48 || n == 0
def someN (ns : List Nat) : Bool := ns.any fun n => decide (0 < n)

/-- is a control formed, by its numbers and its texts' lengths? -/
def formedK (op me : Int) (cut : Nat) (ns : List Nat) (hn : Nat) : Bool :=
  ns.all okSl &&
  (if op = 1 ∨ op = 4 then me == 0 && cut == 0 && someN ns && hn == 0
   else if op = 2 then decide (1 ≤ me) && decide (me ≤ 6) && cut == 0 && someN ns && hn == 0
   else if op = 3 then decide (1 ≤ me) && decide (me ≤ 6) && decide (cut ≤ 1048576) && someN ns && hn == 0
   else if op = 5 then decide (1 ≤ me) && decide (me ≤ 6) && cut == 0 && !someN ns && hn == 48
   else false)
def Ctl.ns (c : Ctl) : List Nat := c.ss.map Sl.n
def Ctl.formed (c : Ctl) : Bool := formedK c.op c.me c.cut c.ns c.hd.n
theorem take_some (l : List Nat) (k : Nat) (h : k < l.length) : someN (l.take (k + 1)) = (someN (l.take k) || decide (0 < l[k])) := by
  unfold someN
  rw [List.take_succ_eq_append_getElem h, List.any_append]
  simp
theorem take_ok (l : List Nat) (k : Nat) (h : k < l.length) : (l.take (k + 1)).all okSl = ((l.take k).all okSl && okSl l[k]) := by
  rw [List.take_succ_eq_append_getElem h, List.all_append]
  simp
theorem all_bad (l : List Nat) (k : Nat) (h : k < l.length) (hb : okSl l[k] = false) : l.all okSl = false := by
  rw [List.all_eq_false]
  exact ⟨_, List.getElem_mem h, by rw [hb]; decide⟩

/-- an array of one-celled slices is indexed -/
theorem run_index_sl {P : Program} (w : World) (t e u : TypeId) (n : Nat) (cs : Array Value) (k : IntKind) (j : Nat) (v : Value) (i : TypeInfo) (h : P.underlying t = some (.array n e)) (hi : P.info? e = some i) (hs : i.size = 1) (hu : P.underlying e = some (.slice u)) (hj : j < n) (hv : cs[j]? = some v) :
    (Instr.index t (.agg cs) (.int k j)).run P w = .ok v w := by
  have hn : (0 : Int) ≤ j ∧ (j : Int) < n := by omega
  have hc : P.cellsOf e = 1 := by simp [Program.cellsOf, hi, hs]
  have hv' : cs[(j : Int).toNat * 1]? = some v := by simpa using hv
  have hp : (part e cs ((j : Int).toNat * 1)).run P w = .ok v w := by
    simp [part, isAgg, run_underlying hu, hv]
  simp only [Instr.index, asIntOf, Sem.run_bind, Sem.run_pure, Result.andThen_ok, run_underlying h, if_pos hn, run_sizeOf w hi, hc, hp]

set_option maxRecDepth 100000 in
set_option maxHeartbeats 1000000 in
theorem slot_any (A : Option Addr) (n c : Nat) (must : Bool) (w : World) : Calls Tryd.prog 39 #[.slice A n c, .bool must] w fun e w' => e = .returned (.bool (n == 48 || (!must && n == 0))) ∧ w = w' := by
  cases must
  · by_cases h1 : n = 48
    · subst h1
      go_enter Tryd.func39, Tryd.ntmps39
      go_wp2
      go_returns
      exact ⟨rfl, rfl⟩
    · have t1 : ((n : Int) == 48) = false := by simp; omega
      by_cases h2 : n = 0
      · subst h2
        go_enter Tryd.func39, Tryd.ntmps39
        go_wp2
        go_returns
        exact ⟨rfl, rfl⟩
      · have t2 : ((n : Int) == 0) = false := by simp; omega
        go_enter Tryd.func39, Tryd.ntmps39
        go_wp2
        go_returns
        exact ⟨ret_bool (by simp [h1, h2]), rfl⟩
  · by_cases h1 : n = 48
    · subst h1
      go_enter Tryd.func39, Tryd.ntmps39
      go_wp2
      go_returns
      exact ⟨rfl, rfl⟩
    · have t1 : ((n : Int) == 48) = false := by simp; omega
      go_enter Tryd.func39, Tryd.ntmps39
      go_wp2
      go_returns
      exact ⟨ret_bool (by simp [h1]), rfl⟩


set_option maxRecDepth 100000 in
set_option maxHeartbeats 1000000 in
theorem cformed_any (c : Ctl) (ok : c.ss.length = 6) (w : World) :
    Calls Tryd.prog 16 #[.agg c.arr] w fun e w' => e = .returned (.bool c.formed) ∧ Below w.heap.size w w' := by
  have H := CAt.new w ok
  have HH := Lib.hid H
  have hrg := H.row
  have HRG := Lib.hid hrg
  have hnl : c.ns.length = 6 := by simp [Ctl.ns, ok]
  have HNL := Lib.hid hnl
  have HOK := Lib.hid ok
  have hsz6 : (Tryd.prog.info? 33).map (·.size) = some (c.ss.map Sl.v).length := by rw [List.length_map, ok]; kernel_rfl
  obtain ⟨iu, hiu, hius⟩ := info_size (P := Tryd.prog) (t := 31) (n := 1) (by kernel_rfl)
  have hix := fun (W : World) (j : Nat) (v : Value) (hj : j < 6) hv => run_index_sl (P := Tryd.prog) W 33 31 5 6 (c.ss.map Sl.v).toArray .i64 j v iu Tryd.underlying33 hiu hius Tryd.underlying31 hj hv
  have HIX := Lib.hid hix
  clear hix hiu hius ok hnl hrg H
  have hgz : c.ns.all okSl = false → c.formed = false := fun h => by simp [Ctl.formed, formedK, h]
  have HGZ := Lib.hid hgz
  clear hgz
  go_enter Tryd.func16, Tryd.ntmps16
  go_wp2_with (first | ((with_reducible refine wpList_load_midS w.heap.size 3 (c.ss.map Sl.v) _ HRG.out Tryd.underlying33 ?_ hsz6 ?_ ?_ ?_); rfl; rfl; rfl) | fail)
  go_loopw [3, 9] (fun s i wr => ∃ (k : Nat) (sb : Bool), k ≤ 6 ∧ i = .int .i64 (k : Int) ∧ s = .bool sb ∧ (c.ns.take k).all okSl = true ∧ sb = someN (c.ns.take k) ∧ wr = w.alloc (.cells c.arr 35)) (fun _ i _ => 6 - (intOf i).toNat)
  case atStart => exact ⟨0, false, by omega, rfl, rfl, rfl, rfl, rfl⟩
  case round =>
    obtain ⟨k, sb, hk, rfl, rfl, hal, hsb, rfl⟩ := hrel
    have HAL := Lib.hid hal
    have HSB := Lib.hid hsb
    clear hal hsb
    by_cases hlt : k < 6
    · have hlk : k < c.ss.length := by rw [HOK.out]; exact hlt
      have hln : k < c.ns.length := by rw [HNL.out]; exact hlt
      have hx := fun W => HIX.out W k c.ss[k].v hlt (by simp [hlk])
      have hek : c.ns[k] = c.ss[k].n := by simp [Ctl.ns]
      have hts := take_some c.ns k hln
      have hto := take_ok c.ns k hln
      have hbd := all_bad c.ns k hln
      rw [hek] at hts hto hbd
      clear hek
      generalize c.ss[k] = sk at *
      obtain ⟨Ak, nk, ck⟩ := sk
      simp only [Sl.v] at hx hts hto hbd
      have HTS := Lib.hid hts
      have HTO := Lib.hid hto
      have HBD := Lib.hid hbd
      clear hts hto hbd
      go_wp2_with fail
      refine (slot_any Ak nk ck false _).mono ?_
      rintro e w' ⟨(he : e = .returned (.bool (okSl nk))), rfl⟩
      subst he
      cases hok : okSl nk
      · go_wp2
        go_returns
        exact ⟨ret_bool (HGZ.out (HBD.out hok)).symm, by go_grown⟩
      · have hto2 : (c.ns.take (k + 1)).all okSl = true := by rw [HTO.out, HAL.out, hok]; rfl
        have HT2 := Lib.hid hto2
        clear hto2
        cases sb
        · have hs2 : decide (0 < nk) = someN (c.ns.take (k + 1)) := by rw [HTS.out, ← HSB.out]; rfl
          have HS2 := Lib.hid hs2
          clear hs2
          go_wp2
          exact ⟨⟨k + 1, decide (0 < nk), by omega, by go_num, rfl, HT2.out, HS2.out, trivial⟩, by simp [intOf]; omega⟩
        · have hs2 : someN (c.ns.take (k + 1)) = true := by rw [HTS.out, ← HSB.out]; rfl
          have HS2 := Lib.hid hs2
          clear hs2
          go_wp2
          exact ⟨⟨k + 1, true, by omega, by go_num, rfl, HT2.out, HS2.out.symm, trivial⟩, by simp [intOf]; omega⟩
    · obtain rfl : k = 6 := by omega
      have htk : c.ns.take 6 = c.ns := List.take_of_length_le (by rw [HNL.out]; omega)
      have hal := HAL.out
      have hsb := HSB.out
      rw [htk] at hal hsb
      have hop := HH.out.op
      have hme := HH.out.me
      have hcu := HH.out.cut
      have hhd := HH.out.hd
      have hF : c.formed = (if c.op = 1 ∨ c.op = 4 then c.me == 0 && c.cut == 0 && sb && c.hd.n == 0
         else if c.op = 2 then decide (1 ≤ c.me) && decide (c.me ≤ 6) && c.cut == 0 && sb && c.hd.n == 0
         else if c.op = 3 then decide (1 ≤ c.me) && decide (c.me ≤ 6) && decide (c.cut ≤ 1048576) && sb && c.hd.n == 0
         else if c.op = 5 then decide (1 ≤ c.me) && decide (c.me ≤ 6) && c.cut == 0 && !sb && c.hd.n == 48
         else false) := by
        rw [hsb, Ctl.formed, formedK, hal]; rfl
      have HF := Lib.hid hF
      clear hF hal hsb htk
      by_cases h5 : c.op = 5
      · have hF5 : c.formed = (decide (1 ≤ c.me) && decide (c.me ≤ 6) && c.cut == 0 && !sb && c.hd.n == 48) := by rw [HF.out, h5]; rfl
        have HF5 := Lib.hid hF5
        clear hF5
        rw [h5] at hop
        clear h5
        cases g1 : decide (1 ≤ c.me)
        · go_wp2
          go_returns
          exact ⟨ret_bool (by rw [HF5.out, g1]; rfl), by go_grown⟩
        cases g2 : decide (c.me ≤ 6)
        · go_wp2
          go_returns
          exact ⟨ret_bool (by rw [HF5.out, g1, g2]; rfl), by go_grown⟩
        cases g3 : ((c.cut : Int) == 0)
        · have g3' : (c.cut == 0) = false := by simp at g3 ⊢; omega
          go_wp2
          go_returns
          exact ⟨ret_bool (by rw [HF5.out, g1, g2, g3']; rfl), by go_grown⟩
        have g3' : (c.cut == 0) = true := by simp at g3 ⊢; omega
        cases sb
        · go_wp2_with fail
          refine (slot_any c.hd.A c.hd.n c.hd.c true _).mono ?_
          rintro e w' ⟨(he : e = .returned (.bool (c.hd.n == 48 || false))), rfl⟩
          subst he
          go_wp2
          go_returns
          exact ⟨ret_bool (by rw [HF5.out, g1, g2, g3']; simp), by go_grown⟩
        · go_wp2
          go_returns
          exact ⟨ret_bool (by rw [HF5.out, g1, g2, g3']; rfl), by go_grown⟩
      by_cases h1 : c.op = 1
      · have hG : c.formed = (c.me == 0 && c.cut == 0 && sb && c.hd.n == 0) := by rw [HF.out, h1]; rfl
        have HG := Lib.hid hG
        clear hG
        rw [h1] at hop
        clear h1 h5
        cases g1 : (c.me == 0)
        · go_wp2
          all_goals (go_returns; exact ⟨ret_bool (by rw [HG.out, g1]; rfl), by go_grown⟩)
        cases g3 : ((c.cut : Int) == 0)
        · have g3' : (c.cut == 0) = false := by simp at g3 ⊢; omega
          go_wp2
          all_goals (go_returns; exact ⟨ret_bool (by rw [HG.out, g1, g3']; rfl), by go_grown⟩)
        have g3' : (c.cut == 0) = true := by simp at g3 ⊢; omega
        cases sb
        · go_wp2
          all_goals (go_returns; exact ⟨ret_bool (by rw [HG.out, g1, g3']; rfl), by go_grown⟩)
        cases g4 : ((c.hd.n : Int) == 0)
        · have g4' : (c.hd.n == 0) = false := by simp at g4 ⊢; omega
          go_wp2
          all_goals (go_returns; exact ⟨ret_bool (by rw [HG.out, g1, g3', g4']; rfl), by go_grown⟩)
        · have g4' : (c.hd.n == 0) = true := by simp at g4 ⊢; omega
          go_wp2
          all_goals (go_returns; exact ⟨ret_bool (by rw [HG.out, g1, g3', g4']; rfl), by go_grown⟩)
      by_cases h4 : c.op = 4
      · have hG : c.formed = (c.me == 0 && c.cut == 0 && sb && c.hd.n == 0) := by rw [HF.out, h4]; rfl
        have HG := Lib.hid hG
        clear hG
        rw [h4] at hop
        clear h4 h5
        cases g1 : (c.me == 0)
        · go_wp2
          all_goals (go_returns; exact ⟨ret_bool (by rw [HG.out, g1]; rfl), by go_grown⟩)
        cases g3 : ((c.cut : Int) == 0)
        · have g3' : (c.cut == 0) = false := by simp at g3 ⊢; omega
          go_wp2
          all_goals (go_returns; exact ⟨ret_bool (by rw [HG.out, g1, g3']; rfl), by go_grown⟩)
        have g3' : (c.cut == 0) = true := by simp at g3 ⊢; omega
        cases sb
        · go_wp2
          all_goals (go_returns; exact ⟨ret_bool (by rw [HG.out, g1, g3']; rfl), by go_grown⟩)
        cases g4 : ((c.hd.n : Int) == 0)
        · have g4' : (c.hd.n == 0) = false := by simp at g4 ⊢; omega
          go_wp2
          all_goals (go_returns; exact ⟨ret_bool (by rw [HG.out, g1, g3', g4']; rfl), by go_grown⟩)
        · have g4' : (c.hd.n == 0) = true := by simp at g4 ⊢; omega
          go_wp2
          all_goals (go_returns; exact ⟨ret_bool (by rw [HG.out, g1, g3', g4']; rfl), by go_grown⟩)
      by_cases h2 : c.op = 2
      · have hG : c.formed = (decide (1 ≤ c.me) && decide (c.me ≤ 6) && (c.cut == 0) && sb && c.hd.n == 0) := by rw [HF.out, h2]; rfl
        have HG := Lib.hid hG
        clear hG
        rw [h2] at hop
        clear h2 h5
        cases g1 : decide (1 ≤ c.me)
        · go_wp2
          all_goals (go_returns; exact ⟨ret_bool (by rw [HG.out, g1]; rfl), by go_grown⟩)
        cases g2 : decide (c.me ≤ 6)
        · go_wp2
          all_goals (go_returns; exact ⟨ret_bool (by rw [HG.out, g1, g2]; rfl), by go_grown⟩)
        cases g3 : ((c.cut : Int) == 0)
        · have g3' : (c.cut == 0) = false := by simp at g3 ⊢; omega
          go_wp2
          all_goals (go_returns; exact ⟨ret_bool (by rw [HG.out, g1, g2, g3']; rfl), by go_grown⟩)
        have g3' : (c.cut == 0) = true := by simp at g3 ⊢; omega
        cases sb
        · go_wp2
          all_goals (go_returns; exact ⟨ret_bool (by rw [HG.out, g1, g2, g3']; rfl), by go_grown⟩)
        cases g4 : ((c.hd.n : Int) == 0)
        · have g4' : (c.hd.n == 0) = false := by simp at g4 ⊢; omega
          go_wp2
          all_goals (go_returns; exact ⟨ret_bool (by rw [HG.out, g1, g2, g3', g4']; rfl), by go_grown⟩)
        · have g4' : (c.hd.n == 0) = true := by simp at g4 ⊢; omega
          go_wp2
          all_goals (go_returns; exact ⟨ret_bool (by rw [HG.out, g1, g2, g3', g4']; rfl), by go_grown⟩)
      by_cases h3 : c.op = 3
      · have hG : c.formed = (decide (1 ≤ c.me) && decide (c.me ≤ 6) && decide (c.cut ≤ 1048576) && sb && c.hd.n == 0) := by rw [HF.out, h3]; rfl
        have HG := Lib.hid hG
        clear hG
        rw [h3] at hop
        clear h3 h5
        cases g1 : decide (1 ≤ c.me)
        · go_wp2
          all_goals (go_returns; exact ⟨ret_bool (by rw [HG.out, g1]; rfl), by go_grown⟩)
        cases g2 : decide (c.me ≤ 6)
        · go_wp2
          all_goals (go_returns; exact ⟨ret_bool (by rw [HG.out, g1, g2]; rfl), by go_grown⟩)
        cases g3 : decide ((c.cut : Int) ≤ 1048576)
        · have g3' : decide (c.cut ≤ 1048576) = false := by simp at g3 ⊢; omega
          go_wp2
          all_goals (go_returns; exact ⟨ret_bool (by rw [HG.out, g1, g2, g3']; rfl), by go_grown⟩)
        have g3' : decide (c.cut ≤ 1048576) = true := by simp at g3 ⊢; omega
        cases sb
        · go_wp2
          all_goals (go_returns; exact ⟨ret_bool (by rw [HG.out, g1, g2, g3']; rfl), by go_grown⟩)
        cases g4 : ((c.hd.n : Int) == 0)
        · have g4' : (c.hd.n == 0) = false := by simp at g4 ⊢; omega
          go_wp2
          all_goals (go_returns; exact ⟨ret_bool (by rw [HG.out, g1, g2, g3', g4']; rfl), by go_grown⟩)
        · have g4' : (c.hd.n == 0) = true := by simp at g4 ⊢; omega
          go_wp2
          all_goals (go_returns; exact ⟨ret_bool (by rw [HG.out, g1, g2, g3', g4']; rfl), by go_grown⟩)
      have hG : c.formed = false := by rw [HF.out]; simp [h1, h2, h3, h4, h5]
      have HG := Lib.hid hG
      have t1 : (c.op == 1) = false := by simpa using h1
      have t2 : (c.op == 2) = false := by simpa using h2
      have t3 : (c.op == 3) = false := by simpa using h3
      have t4 : (c.op == 4) = false := by simpa using h4
      have t5 : (c.op == 5) = false := by simpa using h5
      clear hG h1 h2 h3 h4 h5
      go_wp2
      all_goals (go_returns; exact ⟨ret_bool HG.out.symm, by go_grown⟩)

end Go.Proofs.YtdkadlifjmmcbaaDoor
