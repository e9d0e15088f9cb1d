/- Words for memory that name the program's types: a row of bytes of the call's own, an append onto it; what is kept. -/
import Derived.Test.YtdkadlifjmmcbaaDoorBase
import Derived.Maps.AppendAt
import Derived.OwnWalk
import Derived.Handy
import Derived.Test.YtdkadlifjmmcbaaDoorProg
namespace Go.Proofs.YtdkadlifjmmcbaaDoor
open Go.RowKit

def bytesL (l : List UInt8) : List Value := l.map fun x => Value.int .u8 (x.toNat : Int)
theorem bytesL_len (l : List UInt8) : (bytesL l).length = l.length := by simp [bytesL]
theorem bytesL_app (a b : List UInt8) : bytesL (a ++ b) = bytesL a ++ bytesL b := by simp [bytesL]
theorem bytesL_get (l : List UInt8) (j : Nat) (h : j < l.length) : (bytesL l)[j]? = some (.int .u8 (l[j].toNat : Int)) := by simp [bytesL, h]

def blkOf (A : Option Addr) : Option Nat := A.map (·.block)

/-- a row of bytes of the call's own -/
def OwnB (w : World) (A : Option Addr) (n c : Nat) (acc : List UInt8) : Prop := acc.length = n ∧ w.ownsRow 0 5 1 (.slice A n c) n (bytesL acc)

theorem ownBlk (A : Option Addr) (n c : Nat) : (Value.slice A n c).ownBlock = blkOf A := by cases A <;> rfl

theorem OwnB.nil (w : World) : OwnB w none 0 0 [] := ⟨rfl, World.ownsRow_nil _ _ _ _⟩
theorem OwnB.rb {w : World} {A : Option Addr} {n c : Nat} {acc : List UInt8} (h : OwnB w A n c acc) : RB w A acc := by
  intro j hj
  obtain ⟨hl, h1, h2⟩ := h
  rcases h2 with ⟨he, hn⟩ | ⟨g, cap, cur, he, _, hg, hnc, _, _, ht⟩
  · omega
  · injection he with he
    subst he
    refine ⟨g, 0, rfl, ?_⟩
    rw [cell_of_row w g _ cur _ _ hg, Nat.zero_add]
    have := bytesL_get acc j hj
    rw [← ht, List.getElem?_take] at this
    split at this
    · simpa using this
    · cases this
theorem OwnB.lt {w : World} {A : Option Addr} {n c : Nat} {acc : List UInt8} (h : OwnB w A n c acc) {r : Nat} (hr : blkOf A = some r) : r < w.heap.size :=
  (h.2.lt r (by rw [ownBlk]; exact hr)).2
theorem OwnB.cap {w : World} {A : Option Addr} {n c : Nat} {acc : List UInt8} (h : OwnB w A n c acc) : n ≤ c := by
  obtain ⟨hl, h1, h2⟩ := h
  rcases h2 with ⟨he, hn⟩ | ⟨g, cap, cur, he, _, hg, hnc, _, _, ht⟩
  · omega
  · injection he with _ _ he
    omega
theorem OwnB.ne {w : World} {A : Option Addr} {n c : Nat} {acc : List UInt8} (h : OwnB w A n c acc) {g : Nat} {t : TypeId} {cs : Array Value} (hb : Blk w g t cs) (ht : t ≠ 5) {r : Nat} (hr : blkOf A = some r) : r ≠ g := by
  rintro rfl
  obtain ⟨hl, h1, h2⟩ := h
  rcases h2 with ⟨he, hn⟩ | ⟨g, cap, cur, he, _, hg, hnc, _, _, _⟩
  · injection he with he
    subst he
    cases hr
  · injection he with he
    subst he
    cases hr
    unfold Blk at hb
    rw [hg] at hb
    injection hb with hb
    injection hb with _ hb
    exact ht hb.symm
theorem OwnB.keep {w w' : World} {A : Option Addr} {n c : Nat} {acc : List UInt8} (h : OwnB w A n c acc) (hk : ∀ r, blkOf A = some r → w'.heap[r]? = w.heap[r]?) : OwnB w' A n c acc := by
  obtain ⟨hl, h1, h2⟩ := h
  refine ⟨hl, h1, ?_⟩
  rcases h2 with ⟨he, hn⟩ | ⟨g, cap, cur, he, hb, hg, hr⟩
  · exact .inl ⟨he, hn⟩
  · refine .inr ⟨g, cap, cur, he, hb, ?_, hr⟩
    injection he with he
    subst he
    rw [hk g rfl, hg]

/-- w' holds w's blocks of the set S as they were -/
structure Keep (S : Nat → Prop) (w w' : World) : Prop where
  os : w'.os = w.os
  tape : w'.tape = w.tape
  output : w'.output = w.output
  size : w.heap.size ≤ w'.heap.size
  block : ∀ i, i < w.heap.size → S i → w'.heap[i]? = w.heap[i]?

section
variable {S S' : Nat → Prop} {a w w' w'' : World}
theorem Keep.refl (S : Nat → Prop) (w : World) : Keep S w w := ⟨rfl, rfl, rfl, Nat.le_refl _, fun _ _ _ => rfl⟩
theorem Keep.trans (h : Keep S w w') (k : Keep S w' w'') : Keep S w w'' :=
  ⟨k.os.trans h.os, k.tape.trans h.tape, k.output.trans h.output, Nat.le_trans h.size k.size, fun i hi hs => (k.block i (Nat.lt_of_lt_of_le hi h.size) hs).trans (h.block i hi hs)⟩
theorem Keep.mono (h : Keep S w w') (hs : ∀ i, i < w.heap.size → S' i → S i) : Keep S' w w' := ⟨h.os, h.tape, h.output, h.size, fun i hi hx => h.block i hi (hs i hi hx)⟩
theorem Keep.below {B : Nat} (h : Keep S w w') (hs : ∀ i, i < B → S i) (hB : B ≤ w.heap.size) : Below B w w' := ⟨h.os, h.tape, h.output, h.size, fun k hk => h.block k (by omega) (hs k hk)⟩
theorem Keep.of_below {B : Nat} (h : Below B w w') (hs : ∀ i, i < w.heap.size → S i → i < B) : Keep S w w' := ⟨h.os, h.tape, h.output, h.size, fun i hi hx => h.block i (hs i hi hx)⟩
theorem Keep.of_grown {row : Option Nat} (h : w.grownBy w' row) (hs : ∀ r, row = some r → ¬ S r) : Keep S w w' :=
  ⟨h.os, h.tape, h.output, h.size, fun i hi hx => h.block i hi (fun e => hs i e.symm hx)⟩
theorem Keep.alloc (h : Keep S a w) (o : Obj) : Keep S a (w.alloc o) :=
  h.trans ⟨rfl, rfl, rfl, by simp, fun i hi _ => Below.heap_alloc w o i hi⟩
theorem Keep.setCell (h : Keep S a w) {p : Addr} (hp : ¬ S p.block) (u : Value) : Keep S a (w.setCell p u) :=
  h.trans ⟨rfl, rfl, rfl, by simp [World.setCell], fun i hi hx => Below.heap_setCell w p u i (fun e => hp (e ▸ hx))⟩
theorem Keep.drew (h : Keep S a w) : Keep S a w.drew := ⟨h.os, h.tape, h.output, h.size, h.block⟩
theorem Keep.drewN (h : Keep S a w) (n : Nat) : Keep S a (w.drewN n) := ⟨h.os, h.tape, h.output, h.size, h.block⟩
theorem Keep.cell (h : Keep S w w') {p : Addr} (hp : S p.block) (hl : p.block < w.heap.size) : w'.cell? p = w.cell? p := World.cell?_of_block (w := w) (h.block p.block hl hp)
theorem Keep.blk {g : Nat} {t : TypeId} {cs : Array Value} (h : Keep S w w') (hb : Blk w g t cs) (hg : S g) : Blk w' g t cs := (h.block g hb.lt hg).trans hb
/-- the slice's block belongs to S (if it reads anything) -/
def In_ (S : Nat → Prop) (A : Option Addr) : Prop := ∀ r, blkOf A = some r → S r
theorem Keep.rb {A : Option Addr} {l : List UInt8} (h : Keep S w w') (hr : RB w A l) (hA : In_ S A) : RB w' A l := by
  intro j hj
  obtain ⟨b, o, e, hc⟩ := hr j hj
  refine ⟨b, o, e, ?_⟩
  rw [h.cell (hA _ (by rw [e]; rfl)) (cell_lt hc), hc]
theorem Keep.own {A : Option Addr} {n c : Nat} {acc : List UInt8} (h : Keep S w w') (hr : OwnB w A n c acc) (hA : In_ S A) : OwnB w' A n c acc :=
  hr.keep fun r hr' => h.block r (hr.lt hr') (hA r hr')
end

theorem info_u8 : (Tryd.prog.info? 5).map (fun i => (i.zero, i.size, i.bytes)) = some (some (.int .u8 0), 1, 1) := by kernel_rfl

set_option maxRecDepth 100000 in
/-- append onto a row of the call's own, whatever the source -/
theorem run_app (w : World) (ty : TypeId) (A : Option Addr) (n c : Nat) (acc : List UInt8) (hown : OwnB w A n c acc) (A2 : Option Addr) (m c2 : Nat) (l : List UInt8) (hl : l.length = m) (hr : RB w A2 l)
    (hb : n + m ≤ 140737488355328) :
    ∃ A' c' w', (Builtin.append_ #[31, 31] ty #[.slice A n c, .slice A2 m c2]).run Tryd.prog w = .ok (.slice A' (n + m) c') w' ∧ OwnB w' A' (n + m) c' (acc ++ l) ∧ w.grownBy w' (blkOf A) ∧
      (blkOf A' = blkOf A ∨ blkOf A' = some w.heap.size) := by
  obtain ⟨i0, hi0, hz0, hz1, hz2⟩ := info_parts info_u8
  have fin : ∀ v' w', w'.ownsRow 0 5 1 v' (n + m) (bytesL acc ++ bytesL l) → ∃ A' c', v' = .slice A' (n + m) c' ∧ OwnB w' A' (n + m) c' (acc ++ l) := by
    intro v' w' ho
    have hlen : (acc ++ l).length = n + m := by rw [List.length_append, hown.1, hl]
    rcases ho.2 with ⟨rfl, hn⟩ | ⟨g, cap, cur, rfl, hb⟩
    · refine ⟨none, 0, by rw [hn], hlen, ?_⟩
      rw [bytesL_app]
      rw [hn] at ho ⊢
      exact ho
    · exact ⟨_, _, rfl, hlen, by rw [bytesL_app]; exact ho⟩
  rcases A2 with _ | ad
  · have hm : m = 0 := by
      rcases Nat.eq_zero_or_pos m with h0 | h0
      · exact h0
      · obtain ⟨b, o, e, _⟩ := hr 0 (by omega)
        cases e
    subst hm
    have hnil : l = [] := List.eq_nil_of_length_eq_zero hl
    subst hnil
    refine ⟨A, c, w, ?_, by simpa using hown, World.grownBy.refl w _, .inl rfl⟩
    rcases hown.2.2 with ⟨he, hn⟩ | ⟨g, cap, cur, he, _, _, hnc, _⟩
    · injection he with h1 h2 h3
      subst h1 h2 h3
      simp [Builtin.append_, run_underlying Tryd.underlying31, sizeOf, typeInfo, hi0, Builtin.lenOf, Builtin.firstCells]
    · injection he with h1 _ h3
      subst h1 h3
      simp [Builtin.append_, run_underlying Tryd.underlying31, sizeOf, typeInfo, hi0, Builtin.lenOf, Builtin.firstCells, hnc, storeCells]
  · obtain ⟨v', w', hrun, h2, h3, _, h5⟩ := run_append_own_at (P := Tryd.prog) w 0 31 ty 5 i0 _ 1 1 Tryd.underlying31 hi0 hz0 hz1 hz2 rfl (by decide) (.slice A n c) n (bytesL acc) hown.2 ad m c2 (bytesL l)
      (by rw [bytesL_len, hl, Nat.mul_one]) (fun j u hu => by
        have hj : j < l.length := by
          rcases Nat.lt_or_ge j l.length with h | h
          · exact h
          · rw [List.getElem?_eq_none (by rw [bytesL_len]; exact h)] at hu
            cases hu
        obtain ⟨b, o, e, hc⟩ := hr j hj
        injection e with e
        subst e
        rw [bytesL_get l j hj] at hu
        injection hu with hu
        subst hu
        have hadd : (⟨b, o, none⟩ : Addr).add j = ⟨b, o + j, none⟩ := by unfold Addr.add; split <;> simp_all
        rw [hadd, hc]) (fun u hu => by
        obtain ⟨x, _, rfl⟩ := List.mem_map.1 hu
        rfl) (by simp only [maxLen]; omega) (by omega) (Nat.zero_le _)
    obtain ⟨A', c', rfl, ho⟩ := fin v' w' h2
    rw [ownBlk] at h3
    rw [ownBlk, ownBlk] at h5
    exact ⟨A', c', w', hrun, ho, h3, h5⟩

theorem wp_app {o : Oper} {a : Act} {K : Act → World → Prop} {Q : Exit → Act → World → Prop} (s x : Operand)
    (ho : o.op = .call { callee := .builtin .append, args := #[s, x], argTypes := #[31, 31] }) (w : World) (A : Option Addr) (n c : Nat) (acc : List UInt8) (hs : a.eval s = .slice A n c) (hown : OwnB w A n c acc)
    (A2 : Option Addr) (m c2 : Nat) (l : List UInt8) (hx : a.eval x = .slice A2 m c2) (hl : l.length = m) (hr : RB w A2 l) (hb : n + m ≤ 140737488355328)
    (h : ∀ A' c' w', OwnB w' A' (n + m) c' (acc ++ l) → w.grownBy w' (blkOf A) → (blkOf A' = blkOf A ∨ blkOf A' = some w.heap.size) → K (a.put o.dst (.slice A' (n + m) c')) w') : o.wp Tryd.prog a w K Q := by
  obtain ⟨A', c', w', hrun, h2, h3, h4⟩ := run_app w o.type A n c acc hown A2 m c2 l hl hr hb
  unfold Oper.wp execOp
  simp only [ho, resolve, invoke, builtin, Sem.run_bind, Sem.run_pure, Result.andThen_ok, List.map_toArray, List.map_cons, List.map_nil, hs, hx, hrun]
  exact h A' c' w' h2 h3 h4

theorem step_app {ops : Array Oper} {o : Oper} {a : Act} {K : Act → World → Prop} {Q : Exit → Act → World → Prop} {E : Prop} (hgd : o.guard = none) (s x : Operand)
    (ho : o.op = .call { callee := .builtin .append, args := #[s, x], argTypes := #[31, 31] }) (w : World) (A : Option Addr) (n c : Nat) (acc : List UInt8) (hs : a.eval s = .slice A n c) (hown : OwnB w A n c acc)
    (A2 : Option Addr) (m c2 : Nat) (l : List UInt8) (hx : a.eval x = .slice A2 m c2) (hl : l.length = m) (hr : RB w A2 l) (hb : n + m ≤ 140737488355328)
    (h : ∀ A' c' w', OwnB w' A' (n + m) c' (acc ++ l) → w.grownBy w' (blkOf A) → (blkOf A' = blkOf A ∨ blkOf A' = some w.heap.size) → K (a.put o.dst (.slice A' (n + m) c')) w') :
    if Region.wanted o (yielded ops a.tmps) = true then Oper.wp Tryd.prog o a w K Q else E := by
  rw [if_pos (by simp [Region.wanted, hgd])]
  exact wp_app s x ho w A n c acc hs hown A2 m c2 l hx hl hr hb h

theorem wpList_app {ops : Array Oper} {rest : List Oper} {o : Oper} {a : Act} {Q : Exit → Act → World → Prop} (hgd : o.guard = none) (s x : Operand)
    (ho : o.op = .call { callee := .builtin .append, args := #[s, x], argTypes := #[31, 31] }) (w : World) (A : Option Addr) (n c : Nat) (acc : List UInt8) (hs : a.eval s = .slice A n c) (hown : OwnB w A n c acc)
    (A2 : Option Addr) (m c2 : Nat) (l : List UInt8) (hx : a.eval x = .slice A2 m c2) (hl : l.length = m) (hr : RB w A2 l) (hb : n + m ≤ 140737488355328)
    (h : ∀ A' c' w', OwnB w' A' (n + m) c' (acc ++ l) → w.grownBy w' (blkOf A) → (blkOf A' = blkOf A ∨ blkOf A' = some w.heap.size) → wpList Tryd.prog ops Q rest (a.put o.dst (.slice A' (n + m) c')) w') : wpList Tryd.prog ops Q (o :: rest) a w :=
  wpList_plain hgd fun _ hK => wp_app s x ho w A n c acc hs hown A2 m c2 l hx hl hr hb fun A' c' w' h2 h3 h4 => hK _ _ (h A' c' w' h2 h3 h4)

end Go.Proofs.YtdkadlifjmmcbaaDoor
