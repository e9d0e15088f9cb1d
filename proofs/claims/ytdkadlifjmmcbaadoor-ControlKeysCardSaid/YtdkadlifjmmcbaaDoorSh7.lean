/- bytes.Join by the library's contract (its laying at this dump was written by the kit's program), as the walks want it. -/
import Derived.Ground.SlbNamesProg
import Derived.Shelf.Bytes.SlJoin
import Derived.Test.YtdkadlifjmmcbaaDoorSh6
namespace Go.Proofs.YtdkadlifjmmcbaaDoor
open Go.Shelf
open Go.RowKit

def joinRen : Go.Shelf.Ren := ⟨fun | 14 => 71 | 15 => 81 | n => n, fun | 26 => 107 | 22 => 31 | 3 => 3 | 4 => 4 | 0 => 0 | 9 => 9 | 20 => 20 | 5 => 5 | n => n, fun | n => n⟩
theorem joinLays : Go.Proofs.SlLaysJ.n14 Tryd.prog joinRen := {
  mixed := by kernel_rfl
  f14 := Tryd.func71.trans (congrArg some (by kernel_rfl))
  f15 := Tryd.func81.trans (congrArg some (by kernel_rfl))
  t0 := Tryd.underlying0
  a0 := Tryd.isAgg0
  z0 := Tryd.sizeOf0
  v0 := Tryd.zeroValue0
  t3 := Tryd.underlying3
  a3 := Tryd.isAgg3
  z3 := Tryd.sizeOf3
  v3 := Tryd.zeroValue3
  t4 := Tryd.underlying4
  a4 := Tryd.isAgg4
  z4 := Tryd.sizeOf4
  v4 := Tryd.zeroValue4
  t9 := Tryd.underlying9
  a9 := Tryd.isAgg9
  z9 := Tryd.sizeOf9
  v9 := Tryd.zeroValue9
  t20 := Tryd.underlying20
  a20 := Tryd.isAgg20
  z20 := Tryd.sizeOf20
  v20 := Tryd.zeroValue20
  t22 := Tryd.underlying31
  a22 := Tryd.isAgg31
  z22 := Tryd.sizeOf31
  v22 := Tryd.zeroValue31
  t26 := Tryd.underlying107
  a26 := Tryd.isAgg107
  z26 := Tryd.sizeOf107
  v26 := Tryd.zeroValue107
  t5 := Tryd.underlying5
  z5 := Tryd.sizeOf5
  i5 := by kernel_rfl }

theorem rb_holds {w : World} {A : Option Addr} {c : Nat} {l : List UInt8} (h : RB w A l) : Lib.HoldsBytes w (.slice A l.length c) l := by
  refine ⟨A, c, rfl, fun e => ?_, fun a ha i x hx => ?_⟩
  · rcases l with _ | ⟨y, l⟩
    · rfl
    · obtain ⟨b, o, e2, _⟩ := h 0 (by simp)
      rw [e] at e2
      cases e2
  · obtain ⟨hi, rfl⟩ := List.getElem?_eq_some_iff.1 hx
    obtain ⟨b, o, e2, hc⟩ := h i hi
    rw [ha] at e2
    cases e2
    have hadd : (⟨b, o, none⟩ : Addr).add i = ⟨b, o + i, none⟩ := by unfold Addr.add; split <;> simp_all
    rw [hadd]
    exact hc
theorem join_flat (ls : List (List UInt8)) : Lib.join ls [] = ls.flatten := by
  unfold Lib.join List.intercalate
  induction ls with
  | nil => rfl
  | cons x r ih =>
    cases r with
    | nil => simp
    | cons y r => simp only [List.intersperse_cons_cons, List.flatten_cons, List.nil_append] at ih ⊢; rw [ih]
theorem fresh_rb {B : Nat} {w : World} {v : Value} {l : List UInt8} (h : Lib.FreshBytes B w v l) : ∃ A c, v = .slice A l.length c ∧ RB w A l := by
  obtain ⟨g, cap, zs, rfl, _, hl, _, hz, hb, hbo, hc, _⟩ := h
  refine ⟨_, _, rfl, fun j hj => ⟨g, 0, rfl, ?_⟩⟩
  rw [Nat.zero_add, hc j (by omega)]
  have hjz : j < zs.length := by omega
  have e1 : zs.getD j 0 = zs[j] := by simp [hjz]
  rw [e1]
  have hbz := hb zs[j] (List.getElem_mem hjz)
  have e2 : l[j] = UInt8.ofNat (zs[j]).toNat := by
    have e3 : l[j]? = (Lib.bytesOf (zs.take l.length))[j]? := by rw [hbo]
    rw [List.getElem?_eq_getElem hj] at e3
    simp [Lib.bytesOf, hj, hjz] at e3
    exact e3
  rw [e2]
  congr 2
  simp
  omega

theorem join_any (b o n c : Nat) (vs : List Value) (ls : List (List UInt8)) (w : World) (hn : ls.length = n) (h2 : 2 ≤ n) (hP : Lib.PartsAt w ⟨b, o, none⟩ vs ls) (hcap : n ≤ c) (hn2 : n ≤ 140737488355328) (hlen : ls.flatten.length ≤ 140737488355328) :
    Calls Tryd.prog 71 #[.slice (some ⟨b, o, none⟩) n c, .slice none 0 0] w fun e w' => ∃ A c', e = .returned (.slice A ls.flatten.length c') ∧ RB w' A ls.flatten ∧ Below w.heap.size w w' := by
  have hl : Lib.lens ls + ([] : List UInt8).length * (n - 1) ≤ 140737488355328 := by
    rw [List.length_nil, Nat.zero_mul, Nat.add_zero]
    unfold Lib.lens
    rw [← List.length_flatten]
    exact hlen
  refine (Any.bytes_Join_many joinLays b o n c vs ls (.slice none 0 0) [] w hn h2 hP hcap (rb_holds (A := none) (c := 0) RB.nil) hn2 hl).mono ?_
  rintro e w' ⟨v', rfl, hf, hb⟩
  rw [join_flat] at hf
  obtain ⟨A, c', rfl, hr⟩ := fresh_rb hf
  exact ⟨A, c', rfl, hr, hb⟩

end Go.Proofs.YtdkadlifjmmcbaaDoor
