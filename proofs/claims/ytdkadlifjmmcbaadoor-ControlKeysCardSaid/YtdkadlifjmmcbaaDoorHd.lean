/- A header as a struct's cells, and the equality of arrays of bytes. -/
import Derived.Test.YtdkadlifjmmcbaaDoorRf
import Derived.Laws.StructEq
import Derived.ChangeKeysEq
import Derived.Handy
import Derived.Deep.MidRow
namespace Go.Proofs.YtdkadlifjmmcbaaDoor
open Go.RowKit

/-- a header's fields -/
structure Hdr where
  wr : Int
  sq : Nat
  pv : List UInt8
  ep : Int
  ct : Bool
  tm : Nat
  it : List UInt8
  A : Option Addr
  n : Nat
  c : Nat
  kn : List Nat
  sm : List UInt8
  sz : Int
  cd : List UInt8

/-- arrays have their lengths, numbers fit their kinds -/
structure Hdr.ok (h : Hdr) : Prop where
  pv : h.pv.length = 32
  it : h.it.length = 16
  kn : h.kn.length = 6
  sm : h.sm.length = 32
  cd : h.cd.length = 32

def Hdr.cells (h : Hdr) : List Value :=
  [.int .i64 h.wr, .int .u64 h.sq] ++ (bytesL h.pv ++ ([.int .i64 h.ep, .bool h.ct, .int .u64 h.tm] ++ (bytesL h.it ++ ([.slice h.A h.n h.c] ++ (h.kn.map (fun x : Nat => Value.int .u64 (x : Int)) ++ (bytesL h.sm ++ ([.int .i64 h.sz] ++ bytesL h.cd)))))))

def Hdr.arr (h : Hdr) : Array Value := h.cells.toArray

theorem Hdr.size {h : Hdr} (o : h.ok) : h.arr.size = 125 := by
  simp only [Hdr.arr, Hdr.cells, List.size_toArray, List.length_append, List.length_cons, List.length_nil, bytesL_len, List.length_map, o.pv, o.it, o.kn, o.sm, o.cd]

theorem get_skip {a b : List Value} {k i : Nat} (h : a.length = k) (hi : k ≤ i) : (a ++ b)[i]? = b[i - k]? := by
  rw [List.getElem?_append_right (by omega), h]
theorem get_here {a b : List Value} {k i : Nat} (h : a.length = k) (hi : i < k) : (a ++ b)[i]? = a[i]? := List.getElem?_append_left (by omega)

/-- a header lies whole in a block -/
structure HAt (w : World) (g : Nat) (h : Hdr) : Prop where
  blk : Blk w g 49 h.arr
  ok : h.ok

section
variable {w : World} {g : Nat} {h : Hdr} (H : HAt w g h)
include H
theorem HAt.at (i : Nat) : w.cell? ⟨g, i, none⟩ = h.cells[i]? := by rw [H.blk.cell]; simp [Hdr.arr]
theorem HAt.wr : w.cell? ⟨g, 0, none⟩ = some (.int .i64 h.wr) := by rw [H.at]; rfl
theorem HAt.sq : w.cell? ⟨g, 1, none⟩ = some (.int .u64 h.sq) := by rw [H.at]; rfl
theorem HAt.pv (i : Nat) (hi : i < 32) : w.cell? ⟨g, 2 + i, none⟩ = (bytesL h.pv)[i]? := by
  rw [H.at, Hdr.cells, get_skip (k := 2) rfl (by omega), get_here (k := 32) (by rw [bytesL_len, H.ok.pv]) (by omega), show 2 + i - 2 = i from by omega]
theorem HAt.ep : w.cell? ⟨g, 34, none⟩ = some (.int .i64 h.ep) := by
  rw [H.at, Hdr.cells, get_skip (k := 2) rfl (by omega), get_skip (k := 32) (by rw [bytesL_len, H.ok.pv]) (by omega)]; rfl
theorem HAt.ct : w.cell? ⟨g, 35, none⟩ = some (.bool h.ct) := by
  rw [H.at, Hdr.cells, get_skip (k := 2) rfl (by omega), get_skip (k := 32) (by rw [bytesL_len, H.ok.pv]) (by omega)]; rfl
theorem HAt.tm : w.cell? ⟨g, 36, none⟩ = some (.int .u64 h.tm) := by
  rw [H.at, Hdr.cells, get_skip (k := 2) rfl (by omega), get_skip (k := 32) (by rw [bytesL_len, H.ok.pv]) (by omega)]; rfl
theorem HAt.it (i : Nat) (hi : i < 16) : w.cell? ⟨g, 37 + i, none⟩ = (bytesL h.it)[i]? := by
  rw [H.at, Hdr.cells, get_skip (k := 2) rfl (by omega), get_skip (k := 32) (by rw [bytesL_len, H.ok.pv]) (by omega), get_skip (k := 3) rfl (by omega), get_here (k := 16) (by rw [bytesL_len, H.ok.it]) (by omega), show 37 + i - 2 - 32 - 3 = i from by omega]
theorem HAt.toks : w.cell? ⟨g, 53, none⟩ = some (.slice h.A h.n h.c) := by
  rw [H.at, Hdr.cells, get_skip (k := 2) rfl (by omega), get_skip (k := 32) (by rw [bytesL_len, H.ok.pv]) (by omega), get_skip (k := 3) rfl (by omega), get_skip (k := 16) (by rw [bytesL_len, H.ok.it]) (by omega)]; rfl
theorem HAt.kn (i : Nat) (hi : i < 6) : w.cell? ⟨g, 54 + i, none⟩ = (h.kn[i]?).map (fun x : Nat => Value.int .u64 (x : Int)) := by
  rw [H.at, Hdr.cells, get_skip (k := 2) rfl (by omega), get_skip (k := 32) (by rw [bytesL_len, H.ok.pv]) (by omega), get_skip (k := 3) rfl (by omega), get_skip (k := 16) (by rw [bytesL_len, H.ok.it]) (by omega), get_skip (k := 1) rfl (by omega),
    get_here (k := 6) (by rw [List.length_map, H.ok.kn]) (by omega), show 54 + i - 2 - 32 - 3 - 16 - 1 = i from by omega, List.getElem?_map]
theorem HAt.sm (i : Nat) (hi : i < 32) : w.cell? ⟨g, 60 + i, none⟩ = (bytesL h.sm)[i]? := by
  rw [H.at, Hdr.cells, get_skip (k := 2) rfl (by omega), get_skip (k := 32) (by rw [bytesL_len, H.ok.pv]) (by omega), get_skip (k := 3) rfl (by omega), get_skip (k := 16) (by rw [bytesL_len, H.ok.it]) (by omega), get_skip (k := 1) rfl (by omega),
    get_skip (k := 6) (by rw [List.length_map, H.ok.kn]) (by omega), get_here (k := 32) (by rw [bytesL_len, H.ok.sm]) (by omega), show 60 + i - 2 - 32 - 3 - 16 - 1 - 6 = i from by omega]
theorem HAt.sz : w.cell? ⟨g, 92, none⟩ = some (.int .i64 h.sz) := by
  rw [H.at, Hdr.cells, get_skip (k := 2) rfl (by omega), get_skip (k := 32) (by rw [bytesL_len, H.ok.pv]) (by omega), get_skip (k := 3) rfl (by omega), get_skip (k := 16) (by rw [bytesL_len, H.ok.it]) (by omega), get_skip (k := 1) rfl (by omega),
    get_skip (k := 6) (by rw [List.length_map, H.ok.kn]) (by omega), get_skip (k := 32) (by rw [bytesL_len, H.ok.sm]) (by omega)]; rfl
theorem HAt.cd (i : Nat) (hi : i < 32) : w.cell? ⟨g, 93 + i, none⟩ = (bytesL h.cd)[i]? := by
  rw [H.at, Hdr.cells, get_skip (k := 2) rfl (by omega), get_skip (k := 32) (by rw [bytesL_len, H.ok.pv]) (by omega), get_skip (k := 3) rfl (by omega), get_skip (k := 16) (by rw [bytesL_len, H.ok.it]) (by omega), get_skip (k := 1) rfl (by omega),
    get_skip (k := 6) (by rw [List.length_map, H.ok.kn]) (by omega), get_skip (k := 32) (by rw [bytesL_len, H.ok.sm]) (by omega), get_skip (k := 1) rfl (by omega)]
  rw [show 93 + i - 2 - 32 - 3 - 16 - 1 - 6 - 32 - 1 = i from by omega]

theorem HAt.alloc (o : Obj) : HAt (w.alloc o) g h := ⟨H.blk.alloc o, H.ok⟩
theorem HAt.next {w' : World} (hb : Below w.heap.size w w') : HAt w' g h := ⟨H.blk.next hb, H.ok⟩
theorem HAt.drew : HAt w.drew g h := ⟨H.blk, H.ok⟩
theorem HAt.drewN (n : Nat) : HAt (w.drewN n) g h := ⟨H.blk, H.ok⟩
theorem HAt.keep {S : Nat → Prop} {w' : World} (hk : Keep S w w') (hg : S g) : HAt w' g h := ⟨hk.blk H.blk hg, H.ok⟩

theorem HAt.gpv : w.rangeAt g 2 (bytesL h.pv) := fun j v hv => by rw [H.pv j (by have := H.ok.pv; rw [← bytesL_len] at this; have := (List.getElem?_eq_some_iff.1 hv).1; omega), hv]
theorem HAt.git : w.rangeAt g 37 (bytesL h.it) := fun j v hv => by rw [H.it j (by have := H.ok.it; rw [← bytesL_len] at this; have := (List.getElem?_eq_some_iff.1 hv).1; omega), hv]
theorem HAt.gcd : w.rangeAt g 93 (bytesL h.cd) := fun j v hv => by rw [H.cd j (by have := H.ok.cd; rw [← bytesL_len] at this; have := (List.getElem?_eq_some_iff.1 hv).1; omega), hv]
theorem HAt.rpv : RB w (some ⟨g, 2, none⟩) h.pv := fun j hj => ⟨g, 2, rfl, by rw [H.pv j (by have := H.ok.pv; omega)]; simp [bytesL, hj]⟩
theorem HAt.rit : RB w (some ⟨g, 37, none⟩) h.it := fun j hj => ⟨g, 37, rfl, by rw [H.it j (by have := H.ok.it; omega)]; simp [bytesL, hj]⟩
theorem HAt.rsm : RB w (some ⟨g, 60, none⟩) h.sm := fun j hj => ⟨g, 60, rfl, by rw [H.sm j (by have := H.ok.sm; omega)]; simp [bytesL, hj]⟩
theorem HAt.rcd : RB w (some ⟨g, 93, none⟩) h.cd := fun j hj => ⟨g, 93, rfl, by rw [H.cd j (by have := H.ok.cd; omega)]; simp [bytesL, hj]⟩
end

/-- a header that is passed is put into a block -/
theorem HAt.new (w : World) {h : Hdr} (o : h.ok) : HAt (w.alloc (.cells h.arr 49)) w.heap.size h := ⟨Blk.new _ _ _, o⟩

theorem run_eqItems_ints {P : Program} (w : World) (d : Nat) {e : TypeId} {k k' : IntKind} (hu : P.underlying e = some (.int k')) (xs ys : List Int) : ∀ m j, j + m = xs.length → j + m = ys.length →
    (Op.eqItems (d + 1) e 1 (xs.map (Value.int k)).toArray (ys.map (Value.int k)).toArray (List.range' j m)).run P w = .ok (xs.drop j == ys.drop j) w := by
  intro m
  have he : P.plainKey e = true := by simp [Program.plainKey, hu]
  induction m with
  | zero =>
    intro j h1 h2
    rw [List.drop_of_length_le (by omega), List.drop_of_length_le (by omega)]
    simp [Op.eqItems]
  | succ m ih =>
    intro j h1 h2
    have hx : (xs.map (Value.int k)).toArray[j * 1]? = some (.int k xs[j]) := by simp
    have hy : (ys.map (Value.int k)).toArray[j * 1]? = some (.int k ys[j]) := by simp
    have hd1 : xs.drop j = xs[j] :: xs.drop (j + 1) := List.drop_eq_getElem_cons (by omega)
    have hd2 : ys.drop j = ys[j] :: ys.drop (j + 1) := List.drop_eq_getElem_cons (by omega)
    simp only [List.range'_succ, Op.eqItems, Sem.run_bind, run_part_plain w he hx, run_part_plain w he hy, Result.andThen_ok, run_equalIn_int w d e k k' _ _ hu]
    rw [hd1, hd2]
    have hc : ((xs[j] :: xs.drop (j + 1)) == (ys[j] :: ys.drop (j + 1))) = ((xs[j] == ys[j]) && (xs.drop (j + 1) == ys.drop (j + 1))) := rfl
    rw [hc]
    cases (xs[j] == ys[j])
    · simp
    · simp only [Bool.not_true, Bool.false_eq_true, if_false, Bool.true_and]
      exact ih (j + 1) (by omega) (by omega)

theorem run_eq_ints {P : Program} (w : World) {t e : TypeId} {n : Nat} {k k' : IntKind} {i : TypeInfo} (ht : P.underlying t = some (.array n e)) (hi : P.info? e = some i) (hs : i.size = 1) (hu : P.underlying e = some (.int k')) (xs ys : List Int) (h1 : xs.length = n) (h2 : ys.length = n) :
    (binOp .eql t (.agg (xs.map (Value.int k)).toArray) (.agg (ys.map (Value.int k)).toArray)).run P w = .ok (.bool (xs == ys)) w := by
  have hc : P.cellsOf e = 1 := by simp [Program.cellsOf, hi, hs]
  rw [run_eql_struct, run_equalIn_array w 9999 _ _ ht hi, hc, List.range_eq_range', run_eqItems_ints w 9998 hu xs ys n 0 (by omega) (by omega)]
  simp

theorem bytesL_ints (l : List UInt8) : bytesL l = (l.map fun x => (x.toNat : Int)).map (Value.int .u8) := by simp [bytesL]
theorem ints_eq (a b : List UInt8) : ((a.map fun x => (x.toNat : Int)) == (b.map fun x => (x.toNat : Int))) = (a == b) := by
  rw [Bool.eq_iff_iff, beq_iff_eq, beq_iff_eq]
  constructor
  · intro h
    exact (List.map_inj_right (fun x y h => UInt8.toNat_inj.1 (by omega))).1 h
  · rintro rfl; rfl

/-- two arrays of bytes: are they the same? -/
theorem run_eq_bytes {P : Program} (w : World) {t e : TypeId} {n : Nat} {k' : IntKind} {i : TypeInfo} (ht : P.underlying t = some (.array n e)) (hi : P.info? e = some i) (hs : i.size = 1) (hu : P.underlying e = some (.int k')) (a b : List UInt8) (h1 : a.length = n) (h2 : b.length = n) :
    (binOp .eql t (.agg (bytesL a).toArray) (.agg (bytesL b).toArray)).run P w = .ok (.bool (a == b)) w := by
  rw [bytesL_ints, bytesL_ints, run_eq_ints w ht hi hs hu _ _ (by simpa using h1) (by simpa using h2), ints_eq]

theorem list6 {α : Type} : ∀ {l : List α}, l.length = 6 → ∃ a b c d e f, l = [a, b, c, d, e, f]
  | [a, b, c, d, e, f], _ => ⟨a, b, c, d, e, f, rfl⟩

theorem info_size {P : Program} {t : TypeId} {n : Nat} (h : (P.info? t).map (·.size) = some n) : ∃ i, P.info? t = some i ∧ i.size = n := by
  cases hq : P.info? t with
  | none => simp [hq] at h
  | some i => exact ⟨i, rfl, by simpa [hq] using h⟩

/-- an array of one-celled integers is indexed -/
theorem run_index_arr {P : Program} (w : World) (t e : TypeId) (n : Nat) (cs : Array Value) (k k' : IntKind) (j : Nat) (v : Value) (i : TypeInfo) (h : P.underlying t = some (.array n e)) (hi : P.info? e = some i) (hs : i.size = 1) (hu : P.underlying e = some (.int k')) (hj : j < n) (hv : cs[j]? = some v) :
    (Instr.index t (.agg cs) (.int k j)).run P w = .ok v w := by
  have he : P.plainKey e = true := by simp [Program.plainKey, hu]
  have hn : (0 : Int) ≤ j ∧ (j : Int) < n := by omega
  have hc : P.cellsOf e = 1 := by simp [Program.cellsOf, hi, hs]
  have hv' : cs[(j : Int).toNat * 1]? = some v := by simpa using hv
  simp only [Instr.index, asIntOf, Sem.run_bind, Sem.run_pure, Result.andThen_ok, run_underlying h, if_pos hn, run_sizeOf w hi, hc, run_part_plain w he hv']

/-- a part of a block is loaded, guarded or not -/
theorem wpList_load_midG {P : Program} {ops : Array Oper} {rest : List Oper} {op : Oper} {a : Act} {w : World} {Q : Exit → Act → World → Prop} (hw : Region.wanted op (yielded ops a.tmps) = true) (ty : TypeId) (x : Operand) (ho : op.op = .load ty x)
    (b o : Nat) (hx : a.eval x = .pointer (some ⟨b, o, none⟩)) (cs : List Value) (d : TypeDesc) (hc : w.rangeAt b o cs)
    (hu : P.underlying ty = some d) (hd : d.isRow = true) (hi : (P.info? ty).map (·.size) = some cs.length)
    (h : wpList P ops Q rest (a.put op.dst (.agg cs.toArray)) w) : wpList P ops Q (op :: rest) a w :=
  BigFrame.wpList_want hw fun _ hK => wp_load_mid ty x ho b o hx cs d hc hu hd hi (hK _ _ h)

/-- a part of a block is loaded: the operation is looked at first -/
theorem wpList_load_midS {P : Program} {ops : Array Oper} {rest : List Oper} {dst : Option Tmp} {t : TypeId} {pos : String} {after : Array Edge} {guard : Option (Nat × Bool)} {ty : TypeId} {x : Operand} {a : Act} {w : World} {Q : Exit → Act → World → Prop}
    (b o : Nat) (cs : List Value) (d : TypeDesc) (hc : w.rangeAt b o cs) (hu : P.underlying ty = some d) (hd : d.isRow = true) (hi : (P.info? ty).map (·.size) = some cs.length)
    (hx : a.eval x = .pointer (some ⟨b, o, none⟩)) (hw : Region.wanted { dst := dst, op := .load ty x, type := t, pos := pos, after := after, guard := guard } (yielded ops a.tmps) = true)
    (h : wpList P ops Q rest (a.put dst (.agg cs.toArray)) w) : wpList P ops Q ({ dst := dst, op := .load ty x, type := t, pos := pos, after := after, guard := guard } :: rest) a w :=
  wpList_load_midG hw ty x rfl b o hx cs d hc hu hd hi h

def zeros (n : Nat) : List UInt8 := List.replicate n 0
theorem zeros_len (n : Nat) : (zeros n).length = n := by simp [zeros]
theorem zeros32 : (bytesL (zeros 32)).toArray = #[.int .u8 0, .int .u8 0, .int .u8 0, .int .u8 0, .int .u8 0, .int .u8 0, .int .u8 0, .int .u8 0, .int .u8 0, .int .u8 0, .int .u8 0, .int .u8 0, .int .u8 0, .int .u8 0, .int .u8 0, .int .u8 0, .int .u8 0, .int .u8 0, .int .u8 0, .int .u8 0, .int .u8 0, .int .u8 0, .int .u8 0, .int .u8 0, .int .u8 0, .int .u8 0, .int .u8 0, .int .u8 0, .int .u8 0, .int .u8 0, .int .u8 0, .int .u8 0] := rfl
theorem zeros16 : (bytesL (zeros 16)).toArray = #[.int .u8 0, .int .u8 0, .int .u8 0, .int .u8 0, .int .u8 0, .int .u8 0, .int .u8 0, .int .u8 0, .int .u8 0, .int .u8 0, .int .u8 0, .int .u8 0, .int .u8 0, .int .u8 0, .int .u8 0, .int .u8 0] := rfl
theorem eqin_bytes {P : Program} {t e : TypeId} {n : Nat} {k' : IntKind} (ht : P.underlying t = some (.array n e)) (hi : (P.info? e).map (·.size) = some 1) (hu : P.underlying e = some (.int k')) (a b : List UInt8) (h1 : a.length = n) (h2 : b.length = n) (w : World) :
    (Op.equalIn 10000 t (.agg (bytesL a).toArray) (.agg (bytesL b).toArray)).run P w = .ok (a == b) w := by
  obtain ⟨i, hi, hs⟩ := info_size hi
  have hc : P.cellsOf e = 1 := by simp [Program.cellsOf, hi, hs]
  rw [run_equalIn_array w 9999 _ _ ht hi, hc, List.range_eq_range', bytesL_ints, bytesL_ints, run_eqItems_ints w 9998 hu _ _ n 0 (by simpa using h1.symm) (by simpa using h2.symm)]
  simp [ints_eq]
theorem eqin_zero {P : Program} {t e : TypeId} {k' : IntKind} (ht : P.underlying t = some (.array 32 e)) (hi : (P.info? e).map (·.size) = some 1) (hu : P.underlying e = some (.int k')) (a : List UInt8) (h1 : a.length = 32) (w : World) :
    (Op.equalIn 10000 t (.agg (bytesL a).toArray) (.agg #[.int .u8 0, .int .u8 0, .int .u8 0, .int .u8 0, .int .u8 0, .int .u8 0, .int .u8 0, .int .u8 0, .int .u8 0, .int .u8 0, .int .u8 0, .int .u8 0, .int .u8 0, .int .u8 0, .int .u8 0, .int .u8 0, .int .u8 0, .int .u8 0, .int .u8 0, .int .u8 0, .int .u8 0, .int .u8 0, .int .u8 0, .int .u8 0, .int .u8 0, .int .u8 0, .int .u8 0, .int .u8 0, .int .u8 0, .int .u8 0, .int .u8 0, .int .u8 0])).run P w = .ok (a == zeros 32) w := by
  rw [← zeros32]; exact eqin_bytes ht hi hu a _ h1 (zeros_len 32) w
theorem eqin_zero16 {P : Program} {t e : TypeId} {k' : IntKind} (ht : P.underlying t = some (.array 16 e)) (hi : (P.info? e).map (·.size) = some 1) (hu : P.underlying e = some (.int k')) (a : List UInt8) (h1 : a.length = 16) (w : World) :
    (Op.equalIn 10000 t (.agg (bytesL a).toArray) (.agg #[.int .u8 0, .int .u8 0, .int .u8 0, .int .u8 0, .int .u8 0, .int .u8 0, .int .u8 0, .int .u8 0, .int .u8 0, .int .u8 0, .int .u8 0, .int .u8 0, .int .u8 0, .int .u8 0, .int .u8 0, .int .u8 0])).run P w = .ok (a == zeros 16) w := by
  rw [← zeros16]; exact eqin_bytes ht hi hu a _ h1 (zeros_len 16) w

end Go.Proofs.YtdkadlifjmmcbaaDoor
