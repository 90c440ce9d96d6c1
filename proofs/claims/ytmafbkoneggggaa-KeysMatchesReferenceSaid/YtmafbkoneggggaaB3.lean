/-
  Blocks of eight bytes, and what a call leaves that writes one block of its caller's.
-/
import Derived.Test.YtmafbkoneggggaaB2
import Derived.Test.YtmafbkoneggggaaW2
namespace Go.Proofs.Ytmafbkoneggggaa
open Go.RowKit

/-- Of what was there, block g alone may have been written. -/
structure But (W W' : World) (g : Nat) : Prop where
  other : ∀ b, b < W.heap.size → b ≠ g → W'.heap[b]? = W.heap[b]?
  size : W.heap.size ≤ W'.heap.size
  os : W'.os = W.os
  tape : W'.tape = W.tape
  output : W'.output = W.output

theorem But.refl (W : World) (g : Nat) : But W W g := ⟨fun _ _ _ => rfl, Nat.le_refl _, rfl, rfl, rfl⟩
theorem But.of_below {W W' : World} {g : Nat} (h : Below W.heap.size W W') : But W W' g := ⟨fun b hb _ => h.block b hb, h.size, h.os, h.tape, h.output⟩
theorem But.of_only {W W' : World} {g : Nat} (h : Only W W' g) : But W W' g := ⟨fun b _ hb => h.other b hb, by rw [h.size]; exact Nat.le_refl _, h.os, h.tape, h.output⟩
theorem But.trans {A B C : World} {g : Nat} (h : But A B g) (k : But B C g) : But A C g :=
  ⟨fun b hb hg => (k.other b (Nat.lt_of_lt_of_le hb h.size) hg).trans (h.other b hb hg), Nat.le_trans h.size k.size, k.os.trans h.os, k.tape.trans h.tape, k.output.trans h.output⟩
theorem But.blk {W W' : World} {g b : Nat} {C : List Value} {t : TypeId} (h : But W W' g) (hg : b ≠ g) (hB : Blk W b C t) : Blk W' b C t := (h.other b hB.lt hg).trans hB
theorem But.below {W W' w0 : World} {g B : Nat} (h : But W W' g) (hg : B ≤ g) (hs : B ≤ W.heap.size) (hb : Below B w0 W) : Below B w0 W' :=
  hb.trans ⟨h.os, h.tape, h.output, h.size, fun k hk => h.other k (by omega) (by omega)⟩
theorem But.setCell (W : World) (g j : Nat) (v : Value) : But W (W.setCell ⟨g, j, none⟩ v) g :=
  ⟨fun b _ hb => Below.heap_setCell W ⟨g, j, none⟩ v b hb, by simp [World.setCell], rfl, rfl, rfl⟩
theorem But.drew (W : World) (g : Nat) : But W W.drew g := ⟨fun _ _ _ => rfl, Nat.le_refl _, rfl, rfl, rfl⟩

theorem But.fresh {W W' : World} {g a : Nat} (h : But W W' g) (ha : W.heap.size ≤ a) (j : Nat) (v : Value) : But W (W'.setCell ⟨a, j, none⟩ v) g :=
  ⟨fun b hb hg => (Below.heap_setCell W' ⟨a, j, none⟩ v b (show b ≠ a by omega)).trans (h.other b hb hg), by simpa [World.setCell] using h.size, h.os, h.tape, h.output⟩

/-- The byte at place i. -/
def nth (l : List UInt8) (i : Nat) : UInt8 := l.getD i 0
/-- Eight bytes as cells. -/
def arrC (l : List UInt8) : List Value := [.int .u8 (nth l 0).toNat, .int .u8 (nth l 1).toNat, .int .u8 (nth l 2).toNat, .int .u8 (nth l 3).toNat, .int .u8 (nth l 4).toNat, .int .u8 (nth l 5).toNat, .int .u8 (nth l 6).toNat, .int .u8 (nth l 7).toNat]

theorem list8 (l : List UInt8) (h : l.length = 8) : ∃ a b c d e f g i, l = [a, b, c, d, e, f, g, i] := by
  match l, h with
  | [a, b, c, d, e, f, g, i], _ => exact ⟨a, b, c, d, e, f, g, i, rfl⟩
theorem arrC_eq (l : List UInt8) (h : l.length = 8) : byteCells l = arrC l := by
  obtain ⟨a, b, c, d, e, f, g, i, rfl⟩ := list8 l h
  rfl
theorem nth_of (l : List UInt8) (k : Nat) (h : k < l.length) : l[k]? = some (nth l k) := by
  unfold nth; rw [List.getD_eq_getElem?_getD, List.getElem?_eq_getElem h]; rfl
theorem byteCells_at (l : List UInt8) (k : Nat) (h : k < l.length) : (byteCells l)[k]? = some (.int .u8 (nth l k).toNat) := by
  unfold byteCells; rw [List.getElem?_map, nth_of l k h]; rfl
theorem byteCells_set (l : List UInt8) (k : Nat) (x : UInt8) : (byteCells l).set k (.int .u8 x.toNat) = byteCells (l.set k x) := by
  unfold byteCells; rw [List.map_set]

/-- 'copy(a[:], t)' into an array of eight bytes. -/
theorem copy_bytes {W : World} {g : Nat} {C : List UInt8} {u : TypeId} (t : ByteArray) (hg : Blk W g (byteCells C) u) (hC : C.length = 8) :
    ∃ W', (Builtin.copy_ #[30, 9] 3 #[.slice (some ⟨g, 0, none⟩) 8 8, .string t]).run Try.prog W = .ok (.int .i64 (min t.size 8 : Nat)) W' ∧ Blk W' g (byteCells (t.data.toList.take 8 ++ C.drop (t.data.toList.take 8).length)) u ∧ Only W W' g := by
  have hlen : (byteCells (t.data.toList.take 8)).length = min t.size 8 := by rw [byteCells_length, List.length_take]; simp [Nat.min_comm]
  have hbl := byteCells_length C
  have hst := run_storeCells_at Try.prog g 0 u (byteCells (t.data.toList.take 8)) 0 (byteCells C).toArray W hg (by rw [hlen]; simp; omega) (by
    intro v hv
    simp only [byteCells, List.mem_map] at hv
    obtain ⟨b, _, rfl⟩ := hv
    rfl)
  refine ⟨W.setRow g (byteCells (t.data.toList.take 8 ++ C.drop (t.data.toList.take 8).length)).toArray, ?_, setRow_heap W g _ _ u (0, 0) hg, only_setRow _ _ _⟩
  have htk : List.take (min t.size 8) (List.map (fun b : UInt8 => Value.int IntKind.u8 (b.toNat : Int)) t.data.toList) = byteCells (t.data.toList.take 8) := by
    unfold byteCells
    rw [← List.map_take]
    congr 1
    have e : t.data.toList.length = t.size := by simp
    rw [List.take_eq_take_iff, e]
    omega
  have hfin : ((byteCells C).toArray.toList.take (0 + 0) ++ byteCells (t.data.toList.take 8) ++ (byteCells C).toArray.toList.drop (0 + 0 + (byteCells (t.data.toList.take 8)).length)) = byteCells (t.data.toList.take 8 ++ C.drop (t.data.toList.take 8).length) := by
    simp [byteCells]
  rw [hfin] at hst
  have hs : (Try.prog.info? 5).map (·.size) = some 1 := by kernel_rfl
  cases hq : Try.prog.info? 5 with
  | none => simp [hq] at hs
  | some i =>
    simp [Builtin.copy_, run_underlying Try.underlying30, Builtin.lenOf, Builtin.firstCells, sizeOf, typeInfo, hq]
    rw [htk, hst]
    simp [Result.andThen]
    rfl

end Go.Proofs.Ytmafbkoneggggaa
