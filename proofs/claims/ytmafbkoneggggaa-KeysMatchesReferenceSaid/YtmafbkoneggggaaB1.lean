/-
  Blocks of memory known whole: small laws for walks. No program in sight.
-/
import Derived.WalkKit
import Derived.Lib.Hide
import Derived.RangeFuncBox
import Derived.Deep.QuietTactic
namespace Go.Proofs.Ytmafbkoneggggaa
open Go.RowKit

/-- Block b holds the cells C, none of them frozen. -/
def Blk (W : World) (b : Nat) (C : List Value) (t : TypeId) : Prop := W.heap[b]? = some (.cells C.toArray t (0, 0))

theorem Blk.new (W : World) (C : List Value) (t : TypeId) : Blk (W.alloc (.cells C.toArray t)) W.heap.size C t := World.alloc_heap_new W _
theorem Blk.newAt (W : World) (C : List Value) (t : TypeId) {n : Nat} (hn : W.heap.size = n) : Blk (W.alloc (.cells C.toArray t)) n C t := hn ▸ Blk.new W C t
theorem Blk.lt {W : World} {b : Nat} {C : List Value} {t : TypeId} (h : Blk W b C t) : b < W.heap.size := (Array.getElem?_eq_some_iff.1 h).1
theorem Blk.below {W W' : World} {B b : Nat} {C : List Value} {t : TypeId} (h : Blk W b C t) (hb : Below B W W') (hl : b < B) : Blk W' b C t := (hb.block b hl).trans h
theorem Blk.kept {W W' : World} {b : Nat} {C : List Value} {t : TypeId} (h : Blk W b C t) (hb : Below W.heap.size W W') : Blk W' b C t := h.below hb h.lt
theorem Blk.alloc {W : World} {b : Nat} {C : List Value} {t : TypeId} (h : Blk W b C t) (o : Obj) : Blk (W.alloc o) b C t := h.kept ((Below.refl _ _).alloc (Nat.le_refl _) _)
theorem Blk.drew {W : World} {b : Nat} {C : List Value} {t : TypeId} (h : Blk W b C t) : Blk W.drew b C t := h
theorem Blk.drewN {W : World} {b : Nat} {C : List Value} {t : TypeId} (h : Blk W b C t) (n : Nat) : Blk (W.drewN n) b C t := h
theorem Blk.cell {W : World} {b : Nat} {C : List Value} {t : TypeId} (h : Blk W b C t) {j : Nat} {v : Value} (hv : C[j]? = some v) : W.cell? ⟨b, j, none⟩ = some v := by
  unfold World.cell?
  rw [show W.heap[b]? = _ from h]
  simpa using hv
theorem Blk.frozen {W : World} {b : Nat} {C : List Value} {t : TypeId} (h : Blk W b C t) (j : Nat) : W.frozen? ⟨b, j, none⟩ = false := by
  unfold World.frozen?
  rw [show W.heap[b]? = _ from h]
  simp
theorem Blk.set {W : World} {b : Nat} {C : List Value} {t : TypeId} (h : Blk W b C t) (j : Nat) (v : Value) : Blk (W.setCell ⟨b, j, none⟩ v) b (C.set j v) t := by
  unfold Blk
  unfold Blk at h
  have hl := (Array.getElem?_eq_some_iff.1 h).1
  simp only [World.setCell, Array.getElem?_modify]
  rw [if_pos trivial, h]
  simp
theorem Blk.other {W : World} {b : Nat} {C : List Value} {t : TypeId} (h : Blk W b C t) {a : Nat} (ha : b ≠ a) (j : Nat) (v : Value) : Blk (W.setCell ⟨a, j, none⟩ v) b C t :=
  (Below.heap_setCell W ⟨a, j, none⟩ v b ha).trans h

end Go.Proofs.Ytmafbkoneggggaa
