/-
  What the built-in copy does to a block known whole, in the program's own types.
-/
import Derived.Laws.CopyOwn
import Derived.Test.YtmafbkoneggggaaRows
import Derived.Test.YtmafbkoneggggaaB1
namespace Go.Proofs.Ytmafbkoneggggaa
open Go.RowKit

/-- What a store into block g leaves. -/
structure Only (W W' : World) (g : Nat) : Prop where
  other : ∀ b, b ≠ g → W'.heap[b]? = W.heap[b]?
  size : W'.heap.size = W.heap.size
  os : W'.os = W.os
  tape : W'.tape = W.tape
  output : W'.output = W.output

theorem Only.blk {W W' : World} {g b : Nat} {C : List Value} {t : TypeId} (h : Only W W' g) (hb : b ≠ g) (hB : Blk W b C t) : Blk W' b C t := (h.other b hb).trans hB
theorem Only.below {W W' w0 : World} {g B : Nat} (h : Only W W' g) (hg : B ≤ g) (hb : Below B w0 W) : Below B w0 W' :=
  hb.trans ⟨h.os, h.tape, h.output, by rw [h.size]; exact Nat.le_refl _, fun k hk => h.other k (by omega)⟩

theorem only_setRow (W : World) (g : Nat) (cs : Array Value) : Only W (W.setRow g cs) g := by
  refine ⟨fun b hb => ?_, by simp [World.setRow], rfl, rfl, rfl⟩
  simp only [World.setRow, Array.getElem?_modify]
  rw [if_neg (fun h => hb h.symm)]

theorem copy_words {W : World} {g s n : Nat} {C cs : List Value} {t u : TypeId} (hg : Blk W g C t) (hs : Blk W s cs u) (hC : C.length = n) (hc : cs.length = n) (h1 : ∀ v ∈ cs, v.oneCell' = true) :
    ∃ W', (Builtin.copy_ #[92, 92] 3 #[.slice (some ⟨g, 0, none⟩) n n, .slice (some ⟨s, 0, none⟩) n n]).run Try.prog W = .ok (.int .i64 n) W' ∧ Blk W' g cs t ∧ Only W W' g := by
  have hr := run_copy_row (P := Try.prog) W 92 92 3 81 g 0 n n ⟨s, 0, none⟩ n n C.toArray t cs Try.underlying92 (by kernel_rfl) hg (by simp [hc]) (fun j v hj => by
    have := hs.cell hj
    have e : (⟨s, 0, none⟩ : Addr).add j = ⟨s, j, none⟩ := by unfold Addr.add; split <;> simp_all
    rw [e]; exact this) (by simp; omega) h1
  refine ⟨W.setRow g (C.toArray.toList.take 0 ++ cs ++ C.toArray.toList.drop (0 + cs.length)).toArray, ?_, ?_, only_setRow _ _ _⟩
  · rw [hr, hc]; rfl
  · have := setRow_heap W g C.toArray (C.toArray.toList.take 0 ++ cs ++ C.toArray.toList.drop (0 + cs.length)).toArray t (0, 0) hg
    unfold Blk
    rw [this]
    have e : C.toArray.toList.take 0 ++ cs ++ C.toArray.toList.drop (0 + cs.length) = cs := by
      simp [List.drop_eq_nil_of_le, hC, hc]
    rw [e]

end Go.Proofs.Ytmafbkoneggggaa
