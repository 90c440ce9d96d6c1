/-
  Making a slice of bytes of any small length.
-/
import Derived.Test.YtmafbkoneggggaaL2
import Derived.Laws.MakeOwn
namespace Go.Proofs.Ytmafbkoneggggaa
open Go.RowKit

theorem mk_any (n : Nat) (h : n ≤ 8192) (w : World) : (Instr.makeSlice 30 (.int .i64 n) (.int .i64 n)).run Try.prog w = .ok (.slice (some ⟨w.heap.size, 0, none⟩) n n) (w.alloc (.cells (byteCells (List.replicate n 0)).toArray 5)) := by
  have hs : Try.t5.size = 1 := by kernel_rfl
  have hb : Try.t5.bytes = 1 := by kernel_rfl
  have := run_makeSlice (P := Try.prog) w 30 5 Try.t5 (.int .u8 0) Try.underlying30 (by kernel_rfl) (by kernel_rfl) .i64 .i64 n n (by omega) (Int.le_refl _) (by rw [hs]; omega) (by rw [hb]; omega) (by omega)
  rw [Int.toNat_natCast, hs, Nat.mul_one] at this
  rw [this]
  have e : madeCells (Value.cells (.int .u8 0)) n = (byteCells (List.replicate n 0)).toArray := by
    have hc : Value.cells (.int .u8 0) = #[.int .u8 0] := by rfl
    apply Array.ext
    · simp [madeCells, byteCells]
    · intro i h1 h2
      simp [madeCells, byteCells, hc, Nat.mod_one]
  rw [e]

end Go.Proofs.Ytmafbkoneggggaa
