/-
  Walks: SecretFrom, Stretch at eight and sixteen.
-/
import Derived.Test.YtmafbkoneggggaaL1
import Derived.Test.YtmafbkoneggggaaC3
namespace Go.Proofs.Ytmafbkoneggggaa
open Go.RowKit

theorem mk8 (w : World) : (Instr.makeSlice 30 (.int .i64 (8 : Nat)) (.int .i64 (8 : Nat))).run Try.prog w = .ok (.slice (some ⟨w.heap.size, 0, none⟩) 8 8) (w.alloc (.cells (byteCells (List.replicate 8 0)).toArray 5)) := by
  kernel_rfl
theorem mk16 (w : World) : (Instr.makeSlice 30 (.int .i64 (16 : Nat)) (.int .i64 (16 : Nat))).run Try.prog w = .ok (.slice (some ⟨w.heap.size, 0, none⟩) 16 16) (w.alloc (.cells (byteCells (List.replicate 16 0)).toArray 5)) := by
  kernel_rfl

theorem stretch8 (s : ByteArray) (w : World) (hs : s.size ≤ maxLen) :
    Calls Try.prog 24 #[.string s, .int .i64 8] w fun e w' => (∃ x : ByteArray, e = .returned (.string x) ∧ Hid (x.size = 8)) ∧ Below w.heap.size w w' :=
  (stretch_any s 8 w hs (by omega) (by omega) mk8).mono fun e w' ⟨⟨X, h1, h2⟩, h3⟩ => ⟨⟨⟨X.toArray⟩, h1, Lib.hid (by show X.toArray.size = 8; simpa using h2)⟩, h3⟩

set_option maxRecDepth 100000 in
set_option maxHeartbeats 1000000 in
theorem secret_any (s : ByteArray) (w : World) (hs : s.size ≤ maxLen) :
    Calls Try.prog 23 #[.string s] w fun e w' => (∃ x : ByteArray, e = .returned (.string x) ∧ Hid (x.size = 16)) ∧ Below w.heap.size w w' := by
  unfold maxLen at hs
  go_enter Try.func23, Try.ntmps23
  go_wp2_with fail
  refine (stretch_any s 16 _ hs (by omega) (by omega) mk16).mono ?_
  rintro e w1 ⟨⟨X, rfl, hX⟩, b1⟩
  go_wp2_with fail
  go_ret
  exact ⟨⟨⟨X.toArray⟩, rfl, Lib.hid (by show X.toArray.size = 16; simpa using hX)⟩, b1⟩

end Go.Proofs.Ytmafbkoneggggaa
