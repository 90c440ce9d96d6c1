/-
  Walks: the reference's Uint at the widths one and eight.
-/
import Derived.Test.YtmafbkoneggggaaF5
namespace Go.Proofs.Ytmafbkoneggggaa
open Go.RowKit

set_option maxRecDepth 100000 in
set_option maxHeartbeats 1000000 in
theorem uintI1 (n : Nat) (w : World) (h : n < 256) :
    Calls Try.prog 63 #[.int .i64 n, .int .i64 1] w fun e w' => e = .returned (.tuple #[.string ⟨(beB n 1).toArray⟩, .int .i64 0]) ∧ Below w.heap.size w w' := by
  have hb := Lib.hid (fun w => bytesI n 1 w (by omega) (by omega))
  go_enter Try.func63, Try.ntmps63
  go_wp2_with fail
  refine (hb.out _).mono ?_
  rintro e w1 ⟨rfl, b1⟩
  go_wp2_with fail
  go_ret2
  exact ⟨rfl, b1⟩

set_option maxRecDepth 100000 in
set_option maxHeartbeats 1000000 in
theorem uintI8 (n : Nat) (w : World) (h : n < 9223372036854775808) :
    Calls Try.prog 63 #[.int .i64 n, .int .i64 8] w fun e w' => e = .returned (.tuple #[.string ⟨(beB n 8).toArray⟩, .int .i64 0]) ∧ Below w.heap.size w w' := by
  have hb := Lib.hid (fun w => bytesI n 8 w (by omega) h)
  go_enter Try.func63, Try.ntmps63
  go_wp2_with fail
  refine (hb.out _).mono ?_
  rintro e w1 ⟨rfl, b1⟩
  go_wp2_with fail
  go_ret2
  exact ⟨rfl, b1⟩

end Go.Proofs.Ytmafbkoneggggaa
