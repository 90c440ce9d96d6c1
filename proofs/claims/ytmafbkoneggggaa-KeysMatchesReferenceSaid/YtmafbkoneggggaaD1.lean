/-
  Walks: the block cipher computes the plain function, for every key of 16 and every block of 8 bytes.
-/
import Derived.Deep.QuietTactic
import Derived.BigQuiet
import Derived.WalkSmall
import Derived.Deep.RegionWith
import Derived.Test.YtmafbkoneggggaaW3
import Derived.Test.YtmafbkoneggggaaC1
namespace Go.Proofs.Ytmafbkoneggggaa
open Go.RowKit

theorem rot_form (x n : Nat) (h : x < 4294967296) :
    bits .or .u32 (IntKind.u32.wrap ((x : Int) * ((2 ^ n : Nat) : Int))) ((x : Int) / ((2 ^ (32 - n) : Nat) : Int)) = ((rotl x n : Nat) : Int) := by
  have e1 : IntKind.u32.wrap ((x : Int) * ((2 ^ n : Nat) : Int)) = ((x * 2 ^ n % 4294967296 : Nat) : Int) := by
    rw [IntKind.wrap_u32', Int.natCast_emod, Int.natCast_mul]; rfl
  have e2 : (x : Int) / ((2 ^ (32 - n) : Nat) : Int) = ((x / 2 ^ (32 - n) : Nat) : Int) := by rw [Int.natCast_ediv]
  rw [e1, e2, u32_or_nat _ _ (Nat.mod_lt _ (by decide)) (Nat.lt_of_le_of_lt (Nat.div_le_self _ _) h)]
  rfl

set_option maxHeartbeats 400000 in
theorem rot7_any (x : Nat) (w : World) (h : x < 4294967296) :
    Calls Try.prog 79 #[.int .u32 x, .int .i64 7] w fun e w' => e = .returned (.int .u32 (rotl x 7)) ∧ w' = w := by
  have hf := rot_form x 7 h
  have Hf := Lib.hid hf
  clear hf
  have hb : bits .and .u64 7 31 = 7 := by decide +kernel
  go_enter Try.func79, Try.ntmps79
  go_wp2
  go_ret
  exact ⟨congrArg (fun n => Ending.returned (.int .u32 n)) Hf.out, rfl⟩

set_option maxHeartbeats 400000 in
theorem rot18_any (x : Nat) (w : World) (h : x < 4294967296) :
    Calls Try.prog 79 #[.int .u32 x, .int .i64 18] w fun e w' => e = .returned (.int .u32 (rotl x 18)) ∧ w' = w := by
  have hf := rot_form x 18 h
  have Hf := Lib.hid hf
  clear hf
  have hb : bits .and .u64 18 31 = 18 := by decide +kernel
  go_enter Try.func79, Try.ntmps79
  go_wp2
  go_ret
  exact ⟨congrArg (fun n => Ending.returned (.int .u32 n)) Hf.out, rfl⟩

theorem mix_arg (r k m : Nat) (z : Int) (hz : z = m) :
    IntKind.u32.wrap (IntKind.u32.wrap ((r : Int) + (k : Int)) + IntKind.u32.wrap (2654435769 * IntKind.u32.wrap z)) = (((r + k + 2654435769 * m) % 4294967296 : Nat) : Int) := by
  subst hz
  simp only [IntKind.wrap_u32']
  omega

theorem mix_form (a b c : Nat) (ha : a < 4294967296) (hb : b < 4294967296) (hc : c < 4294967296) :
    bits .xor .u32 (bits .xor .u32 (a : Int) (b : Int)) (c : Int) = ((a ^^^ b ^^^ c : Nat) : Int) := by
  rw [u32_xor_nat _ _ ha hb, u32_xor_nat _ _ (xor_lt32 ha hb) hc]

/-- The key's words as a value. -/
def schedV (k : Nat → Nat) : Value := .agg #[.int .u32 (k 0), .int .u32 (k 1), .int .u32 (k 2), .int .u32 (k 3)]

set_option maxHeartbeats 1000000 in
theorem mix_0 (k : Nat → Nat) (hk : ∀ j, k j < 4294967296) (r : Nat) (hr : r < 4294967296) (w : World) :
    Calls Try.prog 78 #[schedV k, .int .u32 r, .int .i64 0] w fun e w' => e = .returned (.int .u32 (mixN k r 0)) ∧ Below w.heap.size w w' := by
  have hw1 : IntKind.i64.wrap 1 = 1 := by rw [IntKind.wrap_i64]; decide
  have ha := mix_arg r (k 0) 1 1 rfl
  have hx := mix_form (rotl ((r + k 0 + 2654435769 * 1) % 4294967296) 7) (rotl r 18) (k 1) (rotl_lt _ (Nat.mod_lt _ (by decide))) (rotl_lt _ hr) (hk _)
  have hm : mixN k r 0 = rotl ((r + k 0 + 2654435769 * 1) % 4294967296) 7 ^^^ rotl r 18 ^^^ k 1 := by simp only [mixN, Nat.reduceMod, Nat.zero_mod, Nat.zero_add]
  obtain ⟨X, hX⟩ : ∃ X, (r + k 0 + 2654435769 * 1) % 4294967296 = X := ⟨_, rfl⟩
  have hXl : X < 4294967296 := by rw [← hX]; exact Nat.mod_lt _ (by decide)
  rw [hX] at ha hx hm
  have Ha := Lib.hid ha
  have Hx := Lib.hid hx
  have Hm := Lib.hid hm
  clear ha hx hm hX
  unfold schedV
  go_enter Try.func78, Try.ntmps78
  go_wp2
  go_quiet (first
    | (go_at_call_of 79 (Value.int .i64 7); rw [Ha.out]; exact Calls.quiet_of_same (rot7_any X _ hXl))
    | (go_at_call_of 79 (Value.int .i64 18); exact Calls.quiet_of_same (rot18_any r _ hr)))
  go_wp2
  go_ret
  exact ⟨congrArg (fun n => Ending.returned (.int .u32 n)) (by rw [Hm.out]; exact Hx.out), below_drewN ((Below.refl _ _).alloc (Nat.le_refl _) _) _⟩

set_option maxHeartbeats 1000000 in
theorem mix_1 (k : Nat → Nat) (hk : ∀ j, k j < 4294967296) (r : Nat) (hr : r < 4294967296) (w : World) :
    Calls Try.prog 78 #[schedV k, .int .u32 r, .int .i64 1] w fun e w' => e = .returned (.int .u32 (mixN k r 1)) ∧ Below w.heap.size w w' := by
  have hw1 : IntKind.i64.wrap 2 = 2 := by rw [IntKind.wrap_i64]; decide
  have ha := mix_arg r (k 1) 2 2 rfl
  have hx := mix_form (rotl ((r + k 1 + 2654435769 * 2) % 4294967296) 7) (rotl r 18) (k 2) (rotl_lt _ (Nat.mod_lt _ (by decide))) (rotl_lt _ hr) (hk _)
  have hm : mixN k r 1 = rotl ((r + k 1 + 2654435769 * 2) % 4294967296) 7 ^^^ rotl r 18 ^^^ k 2 := by simp only [mixN, Nat.reduceMod, Nat.reduceAdd]
  obtain ⟨X, hX⟩ : ∃ X, (r + k 1 + 2654435769 * 2) % 4294967296 = X := ⟨_, rfl⟩
  have hXl : X < 4294967296 := by rw [← hX]; exact Nat.mod_lt _ (by decide)
  rw [hX] at ha hx hm
  have Ha := Lib.hid ha
  have Hx := Lib.hid hx
  have Hm := Lib.hid hm
  clear ha hx hm hX
  unfold schedV
  go_enter Try.func78, Try.ntmps78
  go_wp2
  go_quiet (first
    | (go_at_call_of 79 (Value.int .i64 7); rw [Ha.out]; exact Calls.quiet_of_same (rot7_any X _ hXl))
    | (go_at_call_of 79 (Value.int .i64 18); exact Calls.quiet_of_same (rot18_any r _ hr)))
  go_wp2
  go_ret
  exact ⟨congrArg (fun n => Ending.returned (.int .u32 n)) (by rw [Hm.out]; exact Hx.out), below_drewN ((Below.refl _ _).alloc (Nat.le_refl _) _) _⟩

set_option maxHeartbeats 1000000 in
theorem mix_2 (k : Nat → Nat) (hk : ∀ j, k j < 4294967296) (r : Nat) (hr : r < 4294967296) (w : World) :
    Calls Try.prog 78 #[schedV k, .int .u32 r, .int .i64 2] w fun e w' => e = .returned (.int .u32 (mixN k r 2)) ∧ Below w.heap.size w w' := by
  have hw1 : IntKind.i64.wrap 3 = 3 := by rw [IntKind.wrap_i64]; decide
  have ha := mix_arg r (k 2) 3 3 rfl
  have hx := mix_form (rotl ((r + k 2 + 2654435769 * 3) % 4294967296) 7) (rotl r 18) (k 3) (rotl_lt _ (Nat.mod_lt _ (by decide))) (rotl_lt _ hr) (hk _)
  have hm : mixN k r 2 = rotl ((r + k 2 + 2654435769 * 3) % 4294967296) 7 ^^^ rotl r 18 ^^^ k 3 := by simp only [mixN, Nat.reduceMod, Nat.reduceAdd]
  obtain ⟨X, hX⟩ : ∃ X, (r + k 2 + 2654435769 * 3) % 4294967296 = X := ⟨_, rfl⟩
  have hXl : X < 4294967296 := by rw [← hX]; exact Nat.mod_lt _ (by decide)
  rw [hX] at ha hx hm
  have Ha := Lib.hid ha
  have Hx := Lib.hid hx
  have Hm := Lib.hid hm
  clear ha hx hm hX
  unfold schedV
  go_enter Try.func78, Try.ntmps78
  go_wp2
  go_quiet (first
    | (go_at_call_of 79 (Value.int .i64 7); rw [Ha.out]; exact Calls.quiet_of_same (rot7_any X _ hXl))
    | (go_at_call_of 79 (Value.int .i64 18); exact Calls.quiet_of_same (rot18_any r _ hr)))
  go_wp2
  go_ret
  exact ⟨congrArg (fun n => Ending.returned (.int .u32 n)) (by rw [Hm.out]; exact Hx.out), below_drewN ((Below.refl _ _).alloc (Nat.le_refl _) _) _⟩

set_option maxHeartbeats 1000000 in
theorem mix_3 (k : Nat → Nat) (hk : ∀ j, k j < 4294967296) (r : Nat) (hr : r < 4294967296) (w : World) :
    Calls Try.prog 78 #[schedV k, .int .u32 r, .int .i64 3] w fun e w' => e = .returned (.int .u32 (mixN k r 3)) ∧ Below w.heap.size w w' := by
  have hw1 : IntKind.i64.wrap 4 = 4 := by rw [IntKind.wrap_i64]; decide
  have ha := mix_arg r (k 3) 4 4 rfl
  have hx := mix_form (rotl ((r + k 3 + 2654435769 * 4) % 4294967296) 7) (rotl r 18) (k 0) (rotl_lt _ (Nat.mod_lt _ (by decide))) (rotl_lt _ hr) (hk _)
  have hm : mixN k r 3 = rotl ((r + k 3 + 2654435769 * 4) % 4294967296) 7 ^^^ rotl r 18 ^^^ k 0 := by simp only [mixN, Nat.reduceMod, Nat.reduceAdd]
  obtain ⟨X, hX⟩ : ∃ X, (r + k 3 + 2654435769 * 4) % 4294967296 = X := ⟨_, rfl⟩
  have hXl : X < 4294967296 := by rw [← hX]; exact Nat.mod_lt _ (by decide)
  rw [hX] at ha hx hm
  have Ha := Lib.hid ha
  have Hx := Lib.hid hx
  have Hm := Lib.hid hm
  clear ha hx hm hX
  unfold schedV
  go_enter Try.func78, Try.ntmps78
  go_wp2
  go_quiet (first
    | (go_at_call_of 79 (Value.int .i64 7); rw [Ha.out]; exact Calls.quiet_of_same (rot7_any X _ hXl))
    | (go_at_call_of 79 (Value.int .i64 18); exact Calls.quiet_of_same (rot18_any r _ hr)))
  go_wp2
  go_ret
  exact ⟨congrArg (fun n => Ending.returned (.int .u32 n)) (by rw [Hm.out]; exact Hx.out), below_drewN ((Below.refl _ _).alloc (Nat.le_refl _) _) _⟩

set_option maxHeartbeats 1000000 in
theorem mix_4 (k : Nat → Nat) (hk : ∀ j, k j < 4294967296) (r : Nat) (hr : r < 4294967296) (w : World) :
    Calls Try.prog 78 #[schedV k, .int .u32 r, .int .i64 4] w fun e w' => e = .returned (.int .u32 (mixN k r 4)) ∧ Below w.heap.size w w' := by
  have hw1 : IntKind.i64.wrap 5 = 5 := by rw [IntKind.wrap_i64]; decide
  have ha := mix_arg r (k 0) 5 5 rfl
  have hx := mix_form (rotl ((r + k 0 + 2654435769 * 5) % 4294967296) 7) (rotl r 18) (k 1) (rotl_lt _ (Nat.mod_lt _ (by decide))) (rotl_lt _ hr) (hk _)
  have hm : mixN k r 4 = rotl ((r + k 0 + 2654435769 * 5) % 4294967296) 7 ^^^ rotl r 18 ^^^ k 1 := by simp only [mixN, Nat.reduceMod, Nat.reduceAdd]
  obtain ⟨X, hX⟩ : ∃ X, (r + k 0 + 2654435769 * 5) % 4294967296 = X := ⟨_, rfl⟩
  have hXl : X < 4294967296 := by rw [← hX]; exact Nat.mod_lt _ (by decide)
  rw [hX] at ha hx hm
  have Ha := Lib.hid ha
  have Hx := Lib.hid hx
  have Hm := Lib.hid hm
  clear ha hx hm hX
  unfold schedV
  go_enter Try.func78, Try.ntmps78
  go_wp2
  go_quiet (first
    | (go_at_call_of 79 (Value.int .i64 7); rw [Ha.out]; exact Calls.quiet_of_same (rot7_any X _ hXl))
    | (go_at_call_of 79 (Value.int .i64 18); exact Calls.quiet_of_same (rot18_any r _ hr)))
  go_wp2
  go_ret
  exact ⟨congrArg (fun n => Ending.returned (.int .u32 n)) (by rw [Hm.out]; exact Hx.out), below_drewN ((Below.refl _ _).alloc (Nat.le_refl _) _) _⟩

set_option maxHeartbeats 1000000 in
theorem mix_5 (k : Nat → Nat) (hk : ∀ j, k j < 4294967296) (r : Nat) (hr : r < 4294967296) (w : World) :
    Calls Try.prog 78 #[schedV k, .int .u32 r, .int .i64 5] w fun e w' => e = .returned (.int .u32 (mixN k r 5)) ∧ Below w.heap.size w w' := by
  have hw1 : IntKind.i64.wrap 6 = 6 := by rw [IntKind.wrap_i64]; decide
  have ha := mix_arg r (k 1) 6 6 rfl
  have hx := mix_form (rotl ((r + k 1 + 2654435769 * 6) % 4294967296) 7) (rotl r 18) (k 2) (rotl_lt _ (Nat.mod_lt _ (by decide))) (rotl_lt _ hr) (hk _)
  have hm : mixN k r 5 = rotl ((r + k 1 + 2654435769 * 6) % 4294967296) 7 ^^^ rotl r 18 ^^^ k 2 := by simp only [mixN, Nat.reduceMod, Nat.reduceAdd]
  obtain ⟨X, hX⟩ : ∃ X, (r + k 1 + 2654435769 * 6) % 4294967296 = X := ⟨_, rfl⟩
  have hXl : X < 4294967296 := by rw [← hX]; exact Nat.mod_lt _ (by decide)
  rw [hX] at ha hx hm
  have Ha := Lib.hid ha
  have Hx := Lib.hid hx
  have Hm := Lib.hid hm
  clear ha hx hm hX
  unfold schedV
  go_enter Try.func78, Try.ntmps78
  go_wp2
  go_quiet (first
    | (go_at_call_of 79 (Value.int .i64 7); rw [Ha.out]; exact Calls.quiet_of_same (rot7_any X _ hXl))
    | (go_at_call_of 79 (Value.int .i64 18); exact Calls.quiet_of_same (rot18_any r _ hr)))
  go_wp2
  go_ret
  exact ⟨congrArg (fun n => Ending.returned (.int .u32 n)) (by rw [Hm.out]; exact Hx.out), below_drewN ((Below.refl _ _).alloc (Nat.le_refl _) _) _⟩

set_option maxHeartbeats 1000000 in
theorem mix_6 (k : Nat → Nat) (hk : ∀ j, k j < 4294967296) (r : Nat) (hr : r < 4294967296) (w : World) :
    Calls Try.prog 78 #[schedV k, .int .u32 r, .int .i64 6] w fun e w' => e = .returned (.int .u32 (mixN k r 6)) ∧ Below w.heap.size w w' := by
  have hw1 : IntKind.i64.wrap 7 = 7 := by rw [IntKind.wrap_i64]; decide
  have ha := mix_arg r (k 2) 7 7 rfl
  have hx := mix_form (rotl ((r + k 2 + 2654435769 * 7) % 4294967296) 7) (rotl r 18) (k 3) (rotl_lt _ (Nat.mod_lt _ (by decide))) (rotl_lt _ hr) (hk _)
  have hm : mixN k r 6 = rotl ((r + k 2 + 2654435769 * 7) % 4294967296) 7 ^^^ rotl r 18 ^^^ k 3 := by simp only [mixN, Nat.reduceMod, Nat.reduceAdd]
  obtain ⟨X, hX⟩ : ∃ X, (r + k 2 + 2654435769 * 7) % 4294967296 = X := ⟨_, rfl⟩
  have hXl : X < 4294967296 := by rw [← hX]; exact Nat.mod_lt _ (by decide)
  rw [hX] at ha hx hm
  have Ha := Lib.hid ha
  have Hx := Lib.hid hx
  have Hm := Lib.hid hm
  clear ha hx hm hX
  unfold schedV
  go_enter Try.func78, Try.ntmps78
  go_wp2
  go_quiet (first
    | (go_at_call_of 79 (Value.int .i64 7); rw [Ha.out]; exact Calls.quiet_of_same (rot7_any X _ hXl))
    | (go_at_call_of 79 (Value.int .i64 18); exact Calls.quiet_of_same (rot18_any r _ hr)))
  go_wp2
  go_ret
  exact ⟨congrArg (fun n => Ending.returned (.int .u32 n)) (by rw [Hm.out]; exact Hx.out), below_drewN ((Below.refl _ _).alloc (Nat.le_refl _) _) _⟩

set_option maxHeartbeats 1000000 in
theorem mix_7 (k : Nat → Nat) (hk : ∀ j, k j < 4294967296) (r : Nat) (hr : r < 4294967296) (w : World) :
    Calls Try.prog 78 #[schedV k, .int .u32 r, .int .i64 7] w fun e w' => e = .returned (.int .u32 (mixN k r 7)) ∧ Below w.heap.size w w' := by
  have hw1 : IntKind.i64.wrap 8 = 8 := by rw [IntKind.wrap_i64]; decide
  have ha := mix_arg r (k 3) 8 8 rfl
  have hx := mix_form (rotl ((r + k 3 + 2654435769 * 8) % 4294967296) 7) (rotl r 18) (k 0) (rotl_lt _ (Nat.mod_lt _ (by decide))) (rotl_lt _ hr) (hk _)
  have hm : mixN k r 7 = rotl ((r + k 3 + 2654435769 * 8) % 4294967296) 7 ^^^ rotl r 18 ^^^ k 0 := by simp only [mixN, Nat.reduceMod, Nat.reduceAdd]
  obtain ⟨X, hX⟩ : ∃ X, (r + k 3 + 2654435769 * 8) % 4294967296 = X := ⟨_, rfl⟩
  have hXl : X < 4294967296 := by rw [← hX]; exact Nat.mod_lt _ (by decide)
  rw [hX] at ha hx hm
  have Ha := Lib.hid ha
  have Hx := Lib.hid hx
  have Hm := Lib.hid hm
  clear ha hx hm hX
  unfold schedV
  go_enter Try.func78, Try.ntmps78
  go_wp2
  go_quiet (first
    | (go_at_call_of 79 (Value.int .i64 7); rw [Ha.out]; exact Calls.quiet_of_same (rot7_any X _ hXl))
    | (go_at_call_of 79 (Value.int .i64 18); exact Calls.quiet_of_same (rot18_any r _ hr)))
  go_wp2
  go_ret
  exact ⟨congrArg (fun n => Ending.returned (.int .u32 n)) (by rw [Hm.out]; exact Hx.out), below_drewN ((Below.refl _ _).alloc (Nat.le_refl _) _) _⟩

theorem mix_any (k : Nat → Nat) (hk : ∀ j, k j < 4294967296) (r : Nat) (hr : r < 4294967296) (i : Nat) (hi : i < 8) (w : World) :
    Calls Try.prog 78 #[schedV k, .int .u32 r, .int .i64 i] w fun e w' => e = .returned (.int .u32 (mixN k r i)) ∧ Below w.heap.size w w' := by
  rcases (show i = 0 ∨ i = 1 ∨ i = 2 ∨ i = 3 ∨ i = 4 ∨ i = 5 ∨ i = 6 ∨ i = 7 by omega) with rfl | rfl | rfl | rfl | rfl | rfl | rfl | rfl
  · exact mix_0 k hk r hr w
  · exact mix_1 k hk r hr w
  · exact mix_2 k hk r hr w
  · exact mix_3 k hk r hr w
  · exact mix_4 k hk r hr w
  · exact mix_5 k hk r hr w
  · exact mix_6 k hk r hr w
  · exact mix_7 k hk r hr w

end Go.Proofs.Ytmafbkoneggggaa
