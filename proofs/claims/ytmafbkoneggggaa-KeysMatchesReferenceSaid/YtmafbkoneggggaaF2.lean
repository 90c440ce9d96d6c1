/-
  Walks: the reference cipher's round function.
-/
import Derived.Test.YtmafbkoneggggaaF1
namespace Go.Proofs.Ytmafbkoneggggaa
open Go.RowKit

set_option maxRecDepth 100000 in
set_option maxHeartbeats 2000000 in
theorem mixI (key : ByteArray) (r i : Nat) (w : World) (hk : key.size = 16) (hr : r < 4294967296) (hi : i < 8) :
    Calls Try.prog 70 #[.string key, .int .i64 r, .int .i64 i] w fun e w' => e = .returned (.int .i64 (mixN (wordAt key.data.toList) r i)) ∧ Below w.heap.size w w' := by
  have hw := wordAt_lt key.data.toList
  have hk1 : key.size ≤ 16 := by omega
  have hk2 : 16 ≤ key.size := by omega
  have h0 := hw (i % 4)
  have h1 := hw ((i + 1) % 4)
  have hm : Hid (mixN (wordAt key.data.toList) r i = rotl ((r + wordAt key.data.toList (i % 4) + 2654435769 * (i + 1)) % 4294967296) 7 ^^^ rotl r 18 ^^^ wordAt key.data.toList ((i + 1) % 4)) := Lib.hid rfl
  have hi4 : i % 4 < 4 := Nat.mod_lt _ (by decide)
  have hi5 : (i + 1) % 4 < 4 := Nat.mod_lt _ (by decide)
  have c0 := fun w => wordI key (i % 4) w hk1 (by omega)
  have c1 := fun w => wordI key ((i + 1) % 4) w hk1 (by omega)
  rw [show ((i % 4 : Nat) : Int) = (i : Int) % 4 from rfl] at c0
  rw [show (((i + 1) % 4 : Nat) : Int) = ((i : Int) + 1) % 4 from rfl] at c1
  generalize wordAt key.data.toList (i % 4) = k0 at *
  generalize wordAt key.data.toList ((i + 1) % 4) = k1 at *
  obtain ⟨X, hX⟩ : ∃ X : Nat, (r + k0 + 2654435769 * (i + 1)) % 4294967296 = X := ⟨_, rfl⟩
  have hXl : X < 4294967296 := by rw [← hX]; exact Nat.mod_lt _ (by decide)
  have HX : Hid (((r : Int) + (k0 : Int) + 2654435769 * ((i : Int) + 1)) % 4294967296 = (X : Int)) := Lib.hid (by rw [← hX]; omega)
  have l7 := rotl_lt 7 hXl
  have l18 := rotl_lt 18 hr
  have hx1 := Lib.hid (i64_xor_nat (rotl X 7) (rotl r 18) (by omega) (by omega))
  have hx2 := Lib.hid (i64_xor_nat (rotl X 7 ^^^ rotl r 18) k1 (Nat.lt_trans (xor_lt32 l7 l18) (by decide)) (by omega))
  have HXn := Lib.hid hX
  clear hX
  have HC0 := Lib.hid c0
  have HC1 := Lib.hid c1
  clear c0 c1 hk
  go_enter Try.func70, Try.ntmps70
  go_wp2_with fail
  refine (HC0.out _).mono ?_
  rintro e w1 ⟨rfl, b1⟩
  go_wp2_with fail
  rw [HX.out]
  refine (rotI7 X _ hXl).mono ?_
  rintro e w2 ⟨rfl, b2⟩
  go_wp2_with fail
  refine (rotI18 r _ hr).mono ?_
  rintro e w3 ⟨rfl, b3⟩
  go_wp2_with fail
  refine (HC1.out _).mono ?_
  rintro e w4 ⟨rfl, b4⟩
  have d2 := b1.trans (b2.mono b1.size)
  have d3 := d2.trans (b3.mono d2.size)
  have d4 := d3.trans (b4.mono d3.size)
  go_wp2_with fail
  go_ret
  refine ⟨?_, d4⟩
  rw [hm.out, HXn.out]
  exact congrArg (fun n => Ending.returned (.int .i64 n)) (by rw [hx1.out]; exact hx2.out)

end Go.Proofs.Ytmafbkoneggggaa
