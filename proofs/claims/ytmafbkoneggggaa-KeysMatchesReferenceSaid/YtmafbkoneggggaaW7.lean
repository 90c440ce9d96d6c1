/-
  Walks: the fixed examples of chapter 1 hold.
-/
import Derived.Test.YtmafbkoneggggaaW6
namespace Go.Proofs.Ytmafbkoneggggaa
open Go.RowKit

theorem sane_enc (w : World) : Calls Try.prog 16 #[.int .i64 16384] w fun e w' => e = .returned (.tuple #[.string ⟨#[128, 0, 64, 0]⟩, .int .i64 0]) ∧ Below w.heap.size w w' :=
  (encode_ok 16384 w (by decide) (by decide)).mono fun _ _ ⟨h, b⟩ => ⟨by
    have e : encL (Int.toNat 16384) = [128, 0, 64, 0] := by decide +kernel
    rw [h, e], b⟩

theorem sane_dec1 (w : World) : Calls Try.prog 17 #[.string ⟨#[63, 64, 64]⟩, .int .i64 1] w fun e w' => e = .returned (.tuple #[.int .i64 64, .int .i64 3, .int .i64 0]) ∧ Below w.heap.size w w' :=
  (decode_any ⟨#[63, 64, 64]⟩ 1 w (by decide) (by decide) (by decide)).mono fun _ _ ⟨h, b⟩ => ⟨by
    have e : decOf [63, 64, 64] 1 = (64, 3, 0) := by decide +kernel
    rw [h]; unfold decV; show Ending.returned (.tuple #[.int .i64 (decOf [63, 64, 64] 1).1, .int .i64 (decOf [63, 64, 64] 1).2.1, .int .i64 (decOf [63, 64, 64] 1).2.2]) = _; rw [e], b⟩

theorem sane_dec2 (w : World) : Calls Try.prog 17 #[.string ⟨#[128]⟩, .int .i64 0] w fun e w' => e = .returned (.tuple #[.int .i64 0, .int .i64 0, .int .i64 11]) ∧ Below w.heap.size w w' :=
  (decode_any ⟨#[128]⟩ 0 w (by decide) (by decide) (by decide)).mono fun _ _ ⟨h, b⟩ => ⟨by
    have e : decOf [128] 0 = (0, 0, 11) := by decide +kernel
    rw [h]; unfold decV; show Ending.returned (.tuple #[.int .i64 (decOf [128] 0).1, .int .i64 (decOf [128] 0).2.1, .int .i64 (decOf [128] 0).2.2]) = _; rw [e], b⟩

theorem sane_dec3 (w : World) : Calls Try.prog 17 #[.string ⟨#[64, 5]⟩, .int .i64 0] w fun e w' => e = .returned (.tuple #[.int .i64 0, .int .i64 0, .int .i64 10]) ∧ Below w.heap.size w w' :=
  (decode_any ⟨#[64, 5]⟩ 0 w (by decide) (by decide) (by decide)).mono fun _ _ ⟨h, b⟩ => ⟨by
    have e : decOf [64, 5] 0 = (0, 0, 10) := by decide +kernel
    rw [h]; unfold decV; show Ending.returned (.tuple #[.int .i64 (decOf [64, 5] 0).1, .int .i64 (decOf [64, 5] 0).2.1, .int .i64 (decOf [64, 5] 0).2.2]) = _; rw [e], b⟩

theorem sane_uint (w : World) : Calls Try.prog 20 #[.int .i64 300, .int .i64 3] w fun e w' => e = .returned (.tuple #[.string ⟨#[0, 1, 44]⟩, .int .i64 0]) ∧ Below w.heap.size w w' :=
  (uint_ok 300 3 w (by decide) (by decide) (by decide) (by decide) (by decide)).mono fun _ _ ⟨h, b⟩ => ⟨by
    have e : beB (Int.toNat 300) (Int.toNat 3) = [0, 1, 44] := by decide +kernel
    rw [h, e], b⟩

theorem sane_read (w : World) : Calls Try.prog 21 #[.string ⟨#[0, 1, 44]⟩, .int .i64 1, .int .i64 2] w fun e w' => e = .returned (.tuple #[.int .i64 300, .int .i64 0]) ∧ w = w' :=
  (readUint_ok ⟨#[0, 1, 44]⟩ 1 2 w (by decide) (by decide) (by decide) (by decide) (by decide) (by decide)).mono fun _ _ ⟨h, b⟩ => ⟨by
    have e : beNat (([0, 1, 44].drop (Int.toNat 1)).take (Int.toNat 2)) = 300 := by decide +kernel
    rw [h]; show Ending.returned (.tuple #[.int .i64 (beNat (([0, 1, 44].drop (Int.toNat 1)).take (Int.toNat 2)) : Nat), .int .i64 0]) = _; rw [e]; rfl, b⟩

theorem sane_big (w : World) : Calls Try.prog 21 #[.string ⟨#[255, 255, 255, 255, 255, 255, 255, 255]⟩, .int .i64 0, .int .i64 8] w fun e w' => e = .returned (.tuple #[.int .i64 0, .int .i64 10]) ∧ w = w' :=
  readUint_big ⟨#[255, 255, 255, 255, 255, 255, 255, 255]⟩ 0 8 w (by decide) (by decide) (by decide) (by decide) (by decide) (by decide +kernel)

theorem sane_len1 (w : World) : Calls Try.prog 18 #[.int .i64 63] w fun e w' => e = .returned (.int .i64 1) ∧ Below w.heap.size w w' :=
  (len_any 63 w).mono fun _ _ ⟨h, b⟩ => ⟨by
    have e : lenOf 63 = 1 := by decide +kernel
    rw [h, e], b⟩
theorem sane_len2 (w : World) : Calls Try.prog 18 #[.int .i64 (-1)] w fun e w' => e = .returned (.int .i64 0) ∧ Below w.heap.size w w' :=
  (len_any (-1) w).mono fun _ _ ⟨h, b⟩ => ⟨by
    have e : lenOf (-1) = 0 := by decide +kernel
    rw [h, e], b⟩

set_option maxRecDepth 100000 in
set_option maxHeartbeats 1000000 in
theorem sane_any (w : World) : Calls Try.prog 14 #[] w fun e w' => e = .returned (.bool true) ∧ Below w.heap.size w w' := by
  go_enter Try.func14, Try.ntmps14
  go_wp2_with fail
  refine (sane_enc _).mono ?_
  rintro e w1 ⟨rfl, b1⟩
  go_wp2_with fail
  refine (sane_dec1 _).mono ?_
  rintro e w2 ⟨rfl, b2⟩
  go_wp2_with fail
  refine (sane_dec2 _).mono ?_
  rintro e w3 ⟨rfl, b3⟩
  go_wp2_with fail
  refine (sane_dec3 _).mono ?_
  rintro e w4 ⟨rfl, b4⟩
  go_wp2_with fail
  refine (sane_uint _).mono ?_
  rintro e w5 ⟨rfl, b5⟩
  go_wp2_with fail
  refine (sane_read _).mono ?_
  rintro e _ ⟨rfl, rfl⟩
  go_wp2_with fail
  refine (encode_none (-1) _ (by decide +kernel)).mono ?_
  rintro e w6 ⟨rfl, b6⟩
  go_wp2_with fail
  refine (sane_big _).mono ?_
  rintro e _ ⟨rfl, rfl⟩
  go_wp2_with fail
  refine (sane_len1 _).mono ?_
  rintro e w7 ⟨rfl, b7⟩
  go_wp2_with fail
  refine (sane_len2 _).mono ?_
  rintro e w8 ⟨rfl, b8⟩
  go_wp2_with fail
  go_ret
  refine ⟨rfl, ?_⟩
  have c1 := b1
  have c2 := c1.trans (b2.mono c1.size)
  have c3 := c2.trans (b3.mono c2.size)
  have c4 := c3.trans (b4.mono c3.size)
  have c5 := c4.trans (b5.mono c4.size)
  have c6 := c5.trans (b6.mono c5.size)
  have c7 := c6.trans (b7.mono c6.size)
  exact c7.trans (b8.mono c7.size)

end Go.Proofs.Ytmafbkoneggggaa
