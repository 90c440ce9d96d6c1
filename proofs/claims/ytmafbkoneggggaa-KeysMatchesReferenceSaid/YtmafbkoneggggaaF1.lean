/-
  Walks: the reference cipher's small functions.
-/
import Derived.Test.YtmafbkoneggggaaD6
namespace Go.Proofs.Ytmafbkoneggggaa
open Go.RowKit

theorem nat_ofInt64 (a : Nat) (h : a < 9223372036854775808) : (BitVec.ofInt 64 (a : Int)).toNat = a := by
  rw [BitVec.toNat_ofInt]; omega
theorem i64_or_nat (a b : Nat) (ha : a < 9223372036854775808) (hb : b < 9223372036854775808) : bits .or .i64 (a : Int) (b : Int) = ((a ||| b : Nat) : Int) := by
  have hx : a ||| b < 2 ^ 63 := Nat.or_lt_two_pow (by omega) (by omega)
  show IntKind.i64.wrap ((BitVec.ofInt 64 (a : Int) ||| BitVec.ofInt 64 (b : Int)).toNat : Int) = _
  rw [BitVec.toNat_or, nat_ofInt64 a ha, nat_ofInt64 b hb, IntKind.wrap_i64]
  omega
theorem i64_xor_nat (a b : Nat) (ha : a < 9223372036854775808) (hb : b < 9223372036854775808) : bits .xor .i64 (a : Int) (b : Int) = ((a ^^^ b : Nat) : Int) := by
  have hx : a ^^^ b < 2 ^ 63 := Nat.xor_lt_two_pow (by omega) (by omega)
  show IntKind.i64.wrap ((BitVec.ofInt 64 (a : Int) ^^^ BitVec.ofInt 64 (b : Int)).toNat : Int) = _
  rw [BitVec.toNat_xor, nat_ofInt64 a ha, nat_ofInt64 b hb, IntKind.wrap_i64]
  omega
theorem i64_and_nat (a b : Nat) (ha : a < 9223372036854775808) (hb : b < 9223372036854775808) : bits .and .i64 (a : Int) (b : Int) = ((a &&& b : Nat) : Int) := by
  have hx : a &&& b < 2 ^ 63 := Nat.and_lt_two_pow _ (by omega)
  show IntKind.i64.wrap ((BitVec.ofInt 64 (a : Int) &&& BitVec.ofInt 64 (b : Int)).toNat : Int) = _
  rw [BitVec.toNat_and, nat_ofInt64 a ha, nat_ofInt64 b hb, IntKind.wrap_i64]
  omega

theorem rotI_form (x n : Nat) (hx : x < 4294967296) (hn : n ≤ 18) :
    bits .and .i64 (bits .or .i64 ((x : Int) * ((2 ^ n : Nat) : Int)) ((x : Int) / ((2 ^ (32 - n) : Nat) : Int))) 4294967295 = ((rotl x n : Nat) : Int) := by
  have h2 : (2 : Nat) ^ n ≤ 2 ^ 18 := Nat.pow_le_pow_right (by decide) hn
  have h3 : (2 : Nat) ^ 18 = 262144 := by decide
  have hm : x * 2 ^ n < 1125899906842624 := by
    calc x * 2 ^ n ≤ x * 262144 := Nat.mul_le_mul_left _ (by omega)
      _ < 1125899906842624 := by omega
  have hd : x / 2 ^ (32 - n) < 4294967296 := Nat.lt_of_le_of_lt (Nat.div_le_self _ _) hx
  rw [← Int.natCast_mul, ← Int.natCast_ediv, i64_or_nat _ _ (by omega) (by omega)]
  have ho : (x * 2 ^ n) ||| (x / 2 ^ (32 - n)) < 2 ^ 50 := Nat.or_lt_two_pow (by omega) (by omega)
  rw [show (4294967295 : Int) = ((2 ^ 32 - 1 : Nat) : Int) by decide, i64_and_nat _ _ (by omega) (by decide), Nat.and_two_pow_sub_one_eq_mod]
  unfold rotl
  congr 1
  rw [Nat.or_mod_two_pow]
  congr 1
  rw [Nat.mod_eq_of_lt hd]

theorem below_drewN {w w' : World} {B : Nat} (h : Below B w w') (n : Nat) : Below B w (w'.drewN n) := ⟨h.os, h.tape, h.output, h.size, h.block⟩

set_option maxHeartbeats 1000000 in
theorem rotI7 (x : Nat) (w : World) (h : x < 4294967296) :
    Calls Try.prog 76 #[.int .i64 x, .int .i64 7] w fun e w' => e = .returned (.int .i64 (rotl x 7)) ∧ Below w.heap.size w w' := by
  have hf := rotI_form x 7 h (by omega)
  have Hf := Lib.hid hf
  clear hf
  go_enter Try.func76, Try.ntmps76
  go_wp2_with fail
  go_quiet (fail)
  go_wp2_with fail
  go_ret
  exact ⟨congrArg (fun n => Ending.returned (.int .i64 n)) Hf.out, below_drewN (Below.refl _ _) _⟩

set_option maxHeartbeats 1000000 in
theorem rotI18 (x : Nat) (w : World) (h : x < 4294967296) :
    Calls Try.prog 76 #[.int .i64 x, .int .i64 18] w fun e w' => e = .returned (.int .i64 (rotl x 18)) ∧ Below w.heap.size w w' := by
  have hf := rotI_form x 18 h (by omega)
  have Hf := Lib.hid hf
  clear hf
  go_enter Try.func76, Try.ntmps76
  go_wp2_with fail
  go_quiet (fail)
  go_wp2_with fail
  go_ret
  exact ⟨congrArg (fun n => Ending.returned (.int .i64 n)) Hf.out, below_drewN (Below.refl _ _) _⟩

theorem wordAt_eq (s : ByteArray) (j : Nat) (hj : 4 * j + 4 ≤ s.size) :
    wordAt s.data.toList j = (((s[4 * j].toNat * 256 + s[4 * j + 1].toNat) * 256 + s[4 * j + 2].toNat) * 256 + s[4 * j + 3].toNat) := by
  have hl : s.data.toList.length = s.size := by simp
  unfold wordAt
  rw [List.drop_eq_getElem_cons (by omega), List.drop_eq_getElem_cons (by omega), List.drop_eq_getElem_cons (by omega), List.drop_eq_getElem_cons (by omega)]
  simp [beNat]
  rfl

theorem four_form (a b c d : UInt8) :
    wrap64 (wrap64 (wrap64 (wrap64 (wrap64 a.toNat * 16777216) + wrap64 (wrap64 b.toNat * 65536)) + wrap64 (wrap64 c.toNat * 256)) + wrap64 d.toNat)
      = ((((a.toNat * 256 + b.toNat) * 256 + c.toNat) * 256 + d.toNat : Nat) : Int) := by
  obtain ⟨A, hA⟩ : ∃ A, a.toNat = A := ⟨_, rfl⟩
  obtain ⟨B, hB⟩ : ∃ A, b.toNat = A := ⟨_, rfl⟩
  obtain ⟨C, hC⟩ : ∃ A, c.toNat = A := ⟨_, rfl⟩
  obtain ⟨D, hD⟩ : ∃ A, d.toNat = A := ⟨_, rfl⟩
  have ha : A < 256 := hA ▸ a.toNat_lt
  have hb : B < 256 := hB ▸ b.toNat_lt
  have hc : C < 256 := hC ▸ c.toNat_lt
  have hd : D < 256 := hD ▸ d.toNat_lt
  have w : ∀ z : Int, 0 ≤ z → z < 4611686018427387904 → wrap64 z = z := fun z h1 h2 => by unfold wrap64; omega
  rw [hA, hB, hC, hD, w A (by omega) (by omega), w B (by omega) (by omega), w C (by omega) (by omega), w D (by omega) (by omega),
    w (A * 16777216) (by omega) (by omega), w (B * 65536) (by omega) (by omega), w (C * 256) (by omega) (by omega),
    w (A * 16777216 + B * 65536) (by omega) (by omega), w (A * 16777216 + B * 65536 + C * 256) (by omega) (by omega), w (A * 16777216 + B * 65536 + C * 256 + D) (by omega) (by omega)]
  omega

set_option maxRecDepth 100000 in
set_option maxHeartbeats 1000000 in
theorem wordI (s : ByteArray) (j : Nat) (w : World) (hs : s.size ≤ 16) (hj : 4 * j + 4 ≤ s.size) :
    Calls Try.prog 69 #[.string s, .int .i64 j] w fun e w' => e = .returned (.int .i64 (wordAt s.data.toList j)) ∧ Below w.heap.size w w' := by
  have hj4 : j = 0 ∨ j = 1 ∨ j = 2 ∨ j = 3 := by omega
  rcases hj4 with rfl | rfl | rfl | rfl
  · have i0 : 0 < s.size := by omega
    have k0 : (0 : Int) < s.size := by omega
    have i1 : 1 < s.size := by omega
    have k1 : (1 : Int) < s.size := by omega
    have i2 : 2 < s.size := by omega
    have k2 : (2 : Int) < s.size := by omega
    have i3 : 3 < s.size := by omega
    have k3 : (3 : Int) < s.size := by omega
    go_enter Try.func69, Try.ntmps69
    go_wp2_with fail
    go_quiet (fail)
    go_wp2_with fail
    go_ret
    exact ⟨congrArg (fun n => Ending.returned (.int .i64 n)) ((four_form s[0] s[1] s[2] s[3]).trans (congrArg _ (wordAt_eq s 0 hj).symm)), below_drewN (Below.refl _ _) _⟩
  · have i0 : 4 < s.size := by omega
    have k0 : (4 : Int) < s.size := by omega
    have i1 : 5 < s.size := by omega
    have k1 : (5 : Int) < s.size := by omega
    have i2 : 6 < s.size := by omega
    have k2 : (6 : Int) < s.size := by omega
    have i3 : 7 < s.size := by omega
    have k3 : (7 : Int) < s.size := by omega
    go_enter Try.func69, Try.ntmps69
    go_wp2_with fail
    go_quiet (fail)
    go_wp2_with fail
    go_ret
    exact ⟨congrArg (fun n => Ending.returned (.int .i64 n)) ((four_form s[4] s[5] s[6] s[7]).trans (congrArg _ (wordAt_eq s 1 hj).symm)), below_drewN (Below.refl _ _) _⟩
  · have i0 : 8 < s.size := by omega
    have k0 : (8 : Int) < s.size := by omega
    have i1 : 9 < s.size := by omega
    have k1 : (9 : Int) < s.size := by omega
    have i2 : 10 < s.size := by omega
    have k2 : (10 : Int) < s.size := by omega
    have i3 : 11 < s.size := by omega
    have k3 : (11 : Int) < s.size := by omega
    go_enter Try.func69, Try.ntmps69
    go_wp2_with fail
    go_quiet (fail)
    go_wp2_with fail
    go_ret
    exact ⟨congrArg (fun n => Ending.returned (.int .i64 n)) ((four_form s[8] s[9] s[10] s[11]).trans (congrArg _ (wordAt_eq s 2 hj).symm)), below_drewN (Below.refl _ _) _⟩
  · have i0 : 12 < s.size := by omega
    have k0 : (12 : Int) < s.size := by omega
    have i1 : 13 < s.size := by omega
    have k1 : (13 : Int) < s.size := by omega
    have i2 : 14 < s.size := by omega
    have k2 : (14 : Int) < s.size := by omega
    have i3 : 15 < s.size := by omega
    have k3 : (15 : Int) < s.size := by omega
    go_enter Try.func69, Try.ntmps69
    go_wp2_with fail
    go_quiet (fail)
    go_wp2_with fail
    go_ret
    exact ⟨congrArg (fun n => Ending.returned (.int .i64 n)) ((four_form s[12] s[13] s[14] s[15]).trans (congrArg _ (wordAt_eq s 3 hj).symm)), below_drewN (Below.refl _ _) _⟩

end Go.Proofs.Ytmafbkoneggggaa
