/-
  Walks: Encode, for integers with and without a class.
-/
import Derived.Deep.QuietTactic
import Derived.BigQuiet
import Derived.Test.YtmafbkoneggggaaW3
namespace Go.Proofs.Ytmafbkoneggggaa
open Go.RowKit

set_option maxHeartbeats 400000 in
theorem encode_none (n : Int) (w : World) (h : classOf n = -1) :
    Calls Try.prog 16 #[.int .i64 n] w fun e w' => e = .returned (.tuple #[.string ⟨#[]⟩, .int .i64 10]) ∧ Below w.heap.size w w' := by
  have Hc := Lib.hid h
  clear h
  go_enter Try.func16, Try.ntmps16
  go_wp2_with (go_at_call 40; refine (class_any _ _).mono ?_; rintro e w' ⟨rfl, hb⟩; rw [Hc.out])
  go_ret2
  exact ⟨rfl, hb⟩

theorem or_form (n c k : Nat) (hn : n < 2 ^ k) (hk : k ≤ 62) (hc : c ≤ 3) :
    bits .or .u64 (n : Int) ((c * 2 ^ k : Nat) : Int) = ((n + c * 2 ^ k : Nat) : Int) := by
  have h1 : 2 ^ k ≤ 2 ^ 62 := Nat.pow_le_pow_right (by decide) hk
  have h2 : (2 : Nat) ^ 62 = 4611686018427387904 := by decide
  have h3 : c * 2 ^ k ≤ 3 * 2 ^ k := Nat.mul_le_mul_right _ hc
  rw [u64_or_nat _ _ (by omega) (by omega), Nat.or_comm, nat_join k _ _ (Nat.mul_mod_left _ _) hn, Nat.add_comm]

set_option maxHeartbeats 400000 in
theorem encode_ok (n : Int) (w : World) (h0 : 0 ≤ n) (h : n ≤ 4611686018427387903) :
    Calls Try.prog 16 #[.int .i64 n] w fun e w' => e = .returned (.tuple #[.string ⟨(encL n.toNat).toArray⟩, .int .i64 0]) ∧ Below w.heap.size w w' := by
  obtain ⟨n, rfl⟩ := Int.eq_ofNat_of_zero_le h0
  rw [Int.toNat_natCast]
  obtain ⟨c, c1, c2, c3⟩ := classOf_ok n (by omega)
  have he := encL_of c2
  have HO : ∃ V : Nat, encL n = beB V (2 ^ c) ∧ bits .or .u64 (n : Int) ((c * 2 ^ (8 * 2 ^ c - 2) : Nat) : Int) = (V : Int) :=
    ⟨_, encL_of c2, or_form n c _ c3 (by rcases (show c = 0 ∨ c = 1 ∨ c = 2 ∨ c = 3 by omega) with rfl | rfl | rfl | rfl <;> decide) c1⟩
  obtain ⟨V, he, ho⟩ := HO
  have Hc := Lib.hid c2
  have He := Lib.hid he
  clear c2 he c3
  rcases (show c = 0 ∨ c = 1 ∨ c = 2 ∨ c = 3 by omega) with rfl | rfl | rfl | rfl
  · have ho' : bits .or .u64 (n : Int) 0 = (V : Int) := ho
    have Ho := Lib.hid ho'
    clear ho ho'
    go_enter Try.func16, Try.ntmps16
    go_wp2_with fail
    refine (class_any _ _).mono ?_
    rintro e w' ⟨rfl, hb⟩
    rw [Hc.out]
    go_wp2_with fail
    rw [Ho.out]
    refine (bigEndian_any _ _ _).mono ?_
    rintro e w1 ⟨rfl, rfl⟩
    go_wp2_with fail
    refine (collect_be _ _ _ (by omega) (by omega)).mono ?_
    rintro e w1 ⟨rfl, hb1⟩
    go_wp2
    go_ret2
    exact ⟨by rw [He.out]; rfl, hb.trans (hb1.mono hb.size)⟩
  · have ho' : bits .or .u64 (n : Int) 16384 = (V : Int) := ho
    have Ho := Lib.hid ho'
    clear ho ho'
    go_enter Try.func16, Try.ntmps16
    go_wp2_with fail
    refine (class_any _ _).mono ?_
    rintro e w' ⟨rfl, hb⟩
    rw [Hc.out]
    go_wp2_with fail
    rw [Ho.out]
    refine (bigEndian_any _ _ _).mono ?_
    rintro e w1 ⟨rfl, rfl⟩
    go_wp2_with fail
    refine (collect_be _ _ _ (by omega) (by omega)).mono ?_
    rintro e w1 ⟨rfl, hb1⟩
    go_wp2
    go_ret2
    exact ⟨by rw [He.out]; rfl, hb.trans (hb1.mono hb.size)⟩
  · have ho' : bits .or .u64 (n : Int) 2147483648 = (V : Int) := ho
    have Ho := Lib.hid ho'
    clear ho ho'
    go_enter Try.func16, Try.ntmps16
    go_wp2_with fail
    refine (class_any _ _).mono ?_
    rintro e w' ⟨rfl, hb⟩
    rw [Hc.out]
    go_wp2_with fail
    rw [Ho.out]
    refine (bigEndian_any _ _ _).mono ?_
    rintro e w1 ⟨rfl, rfl⟩
    go_wp2_with fail
    refine (collect_be _ _ _ (by omega) (by omega)).mono ?_
    rintro e w1 ⟨rfl, hb1⟩
    go_wp2
    go_ret2
    exact ⟨by rw [He.out]; rfl, hb.trans (hb1.mono hb.size)⟩
  · have ho' : bits .or .u64 (n : Int) 13835058055282163712 = (V : Int) := ho
    have Ho := Lib.hid ho'
    clear ho ho'
    go_enter Try.func16, Try.ntmps16
    go_wp2_with fail
    refine (class_any _ _).mono ?_
    rintro e w' ⟨rfl, hb⟩
    rw [Hc.out]
    go_wp2_with fail
    rw [Ho.out]
    refine (bigEndian_any _ _ _).mono ?_
    rintro e w1 ⟨rfl, rfl⟩
    go_wp2_with fail
    refine (collect_be _ _ _ (by omega) (by omega)).mono ?_
    rintro e w1 ⟨rfl, hb1⟩
    go_wp2
    go_ret2
    exact ⟨by rw [He.out]; rfl, hb.trans (hb1.mono hb.size)⟩

end Go.Proofs.Ytmafbkoneggggaa
