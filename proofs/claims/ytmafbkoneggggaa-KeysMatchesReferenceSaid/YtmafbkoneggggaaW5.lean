/-
  Walks: Decode, at every string and every offset from 0 to its end.
-/
import Derived.WalkSmall
import Derived.Test.YtmafbkoneggggaaW4
namespace Go.Proofs.Ytmafbkoneggggaa
open Go.RowKit

theorem getD_byte (s : ByteArray) (a : Nat) (h : a < s.size) : s.data.toList.getD a 0 = s[a] := by
  have : a < s.data.toList.length := by simpa using h
  rw [List.getD_eq_getElem?_getD, List.getElem?_eq_getElem this]
  rfl

theorem decOf_end (s : ByteArray) : decOf s.data.toList s.size = (0, 0, 11) := by
  unfold decOf; rw [if_pos (by simp)]

theorem decOf_short (s : ByteArray) (a c : Nat) (h : a < s.size) (hB : s[a].toNat / 64 = c) (hs : s.size - a < 2 ^ c) : decOf s.data.toList a = (0, 0, 11) := by
  unfold decOf
  rw [getD_byte s a h, hB]
  have e : s.data.toList.length = s.size := by simp
  rw [e, if_neg (by omega), if_pos hs]

theorem decOf_bad (s : ByteArray) (a c : Nat) (h : a < s.size) (hB : s[a].toNat / 64 = c) (hs : 2 ^ c ≤ s.size - a)
    (hv : classOf (beNat ((s.data.toList.drop a).take (2 ^ c)) % 2 ^ (8 * 2 ^ c - 2) : Nat) ≠ c) : decOf s.data.toList a = (0, 0, 10) := by
  unfold decOf
  rw [getD_byte s a h, hB]
  have e : s.data.toList.length = s.size := by simp
  rw [e, if_neg (by omega), if_neg (by omega), if_pos hv]

theorem decOf_good (s : ByteArray) (a c : Nat) (h : a < s.size) (hB : s[a].toNat / 64 = c) (hs : 2 ^ c ≤ s.size - a)
    (hv : classOf (beNat ((s.data.toList.drop a).take (2 ^ c)) % 2 ^ (8 * 2 ^ c - 2) : Nat) = c) :
    decOf s.data.toList a = (((beNat ((s.data.toList.drop a).take (2 ^ c)) % 2 ^ (8 * 2 ^ c - 2) : Nat) : Int), ((a + 2 ^ c : Nat) : Int), 0) := by
  unfold decOf
  rw [getD_byte s a h, hB]
  have e : s.data.toList.length = s.size := by simp
  rw [e, if_neg (by omega), if_neg (by omega), if_neg (by rw [hv]; simp)]

def decV (l : List UInt8) (a : Nat) : Value := .tuple #[.int .i64 (decOf l a).1, .int .i64 (decOf l a).2.1, .int .i64 (decOf l a).2.2]

set_option maxHeartbeats 400000 in
theorem decode_end (s : ByteArray) (w : World) :
    Calls Try.prog 17 #[.string s, .int .i64 s.size] w fun e w' => e = .returned (decV s.data.toList s.size) ∧ Below w.heap.size w w' := by
  have hd : decV s.data.toList s.size = .tuple #[.int .i64 0, .int .i64 0, .int .i64 11] := by unfold decV; rw [decOf_end]
  have Hd := Lib.hid hd
  clear hd
  go_enter Try.func17, Try.ntmps17
  go_wp2
  go_ret3
  exact ⟨by rw [Hd.out]; rfl, Below.refl _ _⟩

theorem read_q (s : ByteArray) (a width : Int) (x : Nat) (w : World) (hs : s.size ≤ maxLen) (h0 : 0 ≤ a) (hw0 : 0 ≤ width) (hw : width ≤ 8) (h : a + width ≤ s.size)
    (hx : Hid (beNat ((s.data.toList.drop a.toNat).take width.toNat) = x)) :
    Calls Try.prog 43 #[.string s, .int .i64 a, .int .i64 width] w fun e w' => e = .returned (.int .u64 x) ∧ w' = w :=
  (read_any s a width w hs h0 hw0 hw h).mono fun _ _ ⟨h1, h2⟩ => ⟨by rw [h1, hx.out], h2.symm⟩

theorem and_form (x k : Nat) (hx : x < 18446744073709551616) (hk : k ≤ 62) : bits .and .u64 (x : Int) ((2 ^ k - 1 : Nat) : Int) = ((x % 2 ^ k : Nat) : Int) := by
  have h1 : 2 ^ k ≤ 2 ^ 62 := Nat.pow_le_pow_right (by decide) hk
  have h2 : (2 : Nat) ^ 62 = 4611686018427387904 := by decide
  rw [u64_and_nat _ _ hx (by omega), Nat.and_two_pow_sub_one_eq_mod]

set_option maxHeartbeats 400000 in
theorem decode_c0 (s : ByteArray) (a : Nat) (w : World) (hs : s.size ≤ maxLen) (h : a < s.size) (hB : s[a].toNat / 64 = 0) :
    Calls Try.prog 17 #[.string s, .int .i64 a] w fun e w' => e = .returned (decV s.data.toList a) ∧ Below w.heap.size w w' := by
  have hs' := hs
  unfold maxLen at hs'
  have hq : ((s[a].toNat : Nat) : Int) / 64 = 0 := by omega
  by_cases hsh : s.size - a < 2 ^ 0
  · exact absurd hsh (by have : 2 ^ 0 = 1 := rfl; omega)
  · have hx0 := beNat_lt ((s.data.toList.drop a).take (2 ^ 0))
    have hx1 : 256 ^ ((s.data.toList.drop a).take (2 ^ 0)).length ≤ 256 ^ 8 := Nat.pow_le_pow_right (by decide) (by have := List.length_take_le (2 ^ 0) (s.data.toList.drop a); omega)
    have hx2 : (256 : Nat) ^ 8 = 18446744073709551616 := by decide
    have hx3 : beNat ((s.data.toList.drop a).take (2 ^ 0)) < 18446744073709551616 := by omega
    have hand := and_form (beNat ((s.data.toList.drop a).take (2 ^ 0))) (8 * 2 ^ 0 - 2) hx3 (by decide)
    clear hx0 hx1 hx2
    have hg := decOf_good s a 0 h hB (by omega)
    have hb := decOf_bad s a 0 h hB (by omega)
    generalize hx : beNat ((s.data.toList.drop a).take (2 ^ 0)) = x at *
    generalize hy : x % 2 ^ (8 * 2 ^ 0 - 2) = y at *
    have hy1 : y ≤ 63 := by
      have hlt : x % 2 ^ (8 * 2 ^ 0 - 2) < 2 ^ (8 * 2 ^ 0 - 2) := Nat.mod_lt _ (by decide)
      have he : 2 ^ (8 * 2 ^ 0 - 2) = 64 := by decide
      rw [hy, he] at hlt
      omega
    have hand' : bits .and .u64 (x : Int) 63 = (y : Int) := hand
    by_cases hv : classOf y = 0
    · have hd : decV s.data.toList a = .tuple #[.int .i64 y, .int .i64 (a + 1 : Nat), .int .i64 0] := by
        unfold decV; rw [hg hv]
      have Hd := Lib.hid hd
      have Hx := Lib.hid hx
      have Hv := Lib.hid hv
      clear hd hB hx hy hv hg hb hand
      simp at hsh
      go_enter Try.func17, Try.ntmps17
      go_wp2_with fail
      go_quiet ((go_at_call 43; exact Calls.quiet_of_same (read_q s a 1 x _ hs (by omega) (by omega) (by omega) (by omega) Hx)))
      go_wp2_with fail
      refine (class_any _ _).mono ?_
      rintro e w' ⟨rfl, hb⟩
      rw [Hv.out]
      go_wp2
      go_ret3
      exact ⟨by rw [Hd.out]; rfl, (below_drewN (Below.refl _ _) _).trans hb⟩
    · have hd : decV s.data.toList a = .tuple #[.int .i64 0, .int .i64 0, .int .i64 10] := by
        unfold decV; rw [hb hv]
      have hvb : (classOf y != 0) = true := by rw [bne_iff_ne]; exact hv
      have Hd := Lib.hid hd
      have Hx := Lib.hid hx
      have Hv := Lib.hid hv
      clear hd hB hx hy hv hg hb hand
      simp at hsh
      go_enter Try.func17, Try.ntmps17
      go_wp2_with fail
      go_quiet ((go_at_call 43; exact Calls.quiet_of_same (read_q s a 1 x _ hs (by omega) (by omega) (by omega) (by omega) Hx)))
      go_wp2_with fail
      refine (class_any _ _).mono ?_
      rintro e w' ⟨rfl, hb⟩
      go_wp2
      go_ret3
      exact ⟨by rw [Hd.out]; rfl, (below_drewN (Below.refl _ _) _).trans hb⟩

set_option maxHeartbeats 400000 in
theorem decode_c1 (s : ByteArray) (a : Nat) (w : World) (hs : s.size ≤ maxLen) (h : a < s.size) (hB : s[a].toNat / 64 = 1) :
    Calls Try.prog 17 #[.string s, .int .i64 a] w fun e w' => e = .returned (decV s.data.toList a) ∧ Below w.heap.size w w' := by
  have hs' := hs
  unfold maxLen at hs'
  have hq : ((s[a].toNat : Nat) : Int) / 64 = 1 := by omega
  by_cases hsh : s.size - a < 2 ^ 1
  · have hd : decV s.data.toList a = .tuple #[.int .i64 0, .int .i64 0, .int .i64 11] := by unfold decV; rw [decOf_short s a 1 h hB hsh]
    have Hd := Lib.hid hd
    clear hd hB
    simp at hsh
    go_enter Try.func17, Try.ntmps17
    go_wp2
    go_ret3
    exact ⟨by rw [Hd.out]; rfl, Below.refl _ _⟩
  · have hx0 := beNat_lt ((s.data.toList.drop a).take (2 ^ 1))
    have hx1 : 256 ^ ((s.data.toList.drop a).take (2 ^ 1)).length ≤ 256 ^ 8 := Nat.pow_le_pow_right (by decide) (by have := List.length_take_le (2 ^ 1) (s.data.toList.drop a); omega)
    have hx2 : (256 : Nat) ^ 8 = 18446744073709551616 := by decide
    have hx3 : beNat ((s.data.toList.drop a).take (2 ^ 1)) < 18446744073709551616 := by omega
    have hand := and_form (beNat ((s.data.toList.drop a).take (2 ^ 1))) (8 * 2 ^ 1 - 2) hx3 (by decide)
    clear hx0 hx1 hx2
    have hg := decOf_good s a 1 h hB (by omega)
    have hb := decOf_bad s a 1 h hB (by omega)
    generalize hx : beNat ((s.data.toList.drop a).take (2 ^ 1)) = x at *
    generalize hy : x % 2 ^ (8 * 2 ^ 1 - 2) = y at *
    have hy1 : y ≤ 16383 := by
      have hlt : x % 2 ^ (8 * 2 ^ 1 - 2) < 2 ^ (8 * 2 ^ 1 - 2) := Nat.mod_lt _ (by decide)
      have he : 2 ^ (8 * 2 ^ 1 - 2) = 16384 := by decide
      rw [hy, he] at hlt
      omega
    have hand' : bits .and .u64 (x : Int) 16383 = (y : Int) := hand
    by_cases hv : classOf y = 1
    · have hd : decV s.data.toList a = .tuple #[.int .i64 y, .int .i64 (a + 2 : Nat), .int .i64 0] := by
        unfold decV; rw [hg hv]
      have Hd := Lib.hid hd
      have Hx := Lib.hid hx
      have Hv := Lib.hid hv
      clear hd hB hx hy hv hg hb hand
      simp at hsh
      go_enter Try.func17, Try.ntmps17
      go_wp2_with fail
      go_quiet ((go_at_call 43; exact Calls.quiet_of_same (read_q s a 2 x _ hs (by omega) (by omega) (by omega) (by omega) Hx)))
      go_wp2_with fail
      refine (class_any _ _).mono ?_
      rintro e w' ⟨rfl, hb⟩
      rw [Hv.out]
      go_wp2
      go_ret3
      exact ⟨by rw [Hd.out]; rfl, (below_drewN (Below.refl _ _) _).trans hb⟩
    · have hd : decV s.data.toList a = .tuple #[.int .i64 0, .int .i64 0, .int .i64 10] := by
        unfold decV; rw [hb hv]
      have hvb : (classOf y != 1) = true := by rw [bne_iff_ne]; exact hv
      have Hd := Lib.hid hd
      have Hx := Lib.hid hx
      have Hv := Lib.hid hv
      clear hd hB hx hy hv hg hb hand
      simp at hsh
      go_enter Try.func17, Try.ntmps17
      go_wp2_with fail
      go_quiet ((go_at_call 43; exact Calls.quiet_of_same (read_q s a 2 x _ hs (by omega) (by omega) (by omega) (by omega) Hx)))
      go_wp2_with fail
      refine (class_any _ _).mono ?_
      rintro e w' ⟨rfl, hb⟩
      go_wp2
      go_ret3
      exact ⟨by rw [Hd.out]; rfl, (below_drewN (Below.refl _ _) _).trans hb⟩

set_option maxHeartbeats 400000 in
theorem decode_c2 (s : ByteArray) (a : Nat) (w : World) (hs : s.size ≤ maxLen) (h : a < s.size) (hB : s[a].toNat / 64 = 2) :
    Calls Try.prog 17 #[.string s, .int .i64 a] w fun e w' => e = .returned (decV s.data.toList a) ∧ Below w.heap.size w w' := by
  have hs' := hs
  unfold maxLen at hs'
  have hq : ((s[a].toNat : Nat) : Int) / 64 = 2 := by omega
  by_cases hsh : s.size - a < 2 ^ 2
  · have hd : decV s.data.toList a = .tuple #[.int .i64 0, .int .i64 0, .int .i64 11] := by unfold decV; rw [decOf_short s a 2 h hB hsh]
    have Hd := Lib.hid hd
    clear hd hB
    simp at hsh
    go_enter Try.func17, Try.ntmps17
    go_wp2
    go_ret3
    exact ⟨by rw [Hd.out]; rfl, Below.refl _ _⟩
  · have hx0 := beNat_lt ((s.data.toList.drop a).take (2 ^ 2))
    have hx1 : 256 ^ ((s.data.toList.drop a).take (2 ^ 2)).length ≤ 256 ^ 8 := Nat.pow_le_pow_right (by decide) (by have := List.length_take_le (2 ^ 2) (s.data.toList.drop a); omega)
    have hx2 : (256 : Nat) ^ 8 = 18446744073709551616 := by decide
    have hx3 : beNat ((s.data.toList.drop a).take (2 ^ 2)) < 18446744073709551616 := by omega
    have hand := and_form (beNat ((s.data.toList.drop a).take (2 ^ 2))) (8 * 2 ^ 2 - 2) hx3 (by decide)
    clear hx0 hx1 hx2
    have hg := decOf_good s a 2 h hB (by omega)
    have hb := decOf_bad s a 2 h hB (by omega)
    generalize hx : beNat ((s.data.toList.drop a).take (2 ^ 2)) = x at *
    generalize hy : x % 2 ^ (8 * 2 ^ 2 - 2) = y at *
    have hy1 : y ≤ 1073741823 := by
      have hlt : x % 2 ^ (8 * 2 ^ 2 - 2) < 2 ^ (8 * 2 ^ 2 - 2) := Nat.mod_lt _ (by decide)
      have he : 2 ^ (8 * 2 ^ 2 - 2) = 1073741824 := by decide
      rw [hy, he] at hlt
      omega
    have hand' : bits .and .u64 (x : Int) 1073741823 = (y : Int) := hand
    by_cases hv : classOf y = 2
    · have hd : decV s.data.toList a = .tuple #[.int .i64 y, .int .i64 (a + 4 : Nat), .int .i64 0] := by
        unfold decV; rw [hg hv]
      have Hd := Lib.hid hd
      have Hx := Lib.hid hx
      have Hv := Lib.hid hv
      clear hd hB hx hy hv hg hb hand
      simp at hsh
      go_enter Try.func17, Try.ntmps17
      go_wp2_with fail
      go_quiet ((go_at_call 43; exact Calls.quiet_of_same (read_q s a 4 x _ hs (by omega) (by omega) (by omega) (by omega) Hx)))
      go_wp2_with fail
      refine (class_any _ _).mono ?_
      rintro e w' ⟨rfl, hb⟩
      rw [Hv.out]
      go_wp2
      go_ret3
      exact ⟨by rw [Hd.out]; rfl, (below_drewN (Below.refl _ _) _).trans hb⟩
    · have hd : decV s.data.toList a = .tuple #[.int .i64 0, .int .i64 0, .int .i64 10] := by
        unfold decV; rw [hb hv]
      have hvb : (classOf y != 2) = true := by rw [bne_iff_ne]; exact hv
      have Hd := Lib.hid hd
      have Hx := Lib.hid hx
      have Hv := Lib.hid hv
      clear hd hB hx hy hv hg hb hand
      simp at hsh
      go_enter Try.func17, Try.ntmps17
      go_wp2_with fail
      go_quiet ((go_at_call 43; exact Calls.quiet_of_same (read_q s a 4 x _ hs (by omega) (by omega) (by omega) (by omega) Hx)))
      go_wp2_with fail
      refine (class_any _ _).mono ?_
      rintro e w' ⟨rfl, hb⟩
      go_wp2
      go_ret3
      exact ⟨by rw [Hd.out]; rfl, (below_drewN (Below.refl _ _) _).trans hb⟩

set_option maxHeartbeats 400000 in
theorem decode_c3 (s : ByteArray) (a : Nat) (w : World) (hs : s.size ≤ maxLen) (h : a < s.size) (hB : s[a].toNat / 64 = 3) :
    Calls Try.prog 17 #[.string s, .int .i64 a] w fun e w' => e = .returned (decV s.data.toList a) ∧ Below w.heap.size w w' := by
  have hs' := hs
  unfold maxLen at hs'
  have hq : ((s[a].toNat : Nat) : Int) / 64 = 3 := by omega
  by_cases hsh : s.size - a < 2 ^ 3
  · have hd : decV s.data.toList a = .tuple #[.int .i64 0, .int .i64 0, .int .i64 11] := by unfold decV; rw [decOf_short s a 3 h hB hsh]
    have Hd := Lib.hid hd
    clear hd hB
    simp at hsh
    go_enter Try.func17, Try.ntmps17
    go_wp2
    go_ret3
    exact ⟨by rw [Hd.out]; rfl, Below.refl _ _⟩
  · have hx0 := beNat_lt ((s.data.toList.drop a).take (2 ^ 3))
    have hx1 : 256 ^ ((s.data.toList.drop a).take (2 ^ 3)).length ≤ 256 ^ 8 := Nat.pow_le_pow_right (by decide) (by have := List.length_take_le (2 ^ 3) (s.data.toList.drop a); omega)
    have hx2 : (256 : Nat) ^ 8 = 18446744073709551616 := by decide
    have hx3 : beNat ((s.data.toList.drop a).take (2 ^ 3)) < 18446744073709551616 := by omega
    have hand := and_form (beNat ((s.data.toList.drop a).take (2 ^ 3))) (8 * 2 ^ 3 - 2) hx3 (by decide)
    clear hx0 hx1 hx2
    have hg := decOf_good s a 3 h hB (by omega)
    have hb := decOf_bad s a 3 h hB (by omega)
    generalize hx : beNat ((s.data.toList.drop a).take (2 ^ 3)) = x at *
    generalize hy : x % 2 ^ (8 * 2 ^ 3 - 2) = y at *
    have hy1 : y ≤ 4611686018427387903 := by
      have hlt : x % 2 ^ (8 * 2 ^ 3 - 2) < 2 ^ (8 * 2 ^ 3 - 2) := Nat.mod_lt _ (by decide)
      have he : 2 ^ (8 * 2 ^ 3 - 2) = 4611686018427387904 := by decide
      rw [hy, he] at hlt
      omega
    have hand' : bits .and .u64 (x : Int) 4611686018427387903 = (y : Int) := hand
    by_cases hv : classOf y = 3
    · have hd : decV s.data.toList a = .tuple #[.int .i64 y, .int .i64 (a + 8 : Nat), .int .i64 0] := by
        unfold decV; rw [hg hv]
      have Hd := Lib.hid hd
      have Hx := Lib.hid hx
      have Hv := Lib.hid hv
      clear hd hB hx hy hv hg hb hand
      simp at hsh
      go_enter Try.func17, Try.ntmps17
      go_wp2_with fail
      go_quiet ((go_at_call 43; exact Calls.quiet_of_same (read_q s a 8 x _ hs (by omega) (by omega) (by omega) (by omega) Hx)))
      go_wp2_with fail
      refine (class_any _ _).mono ?_
      rintro e w' ⟨rfl, hb⟩
      rw [Hv.out]
      go_wp2
      go_ret3
      exact ⟨by rw [Hd.out]; rfl, (below_drewN (Below.refl _ _) _).trans hb⟩
    · have hd : decV s.data.toList a = .tuple #[.int .i64 0, .int .i64 0, .int .i64 10] := by
        unfold decV; rw [hb hv]
      have hvb : (classOf y != 3) = true := by rw [bne_iff_ne]; exact hv
      have Hd := Lib.hid hd
      have Hx := Lib.hid hx
      have Hv := Lib.hid hv
      clear hd hB hx hy hv hg hb hand
      simp at hsh
      go_enter Try.func17, Try.ntmps17
      go_wp2_with fail
      go_quiet ((go_at_call 43; exact Calls.quiet_of_same (read_q s a 8 x _ hs (by omega) (by omega) (by omega) (by omega) Hx)))
      go_wp2_with fail
      refine (class_any _ _).mono ?_
      rintro e w' ⟨rfl, hb⟩
      go_wp2
      go_ret3
      exact ⟨by rw [Hd.out]; rfl, (below_drewN (Below.refl _ _) _).trans hb⟩


theorem decode_any (s : ByteArray) (a : Int) (w : World) (hs : s.size ≤ maxLen) (h0 : 0 ≤ a) (h : a ≤ s.size) :
    Calls Try.prog 17 #[.string s, .int .i64 a] w fun e w' => e = .returned (decV s.data.toList a.toNat) ∧ Below w.heap.size w w' := by
  obtain ⟨a, rfl⟩ := Int.eq_ofNat_of_zero_le h0
  rw [Int.toNat_natCast]
  by_cases ha : a = s.size
  · subst ha; exact decode_end s w
  · have hlt : a < s.size := by omega
    have := s[a].toNat_lt
    rcases (show s[a].toNat / 64 = 0 ∨ s[a].toNat / 64 = 1 ∨ s[a].toNat / 64 = 2 ∨ s[a].toNat / 64 = 3 by omega) with e | e | e | e
    · exact decode_c0 s a w hs hlt e
    · exact decode_c1 s a w hs hlt e
    · exact decode_c2 s a w hs hlt e
    · exact decode_c3 s a w hs hlt e

end Go.Proofs.Ytmafbkoneggggaa
