/-
  Walk: the law VarintFixedWidth returns true, at every input.
-/
import Derived.Test.YtmafbkoneggggaaW8
namespace Go.Proofs.Ytmafbkoneggggaa
open Go.RowKit

theorem beB_front (w : Nat) : ∀ v, beB v (w + 1) = UInt8.ofNat (v / 256 ^ w) :: beB v w := by
  induction w with
  | zero => intro v; simp [beB]
  | succ w ih =>
    intro v
    rw [beB, ih (v / 256), beB, Nat.div_div_eq_div_mul, List.cons_append, Nat.pow_succ']

theorem bytesLess_be (w : Nat) : ∀ x y, Op.bytesLess (beB x w) (beB y w) = decide (x % 256 ^ w < y % 256 ^ w) := by
  induction w with
  | zero => intro x y; simp [beB, Op.bytesLess, Nat.mod_one]
  | succ w ih =>
    intro x y
    rw [beB_front, beB_front, Op.bytesLess, ih]
    have hp : 0 < 256 ^ w := Nat.pow_pos (by decide)
    have ex : x % 256 ^ (w + 1) = x % 256 ^ w + 256 ^ w * (x / 256 ^ w % 256) := by rw [Nat.pow_succ, Nat.mod_mul]
    have ey : y % 256 ^ (w + 1) = y % 256 ^ w + 256 ^ w * (y / 256 ^ w % 256) := by rw [Nat.pow_succ, Nat.mod_mul]
    rw [ex, ey]
    have lx := Nat.mod_lt x hp
    have ly := Nat.mod_lt y hp
    have e1 : (UInt8.ofNat (x / 256 ^ w) < UInt8.ofNat (y / 256 ^ w)) = (x / 256 ^ w % 256 < y / 256 ^ w % 256) := by
      rw [UInt8.lt_iff_toNat_lt, u8_toNat_ofNat, u8_toNat_ofNat]
    have e2 : (UInt8.ofNat (x / 256 ^ w) == UInt8.ofNat (y / 256 ^ w)) = (x / 256 ^ w % 256 == y / 256 ^ w % 256) := by
      rw [Bool.eq_iff_iff, beq_iff_eq, beq_iff_eq, ← UInt8.toNat_inj, u8_toNat_ofNat, u8_toNat_ofNat]
    rw [e2]
    simp only [e1]
    generalize x / 256 ^ w % 256 = p at *
    generalize y / 256 ^ w % 256 = q at *
    generalize x % 256 ^ w = r at *
    generalize y % 256 ^ w = s at *
    generalize 256 ^ w = W at *
    clear ex ey e1 e2 ih
    rw [Bool.eq_iff_iff]
    simp only [Bool.or_eq_true, Bool.and_eq_true, decide_eq_true_eq, beq_iff_eq]
    rcases Nat.lt_trichotomy p q with h | h | h
    · have : W * (p + 1) ≤ W * q := Nat.mul_le_mul_left _ h
      rw [Nat.mul_add] at this
      omega
    · subst h; omega
    · have : W * (q + 1) ≤ W * p := Nat.mul_le_mul_left _ h
      rw [Nat.mul_add] at this
      omega

/-- X is the encoding of n in k bytes. -/
def IsBe (X : List UInt8) (n k : Int) : Prop := 0 ≤ n ∧ n ≤ 9223372036854775807 ∧ 1 ≤ k ∧ k ≤ 8 ∧ n.toNat < 256 ^ k.toNat ∧ X = beB n.toNat k.toNat

theorem IsBe.length {X : List UInt8} {n k : Int} (h : IsBe X n k) : (X.length : Int) ≤ k ∧ k ≤ X.length := by
  obtain ⟨h0, h1, h2, h3, h4, rfl⟩ := h
  rw [beB_length]; omega

theorem uint_h (n k : Int) (w : World) (h0 : 0 ≤ n) (h1 : n ≤ 9223372036854775807) (h2 : 1 ≤ k) (h3 : k ≤ 8) (h4 : n.toNat < 256 ^ k.toNat) :
    Calls Try.prog 20 #[.int .i64 n, .int .i64 k] w fun e w' => (∃ X, e = .returned (.tuple #[.string ⟨X.toArray⟩, .int .i64 0]) ∧ IsBe X n k) ∧ Below w.heap.size w w' :=
  (uint_ok n k w h0 h1 h2 h3 h4).mono fun _ _ ⟨h, b⟩ => ⟨⟨_, h, h0, h1, h2, h3, h4, rfl⟩, b⟩

theorem read_at (t : ByteArray) (A B X : List UInt8) (a n k : Int) (w : World) (h : IsBe X n k) (ht : t.data.toList = A ++ X ++ B) (ha : a = A.length) (hs : t.size ≤ maxLen) :
    Calls Try.prog 21 #[.string t, .int .i64 a, .int .i64 k] w fun e w' => e = .returned (.tuple #[.int .i64 n, .int .i64 0]) ∧ w = w' := by
  have hl := h.length
  obtain ⟨h0, h1, h2, h3, h4, h5⟩ := h
  have hk : k.toNat = X.length := by omega
  have e : beNat ((t.data.toList.drop a.toNat).take k.toNat) = n.toNat := by
    subst ha
    rw [ht, Int.toNat_natCast, List.append_assoc, List.drop_left, hk, List.take_left, h5, beNat_beB, Nat.mod_eq_of_lt h4]
  have hz : t.size = A.length + X.length + B.length := by
    have : t.data.toList.length = t.size := by simp
    rw [← this, ht, List.length_append, List.length_append]
  refine (readUint_ok t a k w hs (by omega) h2 h3 (by omega) (by rw [e]; omega)).mono ?_
  rintro e' w' ⟨rfl, hw⟩
  refine ⟨?_, hw⟩
  rw [e, Int.toNat_of_nonneg h0]

theorem IsBe.less {X Y : List UInt8} {x y k : Int} (hx : IsBe X x k) (hy : IsBe Y y k) : Op.bytesLess X Y = decide (x < y) := by
  obtain ⟨h0, h1, h2, h3, h4, rfl⟩ := hx
  obtain ⟨g0, g1, g2, g3, g4, rfl⟩ := hy
  rw [bytesLess_be, Nat.mod_eq_of_lt h4, Nat.mod_eq_of_lt g4, decide_eq_decide]
  omega

theorem limit_le (v : Int) (h0 : 0 ≤ v) (h1 : v < 7) : 1 ≤ wrap64 (2 ^ ((8 * (1 + v)).toNat - 1)) ∧ wrap64 (2 ^ ((8 * (1 + v)).toNat - 1)) ≤ 36028797018963968 ∧ (wrap64 (2 ^ ((8 * (1 + v)).toNat - 1))).toNat ≤ 256 ^ (1 + v).toNat := by
  rcases (show v = 0 ∨ v = 1 ∨ v = 2 ∨ v = 3 ∨ v = 4 ∨ v = 5 ∨ v = 6 by omega) with rfl | rfl | rfl | rfl | rfl | rfl | rfl <;> decide +kernel

theorem size_three (P : ByteArray) (X Y : List UInt8) (hP : P.size ≤ 50) (hX : X.length ≤ 8) (hY : Y.length ≤ 8) : (P ++ (⟨X.toArray⟩ : ByteArray) ++ (⟨Y.toArray⟩ : ByteArray)).size ≤ maxLen := by
  have e : (P ++ (⟨X.toArray⟩ : ByteArray) ++ (⟨Y.toArray⟩ : ByteArray)).size = P.size + X.length + Y.length := by simp [ByteArray.size_append]; rfl
  unfold maxLen
  omega

set_option maxRecDepth 100000 in
set_option maxHeartbeats 4000000 in
theorem fixed_walk (a b c : Int) (p : ByteArray) (w : World) (ha : -9223372036854775808 ≤ a) (ha' : a ≤ 9223372036854775807) (hb : -9223372036854775808 ≤ b) (hb' : b ≤ 9223372036854775807)
    (hc : -9223372036854775808 ≤ c) (hc' : c ≤ 9223372036854775807) (hp : p.size ≤ maxLen) :
    Calls Try.prog 7 #[.int .i64 a, .int .i64 b, .int .i64 c, .string p] w fun e w' => e = .returned (.bool true) ∧ Below w.heap.size w w' := by
  unfold maxLen at hp
  have hw := pickI_bd c 8 (by omega)
  have hP := extract_le p 50
  obtain ⟨v, hv⟩ : ∃ v, pickI c 8 = v := ⟨_, rfl⟩
  rw [hv] at hw
  have Hv := Lib.hid hv
  clear hv
  by_cases h7 : v < 7 <;> by_cases hp1 : 50 < p.size
  · obtain ⟨l1, l2, l3⟩ := limit_le _ hw.1 h7
    obtain ⟨V, hV⟩ : ∃ V, wrap64 (2 ^ ((8 * (1 + v)).toNat - 1)) = V := ⟨_, rfl⟩
    rw [hV] at l1 l2 l3
    have l4 : V.toNat ≤ 256 ^ (1 + v).toNat := l3
    have HV := Lib.hid hV
    have L4 := Lib.hid l4
    clear hV l4
    have hx := pickI_bd a V l1
    have hy := pickI_bd b V l1
    obtain ⟨x, hx0⟩ : ∃ x, pickI a V = x := ⟨_, rfl⟩
    obtain ⟨y, hy0⟩ : ∃ y, pickI b V = y := ⟨_, rfl⟩
    rw [hx0] at hx
    rw [hy0] at hy
    have Hx0 := Lib.hid hx0
    have Hy0 := Lib.hid hy0
    clear hx0 hy0
    go_enter Try.func7, Try.ntmps7
    go_wp2_with fail
    refine (sane_any _).mono ?_
    rintro e w1 ⟨rfl, b1⟩
    go_wp2_with fail
    refine (pick_h _ _ _ _ hc hc' (by omega) (by omega) Hv).mono ?_
    rintro e w2 ⟨rfl, rfl⟩
    go_wp2_with fail
    rw [HV.out]
    refine (pick_h _ _ _ _ ha ha' (by omega) (by omega) Hx0).mono ?_
    rintro e w2 ⟨rfl, rfl⟩
    go_wp2_with fail
    refine (pick_h _ _ _ _ hb hb' (by omega) (by omega) Hy0).mono ?_
    rintro e w2 ⟨rfl, rfl⟩
    go_wp2_with fail
    generalize p.extract 0 50 = P at *
    refine (uint_h _ _ _ (by omega) (by omega) (by omega) (by omega) (by have := L4.out; omega)).mono ?_
    rintro e w2 ⟨⟨X, rfl, hX⟩, b2⟩
    have hXl := hX.length
    go_wp2_with fail
    refine (uint_h _ _ _ (by omega) (by omega) (by omega) (by omega) (by have := L4.out; omega)).mono ?_
    rintro e w3 ⟨⟨Y, rfl, hY⟩, b3⟩
    have hYl := hY.length
    have hle := hX.less hY
    go_wp2_with fail
    refine (read_at _ P.data.toList Y X _ _ _ _ hX (by simp) (by simp) (size_three _ _ _ (by omega) (by omega) (by omega))).mono ?_
    rintro e w4 ⟨rfl, rfl⟩
    go_wp2_with fail
    refine (read_at _ (P.data.toList ++ X) [] Y _ _ _ _ hY (by simp) (by simp; omega) (size_three _ _ _ (by omega) (by omega) (by omega))).mono ?_
    rintro e w4 ⟨rfl, rfl⟩
    go_wp2_with fail
    go_ret
    have c2 := b1.trans (b2.mono b1.size)
    exact ⟨rfl, c2.trans (b3.mono c2.size)⟩
  · obtain ⟨l1, l2, l3⟩ := limit_le _ hw.1 h7
    obtain ⟨V, hV⟩ : ∃ V, wrap64 (2 ^ ((8 * (1 + v)).toNat - 1)) = V := ⟨_, rfl⟩
    rw [hV] at l1 l2 l3
    have l4 : V.toNat ≤ 256 ^ (1 + v).toNat := l3
    have HV := Lib.hid hV
    have L4 := Lib.hid l4
    clear hV l4
    have hx := pickI_bd a V l1
    have hy := pickI_bd b V l1
    obtain ⟨x, hx0⟩ : ∃ x, pickI a V = x := ⟨_, rfl⟩
    obtain ⟨y, hy0⟩ : ∃ y, pickI b V = y := ⟨_, rfl⟩
    rw [hx0] at hx
    rw [hy0] at hy
    have Hx0 := Lib.hid hx0
    have Hy0 := Lib.hid hy0
    clear hx0 hy0
    go_enter Try.func7, Try.ntmps7
    go_wp2_with fail
    refine (sane_any _).mono ?_
    rintro e w1 ⟨rfl, b1⟩
    go_wp2_with fail
    refine (pick_h _ _ _ _ hc hc' (by omega) (by omega) Hv).mono ?_
    rintro e w2 ⟨rfl, rfl⟩
    go_wp2_with fail
    rw [HV.out]
    refine (pick_h _ _ _ _ ha ha' (by omega) (by omega) Hx0).mono ?_
    rintro e w2 ⟨rfl, rfl⟩
    go_wp2_with fail
    refine (pick_h _ _ _ _ hb hb' (by omega) (by omega) Hy0).mono ?_
    rintro e w2 ⟨rfl, rfl⟩
    go_wp2_with fail
    clear hP
    refine (uint_h _ _ _ (by omega) (by omega) (by omega) (by omega) (by have := L4.out; omega)).mono ?_
    rintro e w2 ⟨⟨X, rfl, hX⟩, b2⟩
    have hXl := hX.length
    go_wp2_with fail
    refine (uint_h _ _ _ (by omega) (by omega) (by omega) (by omega) (by have := L4.out; omega)).mono ?_
    rintro e w3 ⟨⟨Y, rfl, hY⟩, b3⟩
    have hYl := hY.length
    have hle := hX.less hY
    go_wp2_with fail
    refine (read_at _ p.data.toList Y X _ _ _ _ hX (by simp) (by simp) (size_three _ _ _ (by omega) (by omega) (by omega))).mono ?_
    rintro e w4 ⟨rfl, rfl⟩
    go_wp2_with fail
    refine (read_at _ (p.data.toList ++ X) [] Y _ _ _ _ hY (by simp) (by simp; omega) (size_three _ _ _ (by omega) (by omega) (by omega))).mono ?_
    rintro e w4 ⟨rfl, rfl⟩
    go_wp2_with fail
    go_ret
    have c2 := b1.trans (b2.mono b1.size)
    exact ⟨rfl, c2.trans (b3.mono c2.size)⟩
  · obtain rfl : v = 7 := by omega
    obtain ⟨V, hV⟩ : ∃ V, (36028797018963968 : Int) = V := ⟨_, rfl⟩
    have l1 : 1 ≤ V := by omega
    have l2 : V ≤ 36028797018963968 := by omega
    have l4 : V.toNat ≤ 256 ^ (Int.toNat 8) := by
      have e : 256 ^ (Int.toNat 8) = 18446744073709551616 := by decide +kernel
      rw [e]; omega
    have HV := Lib.hid hV
    have L4 := Lib.hid l4
    clear hV l4
    have hx := pickI_bd a V l1
    have hy := pickI_bd b V l1
    obtain ⟨x, hx0⟩ : ∃ x, pickI a V = x := ⟨_, rfl⟩
    obtain ⟨y, hy0⟩ : ∃ y, pickI b V = y := ⟨_, rfl⟩
    rw [hx0] at hx
    rw [hy0] at hy
    have Hx0 := Lib.hid hx0
    have Hy0 := Lib.hid hy0
    clear hx0 hy0
    go_enter Try.func7, Try.ntmps7
    go_wp2_with fail
    refine (sane_any _).mono ?_
    rintro e w1 ⟨rfl, b1⟩
    go_wp2_with fail
    refine (pick_h _ _ _ _ hc hc' (by omega) (by omega) Hv).mono ?_
    rintro e w2 ⟨rfl, rfl⟩
    go_wp2_with fail
    rw [HV.out]
    refine (pick_h _ _ _ _ ha ha' (by omega) (by omega) Hx0).mono ?_
    rintro e w2 ⟨rfl, rfl⟩
    go_wp2_with fail
    refine (pick_h _ _ _ _ hb hb' (by omega) (by omega) Hy0).mono ?_
    rintro e w2 ⟨rfl, rfl⟩
    go_wp2_with fail
    generalize p.extract 0 50 = P at *
    refine (uint_h _ _ _ (by omega) (by omega) (by omega) (by omega) (by have := L4.out; omega)).mono ?_
    rintro e w2 ⟨⟨X, rfl, hX⟩, b2⟩
    have hXl := hX.length
    go_wp2_with fail
    refine (uint_h _ _ _ (by omega) (by omega) (by omega) (by omega) (by have := L4.out; omega)).mono ?_
    rintro e w3 ⟨⟨Y, rfl, hY⟩, b3⟩
    have hYl := hY.length
    have hle := hX.less hY
    go_wp2_with fail
    refine (read_at _ P.data.toList Y X _ _ _ _ hX (by simp) (by simp) (size_three _ _ _ (by omega) (by omega) (by omega))).mono ?_
    rintro e w4 ⟨rfl, rfl⟩
    go_wp2_with fail
    refine (read_at _ (P.data.toList ++ X) [] Y _ _ _ _ hY (by simp) (by simp; omega) (size_three _ _ _ (by omega) (by omega) (by omega))).mono ?_
    rintro e w4 ⟨rfl, rfl⟩
    go_wp2_with fail
    go_ret
    have c2 := b1.trans (b2.mono b1.size)
    exact ⟨rfl, c2.trans (b3.mono c2.size)⟩
  · obtain rfl : v = 7 := by omega
    obtain ⟨V, hV⟩ : ∃ V, (36028797018963968 : Int) = V := ⟨_, rfl⟩
    have l1 : 1 ≤ V := by omega
    have l2 : V ≤ 36028797018963968 := by omega
    have l4 : V.toNat ≤ 256 ^ (Int.toNat 8) := by
      have e : 256 ^ (Int.toNat 8) = 18446744073709551616 := by decide +kernel
      rw [e]; omega
    have HV := Lib.hid hV
    have L4 := Lib.hid l4
    clear hV l4
    have hx := pickI_bd a V l1
    have hy := pickI_bd b V l1
    obtain ⟨x, hx0⟩ : ∃ x, pickI a V = x := ⟨_, rfl⟩
    obtain ⟨y, hy0⟩ : ∃ y, pickI b V = y := ⟨_, rfl⟩
    rw [hx0] at hx
    rw [hy0] at hy
    have Hx0 := Lib.hid hx0
    have Hy0 := Lib.hid hy0
    clear hx0 hy0
    go_enter Try.func7, Try.ntmps7
    go_wp2_with fail
    refine (sane_any _).mono ?_
    rintro e w1 ⟨rfl, b1⟩
    go_wp2_with fail
    refine (pick_h _ _ _ _ hc hc' (by omega) (by omega) Hv).mono ?_
    rintro e w2 ⟨rfl, rfl⟩
    go_wp2_with fail
    rw [HV.out]
    refine (pick_h _ _ _ _ ha ha' (by omega) (by omega) Hx0).mono ?_
    rintro e w2 ⟨rfl, rfl⟩
    go_wp2_with fail
    refine (pick_h _ _ _ _ hb hb' (by omega) (by omega) Hy0).mono ?_
    rintro e w2 ⟨rfl, rfl⟩
    go_wp2_with fail
    clear hP
    refine (uint_h _ _ _ (by omega) (by omega) (by omega) (by omega) (by have := L4.out; omega)).mono ?_
    rintro e w2 ⟨⟨X, rfl, hX⟩, b2⟩
    have hXl := hX.length
    go_wp2_with fail
    refine (uint_h _ _ _ (by omega) (by omega) (by omega) (by omega) (by have := L4.out; omega)).mono ?_
    rintro e w3 ⟨⟨Y, rfl, hY⟩, b3⟩
    have hYl := hY.length
    have hle := hX.less hY
    go_wp2_with fail
    refine (read_at _ p.data.toList Y X _ _ _ _ hX (by simp) (by simp) (size_three _ _ _ (by omega) (by omega) (by omega))).mono ?_
    rintro e w4 ⟨rfl, rfl⟩
    go_wp2_with fail
    refine (read_at _ (p.data.toList ++ X) [] Y _ _ _ _ hY (by simp) (by simp; omega) (size_three _ _ _ (by omega) (by omega) (by omega))).mono ?_
    rintro e w4 ⟨rfl, rfl⟩
    go_wp2_with fail
    go_ret
    have c2 := b1.trans (b2.mono b1.size)
    exact ⟨rfl, c2.trans (b3.mono c2.size)⟩

end Go.Proofs.Ytmafbkoneggggaa
