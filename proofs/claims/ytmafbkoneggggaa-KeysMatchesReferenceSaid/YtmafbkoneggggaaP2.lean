/-
  The variable-length encoding in plain lists of bytes: decoding an encoding gives its integer, and what is decoded is an encoding. No program in sight.
-/
import Derived.Test.YtmafbkoneggggaaP1
namespace Go.Proofs.Ytmafbkoneggggaa
open Go.RowKit

/-- The class of an integer, -1 if it has none. -/
def classOf (n : Int) : Int := if n < 0 then -1 else if n ≤ 63 then 0 else if n ≤ 16383 then 1 else if n ≤ 1073741823 then 2 else if n ≤ 4611686018427387903 then 3 else -1
def lenOf (n : Int) : Int := if classOf n < 0 then 0 else 2 ^ (classOf n).toNat

theorem classOf_cases (n : Int) : classOf n = -1 ∨ classOf n = 0 ∨ classOf n = 1 ∨ classOf n = 2 ∨ classOf n = 3 := by
  unfold classOf; repeat' split
  all_goals simp

theorem classOf_ok (n : Nat) (h : n ≤ 4611686018427387903) : ∃ c : Nat, c ≤ 3 ∧ classOf n = c ∧ n < 2 ^ (8 * 2 ^ c - 2) := by
  unfold classOf
  rw [if_neg (by omega)]
  by_cases h0 : (n : Int) ≤ 63
  · exact ⟨0, by omega, by rw [if_pos h0]; rfl, by simp; omega⟩
  rw [if_neg h0]
  by_cases h1 : (n : Int) ≤ 16383
  · exact ⟨1, by omega, by rw [if_pos h1]; rfl, by simp; omega⟩
  rw [if_neg h1]
  by_cases h2 : (n : Int) ≤ 1073741823
  · exact ⟨2, by omega, by rw [if_pos h2]; rfl, by simp; omega⟩
  rw [if_neg h2]
  exact ⟨3, by omega, by rw [if_pos (by omega)]; rfl, by simp; omega⟩

/-- The variable-length encoding. -/
def encL (n : Nat) : List UInt8 := beB (n + (classOf n).toNat * 2 ^ (8 * 2 ^ (classOf n).toNat - 2)) (2 ^ (classOf n).toNat)

/-- What Decode gives at an offset that is not behind the end. -/
def decOf (l : List UInt8) (a : Nat) : Int × Int × Int :=
  if l.length ≤ a then (0, 0, 11)
  else if l.length - a < 2 ^ ((l.getD a 0).toNat / 64) then (0, 0, 11)
  else if classOf (beNat ((l.drop a).take (2 ^ ((l.getD a 0).toNat / 64))) % 2 ^ (8 * 2 ^ ((l.getD a 0).toNat / 64) - 2) : Nat) ≠ ((l.getD a 0).toNat / 64 : Nat) then (0, 0, 10)
  else ((beNat ((l.drop a).take (2 ^ ((l.getD a 0).toNat / 64))) % 2 ^ (8 * 2 ^ ((l.getD a 0).toNat / 64) - 2) : Nat), (a + 2 ^ ((l.getD a 0).toNat / 64) : Nat), 0)

theorem encL_of {n c : Nat} (h : classOf n = c) : encL n = beB (n + c * 2 ^ (8 * 2 ^ c - 2)) (2 ^ c) := by
  unfold encL; rw [h, Int.toNat_natCast]

theorem encL_length {n c : Nat} (h : classOf n = c) : (encL n).length = 2 ^ c := by rw [encL_of h, beB_length]

/-- The facts on the value that is laid out, class by class. -/
theorem enc_value {n c : Nat} (hc : c ≤ 3) (hn : n < 2 ^ (8 * 2 ^ c - 2)) :
    n + c * 2 ^ (8 * 2 ^ c - 2) < 256 ^ 2 ^ c ∧ (n + c * 2 ^ (8 * 2 ^ c - 2)) / 256 ^ (2 ^ c - 1) % 256 / 64 = c ∧ (n + c * 2 ^ (8 * 2 ^ c - 2)) % 2 ^ (8 * 2 ^ c - 2) = n := by
  rcases (show c = 0 ∨ c = 1 ∨ c = 2 ∨ c = 3 by omega) with rfl | rfl | rfl | rfl <;> simp at hn ⊢ <;> omega

theorem dec_enc {n c : Nat} (hc : c ≤ 3) (h : classOf n = c) (hn : n < 2 ^ (8 * 2 ^ c - 2)) (p q : List UInt8) :
    decOf (p ++ encL n ++ q) p.length = ((n : Int), ((p.length + 2 ^ c : Nat) : Int), 0) := by
  obtain ⟨v1, v2, v3⟩ := enc_value hc hn
  have hl := encL_length h
  have hw : 0 < 2 ^ c := Nat.pow_pos (by decide)
  have hb : ((p ++ encL n ++ q).getD p.length 0).toNat / 64 = c := by
    have e : (p ++ encL n ++ q).getD p.length 0 = UInt8.ofNat ((n + c * 2 ^ (8 * 2 ^ c - 2)) / 256 ^ (2 ^ c - 1)) := by
      rw [List.getD_eq_getElem?_getD, List.append_assoc, List.getElem?_append_right (by omega), Nat.sub_self, List.getElem?_append_left (by omega), List.getElem?_eq_getElem (by omega)]
      simp only [encL_of h]
      rw [beB_getElem _ _ _ hw]
      rfl
    rw [e, u8_toNat_ofNat, v2]
  have hd : ((p ++ encL n ++ q).drop p.length).take (2 ^ c) = encL n := by
    rw [List.append_assoc, List.drop_left, ← hl, List.take_left]
  unfold decOf
  rw [hb, hd, if_neg (by simp; omega), if_neg (by simp; omega)]
  have hv : beNat (encL n) % 2 ^ (8 * 2 ^ c - 2) = n := by rw [encL_of h, beNat_beB, Nat.mod_eq_of_lt v1, v3]
  rw [hv, if_neg (by rw [h]; simp)]

theorem dec_prefix {n c : Nat} (hc : c ≤ 3) (h : classOf n = c) (hn : n < 2 ^ (8 * 2 ^ c - 2)) (k : Nat) (hk : k < 2 ^ c) :
    decOf ((encL n).take k) 0 = (0, 0, 11) := by
  obtain ⟨v1, v2, v3⟩ := enc_value hc hn
  have hl := encL_length h
  have hw : 0 < 2 ^ c := Nat.pow_pos (by decide)
  unfold decOf
  by_cases h0 : k = 0
  · subst h0; simp
  rw [if_neg (by simp [hl]; omega)]
  have hb : (((encL n).take k).getD 0 0).toNat / 64 = c := by
    have e : ((encL n).take k).getD 0 0 = UInt8.ofNat ((n + c * 2 ^ (8 * 2 ^ c - 2)) / 256 ^ (2 ^ c - 1)) := by
      rw [List.getD_eq_getElem?_getD, List.getElem?_take_of_lt (by omega), List.getElem?_eq_getElem (by omega)]
      simp only [encL_of h]
      rw [beB_getElem _ _ _ hw]
      rfl
    rw [e, u8_toNat_ofNat, v2]
  rw [hb, if_pos (by simp [hl]; omega)]

theorem encL_prefix_free {n m : Nat} (hn : n ≤ 4611686018427387903) (hm : m ≤ 4611686018427387903) (q : List UInt8) (h : encL m = encL n ++ q) : n = m := by
  obtain ⟨c, c1, c2, c3⟩ := classOf_ok n hn
  obtain ⟨d, d1, d2, d3⟩ := classOf_ok m hm
  have e1 := dec_enc c1 c2 c3 [] q
  have e2 := dec_enc d1 d2 d3 [] []
  simp only [List.nil_append, List.append_nil, List.length_nil] at e1 e2
  rw [h, e1] at e2
  have := congrArg Prod.fst e2
  simp at this
  omega

/-- What is decoded is the encoding of what comes out. -/
theorem dec_ok {l : List UInt8} {a : Nat} {v x : Int} (h : decOf l a = (v, x, 0)) : ∃ n y : Nat, v = n ∧ x = y ∧ n ≤ 4611686018427387903 ∧ a ≤ y ∧ y ≤ l.length ∧ (l.drop a).take (y - a) = encL n := by
  unfold decOf at h
  split at h
  · simp at h
  rename_i h1
  split at h
  · simp at h
  rename_i h2
  split at h
  · simp at h
  rename_i h3
  have hc : (l.getD a 0).toNat / 64 ≤ 3 := by have := (l.getD a 0).toNat_lt; omega
  generalize hcc : (l.getD a 0).toNat / 64 = c at *
  simp only [ne_eq, Decidable.not_not] at h3
  simp only [Prod.mk.injEq, and_true] at h
  have hy : a + 2 ^ c ≤ l.length := by
    clear h h3 hcc
    generalize 2 ^ c = W at *
    omega
  refine ⟨beNat ((l.drop a).take (2 ^ c)) % 2 ^ (8 * 2 ^ c - 2), a + 2 ^ c, h.1.symm, h.2.symm, ?_, Nat.le_add_right _ _, hy, ?_⟩
  · rcases (show c = 0 ∨ c = 1 ∨ c = 2 ∨ c = 3 by omega) with rfl | rfl | rfl | rfl <;> simp <;> omega
  · rw [Nat.add_sub_cancel_left, encL_of h3]
    have hlen : ((l.drop a).take (2 ^ c)).length = 2 ^ c := by
      rw [List.length_take, List.length_drop]
      clear h h3 hcc
      generalize 2 ^ c = W at *
      omega
    have hb0 : ((l.drop a).take (2 ^ c)).getD 0 0 = l.getD a 0 := by
      rw [List.getD_eq_getElem?_getD, List.getElem?_take_of_lt (Nat.pow_pos (by decide)), List.getElem?_drop, List.getD_eq_getElem?_getD]
      simp
    generalize (l.drop a).take (2 ^ c) = t at *
    have hlt := beNat_lt t
    have hbb := beB_beNat t
    rw [hlen] at hlt hbb
    have htop : (t.getD 0 0).toNat = beNat t / 256 ^ (2 ^ c - 1) % 256 := by
      have hw : 0 < 2 ^ c := Nat.pow_pos (by decide)
      have := beB_getElem (2 ^ c) (beNat t) 0 hw
      rw [List.getD_eq_getElem?_getD, List.getElem?_eq_getElem (by omega)]
      simp only [hbb] at this
      simp [this]
    rw [hb0] at htop
    clear h h2 h3 hy hb0
    generalize (l.getD a 0).toNat = B at *
    have : beNat t % 2 ^ (8 * 2 ^ c - 2) + c * 2 ^ (8 * 2 ^ c - 2) = beNat t := by
      rcases (show c = 0 ∨ c = 1 ∨ c = 2 ∨ c = 3 by omega) with rfl | rfl | rfl | rfl <;> simp at hlt htop ⊢ <;> omega
    rw [this, hbb]

theorem dec_err (l : List UInt8) (a : Nat) : decOf l a = (0, 0, 11) ∨ decOf l a = (0, 0, 10) ∨ ∃ v x, decOf l a = (v, x, 0) := by
  unfold decOf
  split
  · exact .inl rfl
  split
  · exact .inl rfl
  split
  · exact .inr (.inl rfl)
  · exact .inr (.inr ⟨_, _, rfl⟩)

end Go.Proofs.Ytmafbkoneggggaa
