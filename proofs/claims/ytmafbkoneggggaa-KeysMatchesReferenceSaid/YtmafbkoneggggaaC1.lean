/-
  The block cipher in plain numbers, and that it is one to one for a fixed key. No program in sight.
-/
import Derived.Test.YtmafbkoneggggaaP1
namespace Go.Proofs.Ytmafbkoneggggaa
open Go.RowKit

/-- x turned left by n of its 32 bits. -/
def rotl (x n : Nat) : Nat := (x * 2 ^ n % 4294967296) ||| (x / 2 ^ (32 - n))
/-- The round function, the key's words being k. -/
def mixN (k : Nat → Nat) (r i : Nat) : Nat := rotl ((r + k (i % 4) + 2654435769 * (i + 1)) % 4294967296) 7 ^^^ rotl r 18 ^^^ k ((i + 1) % 4)
/-- n rounds from round i on. -/
def roundsN (k : Nat → Nat) : Nat → Nat → Nat × Nat → Nat × Nat
  | 0, _, s => s
  | n + 1, i, s => roundsN k n (i + 1) (s.2, s.1 ^^^ mixN k s.2 i)
def wordAt (s : List UInt8) (i : Nat) : Nat := beNat ((s.drop (4 * i)).take 4)
/-- The cipher on lists of 16 and of 8 bytes. -/
def encB (key block : List UInt8) : List UInt8 :=
  beB (roundsN (wordAt key) 8 0 (wordAt block 0, wordAt block 1)).2 4 ++ beB (roundsN (wordAt key) 8 0 (wordAt block 0, wordAt block 1)).1 4

theorem encB_length (k b : List UInt8) : (encB k b).length = 8 := by simp [encB, beB_length]

theorem wordAt_lt (s : List UInt8) (i : Nat) : wordAt s i < 4294967296 := by
  unfold wordAt
  have h := beNat_lt ((s.drop (4 * i)).take 4)
  have h1 : 256 ^ ((s.drop (4 * i)).take 4).length ≤ 256 ^ 4 := Nat.pow_le_pow_right (by decide) (List.length_take_le _ _)
  have h2 : (256 : Nat) ^ 4 = 4294967296 := by decide
  omega

theorem or_lt32 {a b : Nat} (ha : a < 4294967296) (hb : b < 4294967296) : a ||| b < 4294967296 := Nat.or_lt_two_pow (n := 32) ha hb
theorem xor_lt32 {a b : Nat} (ha : a < 4294967296) (hb : b < 4294967296) : a ^^^ b < 4294967296 := Nat.xor_lt_two_pow (n := 32) ha hb

theorem rotl_lt {x : Nat} (n : Nat) (h : x < 4294967296) : rotl x n < 4294967296 :=
  or_lt32 (Nat.mod_lt _ (by decide)) (Nat.lt_of_le_of_lt (Nat.div_le_self _ _) h)

theorem mixN_lt {k : Nat → Nat} (hk : ∀ j, k j < 4294967296) {r i : Nat} (hr : r < 4294967296) : mixN k r i < 4294967296 :=
  xor_lt32 (xor_lt32 (rotl_lt _ (Nat.mod_lt _ (by decide))) (rotl_lt _ hr)) (hk _)

theorem roundsN_lt {k : Nat → Nat} (hk : ∀ j, k j < 4294967296) : ∀ n i s, s.1 < 4294967296 → s.2 < 4294967296 → (roundsN k n i s).1 < 4294967296 ∧ (roundsN k n i s).2 < 4294967296
  | 0, _, _, h1, h2 => ⟨h1, h2⟩
  | n + 1, i, _, h1, h2 => roundsN_lt hk n (i + 1) _ h2 (xor_lt32 h1 (mixN_lt hk h2))

theorem xor_cancel {a b c : Nat} (h : a ^^^ c = b ^^^ c) : a = b := by
  have := congrArg (· ^^^ c) h
  simpa [Nat.xor_assoc] using this

theorem roundsN_inj (k : Nat → Nat) : ∀ n i s t, roundsN k n i s = roundsN k n i t → s = t
  | 0, _, _, _, h => h
  | n + 1, i, s, t, h => by
    have e := roundsN_inj k n (i + 1) _ _ h
    simp only [Prod.mk.injEq] at e
    obtain ⟨e1, e2⟩ := e
    rw [e1] at e2
    exact Prod.ext (xor_cancel e2) e1

theorem beB_inj {u v w : Nat} (hu : u < 256 ^ w) (hv : v < 256 ^ w) (h : beB u w = beB v w) : u = v := by
  have := congrArg beNat h
  rw [beNat_beB, beNat_beB, Nat.mod_eq_of_lt hu, Nat.mod_eq_of_lt hv] at this
  exact this

theorem beNat_inj {l m : List UInt8} (hl : l.length = m.length) (h : beNat l = beNat m) : l = m := by
  rw [← beB_beNat l, ← beB_beNat m, hl, h]

theorem wordAt_inj {b c : List UInt8} (hb : b.length = 8) (hc : c.length = 8) (h0 : wordAt b 0 = wordAt c 0) (h1 : wordAt b 1 = wordAt c 1) : b = c := by
  unfold wordAt at h0 h1
  have e0 := beNat_inj (by simp [hb, hc]) h0
  have e1 := beNat_inj (by simp [hb, hc]) h1
  simp only [Nat.mul_zero, List.drop_zero, Nat.mul_one] at e0 e1
  rw [List.take_of_length_le (by simp [hb]), List.take_of_length_le (by simp [hc])] at e1
  rw [← List.take_append_drop 4 b, ← List.take_append_drop 4 c, e0, e1]

/-- For a fixed key the cipher is one to one on blocks. -/
theorem encB_inj {k b c : List UInt8} (hb : b.length = 8) (hc : c.length = 8) (h : encB k b = encB k c) : b = c := by
  have hk := wordAt_lt k
  have lb := roundsN_lt hk 8 0 (wordAt b 0, wordAt b 1) (wordAt_lt _ _) (wordAt_lt _ _)
  have lc := roundsN_lt hk 8 0 (wordAt c 0, wordAt c 1) (wordAt_lt _ _) (wordAt_lt _ _)
  unfold encB at h
  obtain ⟨e1, e2⟩ := List.append_inj h (by simp [beB_length])
  have hp : (256 : Nat) ^ 4 = 4294967296 := by decide
  have f1 := beB_inj (by rw [hp]; exact lb.2) (by rw [hp]; exact lc.2) e1
  have f2 := beB_inj (by rw [hp]; exact lb.1) (by rw [hp]; exact lc.1) e2
  have g := roundsN_inj _ _ _ _ _ (Prod.ext f2 f1)
  simp only [Prod.mk.injEq] at g
  exact wordAt_inj hb hc g.1 g.2

end Go.Proofs.Ytmafbkoneggggaa
