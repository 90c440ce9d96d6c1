/-
  Plain arithmetic of big-endian byte strings. No program in sight; no conditions.
-/
import Derived.WalkKit
namespace Go.Proofs.Ytmafbkoneggggaa
open Go.RowKit

/-- The integer of a big-endian byte string. -/
def beNat (l : List UInt8) : Nat := l.foldl (fun n b => n * 256 + b.toNat) 0
/-- The w low bytes of v, most significant first. -/
def beB (v : Nat) : Nat → List UInt8
  | 0 => []
  | w + 1 => beB (v / 256) w ++ [UInt8.ofNat v]

theorem beNat_nil : beNat [] = 0 := rfl
theorem beNat_snoc (l : List UInt8) (b : UInt8) : beNat (l ++ [b]) = beNat l * 256 + b.toNat := by simp [beNat]
theorem beB_length (w : Nat) : ∀ v, (beB v w).length = w := by
  induction w with
  | zero => intro v; rfl
  | succ w ih => intro v; simp [beB, ih]
theorem u8_toNat_ofNat (n : Nat) : (UInt8.ofNat n).toNat = n % 256 := by simp

theorem beNat_beB (w : Nat) : ∀ v, beNat (beB v w) = v % 256 ^ w := by
  induction w with
  | zero => intro v; simp [beB, beNat, Nat.mod_one]
  | succ w ih =>
    intro v
    rw [beB, beNat_snoc, ih, u8_toNat_ofNat, Nat.pow_succ, Nat.mul_comm (256 ^ w) 256, Nat.mod_mul]
    omega

theorem list_snoc_ind {P : List UInt8 → Prop} (h0 : P []) (hs : ∀ l b, P l → P (l ++ [b])) : ∀ l, P l := by
  intro l
  have : ∀ n, ∀ l : List UInt8, l.length = n → P l := by
    intro n
    induction n with
    | zero => intro l hl; rw [List.length_eq_zero_iff.1 hl]; exact h0
    | succ n ih =>
      intro l hl
      have hne : l ≠ [] := by intro h; rw [h] at hl; simp at hl
      rw [← List.dropLast_concat_getLast hne]
      exact hs _ _ (ih _ (by simp [hl]))
  exact this _ l rfl

theorem beNat_lt (l : List UInt8) : beNat l < 256 ^ l.length := by
  induction l using list_snoc_ind with
  | h0 => simp [beNat]
  | hs l b ih =>
    rw [beNat_snoc, List.length_append, Nat.pow_add]
    have := b.toNat_lt
    simp
    omega

theorem beB_beNat (l : List UInt8) : beB (beNat l) l.length = l := by
  induction l using list_snoc_ind with
  | h0 => rfl
  | hs l b ih =>
    have hb := b.toNat_lt
    rw [List.length_append, List.length_singleton, beB, beNat_snoc]
    have h1 : (beNat l * 256 + b.toNat) / 256 = beNat l := by omega
    rw [h1, ih]
    have h2 : UInt8.ofNat (beNat l * 256 + b.toNat) = b := by
      apply UInt8.toNat_inj.1
      rw [u8_toNat_ofNat]; omega
    rw [h2]

theorem beB_mod (w : Nat) : ∀ v u, v % 256 ^ w = u % 256 ^ w → beB v w = beB u w := by
  intro v u h
  rw [← beNat_beB, ← beNat_beB] at h
  have h1 := beB_beNat (beB v w)
  have h2 := beB_beNat (beB u w)
  rw [beB_length] at h1 h2
  rw [← h1, ← h2, h]

theorem beB_getElem (w : Nat) : ∀ v k (h : k < w), (beB v w)[k]'(by rw [beB_length]; exact h) = UInt8.ofNat (v / 256 ^ (w - 1 - k)) := by
  induction w with
  | zero => intro v k h; omega
  | succ w ih =>
    intro v k h
    simp only [beB]
    by_cases hk : k < w
    · rw [List.getElem_append_left (by rw [beB_length]; exact hk), ih _ _ hk, Nat.div_div_eq_div_mul]
      have : 256 * 256 ^ (w - 1 - k) = 256 ^ (w + 1 - 1 - k) := by
        rw [← Nat.pow_succ']; congr 1; omega
      rw [this]
    · have hkw : k = w := by omega
      subst hkw
      rw [List.getElem_append_right (by rw [beB_length]; omega)]
      simp [beB_length]

theorem beB_take_snoc (v w k : Nat) (h : k < w) : (beB v w).take (k + 1) = (beB v w).take k ++ [UInt8.ofNat (v / 256 ^ (w - 1 - k))] := by
  rw [List.take_succ_eq_append_getElem (by rw [beB_length]; exact h), beB_getElem _ _ _ h]

theorem take_drop_snoc (l : List UInt8) (a k : Nat) (h : a + k < l.length) : (l.drop a).take (k + 1) = (l.drop a).take k ++ [l[a + k]] := by
  rw [List.take_succ_eq_append_getElem (by rw [List.length_drop]; omega)]
  simp

end Go.Proofs.Ytmafbkoneggggaa
