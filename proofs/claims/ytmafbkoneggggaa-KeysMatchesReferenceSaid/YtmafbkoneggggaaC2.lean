/-
  The authentication code in plain lists of bytes. No program in sight.
-/
import Derived.Test.YtmafbkoneggggaaC1
namespace Go.Proofs.Ytmafbkoneggggaa
open Go.RowKit

def zeros8 : List UInt8 := [0, 0, 0, 0, 0, 0, 0, 0]
def xorB (a b : List UInt8) : List UInt8 := List.zipWith (· ^^^ ·) a b
/-- The chain by one block. -/
def stepB (key c b : List UInt8) : List UInt8 := encB key (xorB c b)
/-- The first block of s, filled up with zeros. -/
def padB (s : List UInt8) : List UInt8 := s.take 8 ++ zeros8.drop (s.take 8).length
def tagFrom (key : List UInt8) : Nat → List UInt8 → List UInt8 → List UInt8
  | 0, c, _ => c
  | n + 1, c, s => if s = [] then c else tagFrom key n (stepB key c (padB s)) (s.drop 8)
/-- The tag. -/
def tagB (key s : List UInt8) : List UInt8 := tagFrom key s.length (stepB key zeros8 (beB s.length 8)) s
/-- The derived key. -/
def derB (secret label context : List UInt8) : List UInt8 :=
  tagB secret (1 :: (beB label.length 1 ++ label ++ context)) ++ tagB secret (2 :: (beB label.length 1 ++ label ++ context))

theorem padB_length (s : List UInt8) : (padB s).length = 8 := by
  unfold padB
  have : zeros8.length = 8 := rfl
  simp only [List.length_append, List.length_drop, List.length_take, this]
  omega
theorem xorB_length {a b : List UInt8} (ha : a.length = 8) (hb : b.length = 8) : (xorB a b).length = 8 := by simp [xorB, ha, hb]
theorem stepB_length (k c b : List UInt8) : (stepB k c b).length = 8 := encB_length _ _
theorem tagFrom_length (k : List UInt8) : ∀ n c s, c.length = 8 → (tagFrom k n c s).length = 8
  | 0, _, _, h => h
  | n + 1, c, s, h => by
    unfold tagFrom
    split
    · exact h
    · exact tagFrom_length k n _ _ (stepB_length _ _ _)
theorem tagB_length (k s : List UInt8) : (tagB k s).length = 8 := tagFrom_length _ _ _ _ (stepB_length _ _ _)
theorem derB_length (k l c : List UInt8) : (derB k l c).length = 16 := by simp [derB, tagB_length]
/-- No more blocks than bytes. -/
theorem tagFrom_nil (k : List UInt8) : ∀ n c, tagFrom k n c [] = c
  | 0, _ => rfl
  | _ + 1, _ => rfl
theorem tagFrom_more (k : List UInt8) : ∀ n c s, s.length ≤ n → tagFrom k (n + 1) c s = tagFrom k n c s
  | 0, c, s, h => by
    have : s = [] := List.eq_nil_of_length_eq_zero (by omega)
    subst this; rfl
  | n + 1, c, s, h => by
    rw [tagFrom]
    conv => rhs; rw [tagFrom]
    split
    · rfl
    · rename_i hs
      have hl : 0 < s.length := List.length_pos_iff.2 hs
      exact tagFrom_more k n _ _ (by rw [List.length_drop]; omega)
/-- The tag's loop, a block on. -/
theorem tagFrom_step (k : List UInt8) (n : Nat) (c s : List UInt8) (hs : s ≠ []) (hn : s.length ≤ n) : tagFrom k n c s = tagFrom k (n - 1) (stepB k c (padB s)) (s.drop 8) := by
  have hl : 0 < s.length := List.length_pos_iff.2 hs
  obtain ⟨m, rfl⟩ : ∃ m, n = m + 1 := ⟨n - 1, by omega⟩
  rw [tagFrom, if_neg hs]; rfl

theorem zipXor_inj {a b c : List UInt8} (hab : a.length = b.length) (hc : c.length = a.length) (h : xorB a c = xorB b c) : a = b := by
  apply List.ext_getElem hab
  intro i h1 h2
  have e := congrArg (fun l => l[i]?) h
  simp only [xorB, List.getElem?_zipWith] at e
  rw [List.getElem?_eq_getElem h1, List.getElem?_eq_getElem h2, List.getElem?_eq_getElem (by omega : i < c.length)] at e
  simp at e
  exact e
theorem zipXor_inj2 {a b c : List UInt8} (hab : a.length = b.length) (hc : c.length = a.length) (h : xorB c a = xorB c b) : a = b := by
  apply List.ext_getElem hab
  intro i h1 h2
  have e := congrArg (fun l => l[i]?) h
  simp only [xorB, List.getElem?_zipWith] at e
  rw [List.getElem?_eq_getElem h1, List.getElem?_eq_getElem h2, List.getElem?_eq_getElem (by omega : i < c.length)] at e
  simp at e
  exact e

theorem stepB_inj1 {k c d b : List UInt8} (hc : c.length = 8) (hd : d.length = 8) (hb : b.length = 8) (h : stepB k c b = stepB k d b) : c = d :=
  zipXor_inj (by omega) (by omega) (encB_inj (xorB_length hc hb) (xorB_length hd hb) h)
theorem stepB_inj2 {k c b d : List UInt8} (hc : c.length = 8) (hb : b.length = 8) (hd : d.length = 8) (h : stepB k c b = stepB k c d) : b = d :=
  zipXor_inj2 (by omega) (by omega) (encB_inj (xorB_length hc hb) (xorB_length hc hd) h)

end Go.Proofs.Ytmafbkoneggggaa
