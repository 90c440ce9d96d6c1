/-
  The authentication code is one to one in every single block. No program in sight.
-/
import Derived.Test.YtmafbkoneggggaaK5
namespace Go.Proofs.Ytmafbkoneggggaa
open Go.RowKit

theorem tagFrom_inj (k : List UInt8) : ∀ n c d s, c.length = 8 → d.length = 8 → tagFrom k n c s = tagFrom k n d s → c = d
  | 0, _, _, _, _, _, h => h
  | n + 1, c, d, s, hc, hd, h => by
    unfold tagFrom at h
    split at h
    · exact h
    · exact stepB_inj1 hc hd (padB_length _) (tagFrom_inj k n _ _ _ (stepB_length _ _ _) (stepB_length _ _ _) h)

theorem tagFrom_head (k : List UInt8) (n : Nat) (c a b q : List UInt8) (hc : c.length = 8) (ha : a.length = 8) (hb : b.length = 8) (hn : 1 ≤ n)
    (h : tagFrom k n c (a ++ q) = tagFrom k n c (b ++ q)) : a = b := by
  obtain ⟨m, rfl⟩ : ∃ m, n = m + 1 := ⟨n - 1, by omega⟩
  have na : ¬ (a ++ q = []) := by intro e; have := congrArg List.length e; simp at this; simp_all
  have nb : ¬ (b ++ q = []) := by intro e; have := congrArg List.length e; simp at this; simp_all
  rw [tagFrom, if_neg na, tagFrom, if_neg nb] at h
  have da : (a ++ q).drop 8 = q := by rw [← ha]; exact List.drop_left
  have db : (b ++ q).drop 8 = q := by rw [← hb]; exact List.drop_left
  rw [da, db] at h
  have h1 := stepB_inj2 hc (padB_length _) (padB_length _) (tagFrom_inj k m _ _ _ (stepB_length _ _ _) (stepB_length _ _ _) h)
  have pa : padB (a ++ q) = a := by
    unfold padB
    have : (a ++ q).take 8 = a := by rw [← ha]; exact List.take_left
    rw [this, ha]; simp [zeros8]
  have pb : padB (b ++ q) = b := by
    unfold padB
    have : (b ++ q).take 8 = b := by rw [← hb]; exact List.take_left
    rw [this, hb]; simp [zeros8]
  rw [pa, pb] at h1
  exact h1

theorem tagFrom_block (k : List UInt8) (n : Nat) (c p q : List UInt8) (hp : p.length = 8) : tagFrom k (n + 1) c (p ++ q) = tagFrom k n (stepB k c p) q := by
  have np : ¬ (p ++ q = []) := by intro e; have := congrArg List.length e; simp at this; simp_all
  rw [tagFrom, if_neg np]
  have dp : (p ++ q).drop 8 = q := by rw [← hp]; exact List.drop_left
  have pp : padB (p ++ q) = p := by
    unfold padB
    have : (p ++ q).take 8 = p := by rw [← hp]; exact List.take_left
    rw [this, hp]; simp [zeros8]
  rw [dp, pp]

theorem padB_at (s : List UInt8) (i : Nat) (hi : i < 8) (hs : i < s.length) : (padB s)[i]? = s[i]? := by
  unfold padB
  rw [List.getElem?_append_left (by rw [List.length_take]; omega), List.getElem?_take, if_pos hi]

theorem tagFrom_set (k : List UInt8) : ∀ n c s i x, c.length = 8 → s.length ≤ n → i < s.length → tagFrom k n c s = tagFrom k n c (s.set i x) → s[i]? = some x
  | 0, _, s, i, _, _, hn, hi, _ => by omega
  | n + 1, c, s, i, x, hc, hn, hi, h => by
    have ns : ¬ (s = []) := by intro e; rw [e] at hi; simp at hi
    have nt : ¬ (s.set i x = []) := by intro e; have := congrArg List.length e; simp at this; exact ns this
    rw [tagFrom, if_neg ns, tagFrom, if_neg nt] at h
    by_cases h8 : i < 8
    · have hd : (s.set i x).drop 8 = s.drop 8 := by rw [List.drop_set, if_pos h8]
      rw [hd] at h
      have h1 := stepB_inj2 hc (padB_length _) (padB_length _) (tagFrom_inj k n _ _ _ (stepB_length _ _ _) (stepB_length _ _ _) h)
      have h2 : (padB s)[i]? = (padB (s.set i x))[i]? := congrArg (fun l => l[i]?) h1
      rw [padB_at _ _ h8 hi, padB_at _ _ h8 (by rw [List.length_set]; exact hi), List.getElem?_set_self hi] at h2
      exact h2
    · have hd : (s.set i x).drop 8 = (s.drop 8).set (i - 8) x := by rw [List.drop_set, if_neg (by omega)]
      have hp : padB (s.set i x) = padB s := by
        unfold padB
        rw [List.take_set, List.set_eq_of_length_le (by rw [List.length_take]; omega)]
      rw [hd, hp] at h
      have := tagFrom_set k n _ _ (i - 8) x (stepB_length _ _ _) (by rw [List.length_drop]; omega) (by rw [List.length_drop]; omega) h
      rw [List.getElem?_drop] at this
      rw [← this]; congr 1; omega

theorem tagB_set (k s : List UInt8) (i : Nat) (x : UInt8) (hi : i < s.length) (h : tagB k s = tagB k (s.set i x)) : s[i]? = some x := by
  unfold tagB at h
  rw [List.length_set] at h
  exact tagFrom_set k _ _ s i x (stepB_length _ _ _) (Nat.le_refl _) hi h

theorem derB_fst {k l c l' c' : List UInt8} (h : derB k l c = derB k l' c') : tagB k (1 :: (beB l.length 1 ++ l ++ c)) = tagB k (1 :: (beB l'.length 1 ++ l' ++ c')) := by
  unfold derB at h
  exact (List.append_inj h (by rw [tagB_length, tagB_length])).1

theorem beB_one (n : Nat) : (beB n 1).length = 1 := by simp [beB]

/-- One byte of the context changed: the derived key changes. -/
theorem derB_set (k l c : List UInt8) (i : Nat) (x : UInt8) (hi : i < c.length) (h : derB k l c = derB k l (c.set i x)) : c[i]? = some x := by
  have h1 := derB_fst h
  have e : (1 : UInt8) :: (beB l.length 1 ++ l ++ c.set i x) = ((1 : UInt8) :: (beB l.length 1 ++ l ++ c)).set (i + l.length + 2) x := by
    rw [show i + l.length + 2 = (i + l.length + 1) + 1 from rfl, List.set_cons_succ, List.set_append_right _ _ (by rw [List.length_append, beB_one]; omega), List.length_append, beB_one]
    congr 3; omega
  rw [e] at h1
  have := tagB_set _ _ _ _ (by simp [beB_one]; omega) h1
  rw [show i + l.length + 2 = (i + l.length + 1) + 1 from rfl, List.getElem?_cons_succ, List.getElem?_append_right (by rw [List.length_append, beB_one]; omega), List.length_append, beB_one] at this
  rw [← this]; congr 1; omega

/-- Client and server differ. -/
theorem cli_ne_srv (k l c : List UInt8) : cliB k l c ≠ srvB k l c := by
  intro h
  unfold cliB srvB at h
  have h1 := derB_fst h
  unfold tagB at h1
  have hl : ([99, 108, 105, 101, 110, 116] ++ [32] ++ l : List UInt8).length = ([115, 101, 114, 118, 101, 114] ++ [32] ++ l : List UInt8).length := by simp
  obtain ⟨v, hv⟩ : ∃ v, beB ([115, 101, 114, 118, 101, 114] ++ [32] ++ l : List UInt8).length 1 = [v] := List.length_eq_one_iff.1 (beB_one _)
  rw [hl, hv] at h1
  have e1 : (1 : UInt8) :: ([v] ++ ([99, 108, 105, 101, 110, 116] ++ [32] ++ l) ++ c) = [1, v, 99, 108, 105, 101, 110, 116] ++ ([32] ++ l ++ c) := by simp
  have e2 : (1 : UInt8) :: ([v] ++ ([115, 101, 114, 118, 101, 114] ++ [32] ++ l) ++ c) = [1, v, 115, 101, 114, 118, 101, 114] ++ ([32] ++ l ++ c) := by simp
  rw [e1, e2] at h1
  have hs : ([1, v, 99, 108, 105, 101, 110, 116] ++ ([32] ++ l ++ c) : List UInt8).length = ([1, v, 115, 101, 114, 118, 101, 114] ++ ([32] ++ l ++ c) : List UInt8).length := by simp
  rw [hs] at h1
  have := tagFrom_head k _ _ _ _ _ (stepB_length _ _ _) rfl rfl (by simp) h1
  simp at this

/-- Labels of fourteen bytes: the context fills the third block. -/
theorem derB_id (k l a b : List UInt8) (hl : l.length = 14) (ha : a.length = 8) (hb : b.length = 8) (h : derB k l a = derB k l b) : a = b := by
  have h1 := derB_fst h
  unfold tagB at h1
  obtain ⟨v, hv⟩ : ∃ v, beB l.length 1 = [v] := List.length_eq_one_iff.1 (beB_one _)
  rw [hv] at h1
  have hs : ((1 : UInt8) :: ([v] ++ l ++ a)).length = ((1 : UInt8) :: ([v] ++ l ++ b)).length := by simp [ha, hb]
  rw [hs] at h1
  have hn : ((1 : UInt8) :: ([v] ++ l ++ b)).length = 22 + 1 + 1 := by simp [hb, hl]
  rw [hn] at h1
  have e : ∀ d : List UInt8, (1 : UInt8) :: ([v] ++ l ++ d) = (1 :: v :: l.take 6) ++ (l.drop 6 ++ d) := by
    intro d
    have := List.take_append_drop 6 l
    simp only [List.cons_append, List.nil_append]
    rw [← List.append_assoc, this]
  rw [e, e, tagFrom_block k _ _ _ _ (by simp [hl]), tagFrom_block k _ _ _ _ (by simp [hl]), tagFrom_block k _ _ _ _ (by simp [hl]), tagFrom_block k _ _ _ _ (by simp [hl])] at h1
  have f := fun d : List UInt8 => (List.append_nil d)
  rw [← f a, ← f b] at h1
  exact tagFrom_head k _ _ _ _ _ (stepB_length _ _ _) ha hb (by omega) h1

theorem cli_id (k a b : List UInt8) (ha : a.length = 8) (hb : b.length = 8) (h : cliB k [105, 110, 105, 116, 105, 97, 108] a = cliB k [105, 110, 105, 116, 105, 97, 108] b) : a = b := derB_id _ _ _ _ rfl ha hb h
theorem srv_id (k a b : List UInt8) (ha : a.length = 8) (hb : b.length = 8) (h : srvB k [105, 110, 105, 116, 105, 97, 108] a = srvB k [105, 110, 105, 116, 105, 97, 108] b) : a = b := derB_id _ _ _ _ rfl ha hb h

end Go.Proofs.Ytmafbkoneggggaa
