/-
  Walk: the law VarintTruncated returns true, at every input.
-/
import Derived.Test.YtmafbkoneggggaaW9
namespace Go.Proofs.Ytmafbkoneggggaa
open Go.RowKit

theorem IsEnc.prefix_iff {l m : List UInt8} {n k : Int} (h : IsEnc l n) (g : IsEnc m k) : m.take l.length = l ↔ n = k := by
  constructor
  · intro e
    have e2 := List.take_append_drop l.length m
    rw [e] at e2
    obtain ⟨h0, h1, rfl⟩ := h
    obtain ⟨g0, g1, rfl⟩ := g
    have := encL_prefix_free (n := n.toNat) (m := k.toNat) (by omega) (by omega) _ e2.symm
    omega
  · rintro rfl
    rw [h.unique g]
    simp

theorem dec_trunc (l : List UInt8) (n : Int) (k : Nat) (w : World) (h : IsEnc l n) (hk : k < l.length) (t : ByteArray) (ht : t.data.toList = l.take k) :
    Calls Try.prog 17 #[.string t, .int .i64 0] w fun e w' => e = .returned (.tuple #[.int .i64 0, .int .i64 0, .int .i64 11]) ∧ Below w.heap.size w w' := by
  have hl := h.length
  have hs : t.size = k := by
    have : t.data.toList.length = t.size := by simp
    rw [← this, ht, List.length_take]; omega
  refine (decode_any t 0 w (by unfold maxLen; omega) (by omega) (by omega)).mono ?_
  rintro e w' ⟨rfl, b⟩
  refine ⟨?_, b⟩
  obtain ⟨h0, h1, rfl⟩ := h
  obtain ⟨c, c1, c2, c3⟩ := classOf_ok n.toNat (by omega)
  have := dec_prefix c1 c2 c3 k (by rw [← encL_length c2]; exact hk)
  unfold decV
  rw [ht]
  show Ending.returned (.tuple #[.int .i64 (decOf _ 0).1, .int .i64 (decOf _ 0).2.1, .int .i64 (decOf _ 0).2.2]) = _
  rw [this]

set_option maxRecDepth 100000 in
set_option maxHeartbeats 2000000 in
theorem truncated_walk (c d a : Int) (w : World) (hc : -9223372036854775808 ≤ c) (hc' : c ≤ 9223372036854775807) (hd : -9223372036854775808 ≤ d) (hd' : d ≤ 9223372036854775807) (ha : -9223372036854775808 ≤ a) (ha' : a ≤ 9223372036854775807) :
    Calls Try.prog 6 #[.int .i64 c, .int .i64 d, .int .i64 a] w fun e w' => e = .returned (.bool true) ∧ Below w.heap.size w w' := by
  have hn := numFrom_bd c
  have hm := numFrom_bd d
  go_enter Try.func6, Try.ntmps6
  go_wp2_with fail
  refine (sane_any _).mono ?_
  rintro e w1 ⟨rfl, b1⟩
  go_wp2_with fail
  refine (numFrom_any _ _ hc hc').mono ?_
  rintro e w2 ⟨rfl, b2⟩
  go_wp2_with fail
  refine (enc_h _ _ (by omega) (by omega)).mono ?_
  rintro e w3 ⟨⟨l, rfl, hl⟩, b3⟩
  go_wp2_with fail
  refine (numFrom_any _ _ hd hd').mono ?_
  rintro e w4 ⟨rfl, b4⟩
  go_wp2_with fail
  refine (enc_h _ _ (by omega) (by omega)).mono ?_
  rintro e w5 ⟨⟨m, rfl, hm1⟩, b5⟩
  have hl1 := hl.length.1
  have hl2 := hl.length.2.1
  have hl3 := hm1.length.1
  have hl4 := hm1.length.2.1
  have hP := pickI_bd a l.length (by omega)
  go_wp2_with fail
  refine (pick_any _ _ _ ha ha' (by omega) (by omega)).mono ?_
  rintro e w6 ⟨rfl, rfl⟩
  generalize pickI a l.length = P at *
  go_wp2_with fail
  refine (dec_trunc l _ P.toNat _ hl (by omega) _ (by simp [ByteArray.data_extract, List.extract_eq_take_drop])).mono ?_
  rintro e w7 ⟨rfl, b7⟩
  have hpi := hl.prefix_iff hm1
  have c2 := b1.trans (b2.mono b1.size)
  have c3 := c2.trans (b3.mono c2.size)
  have c4 := c3.trans (b4.mono c3.size)
  have c5 := c4.trans (b5.mono c4.size)
  have c7 := c5.trans (b7.mono c5.size)
  clear b1 b2 b3 b4 b5 b7 c2 c3 c4 c5
  have hex : ((ByteArray.mk m.toArray).extract 0 l.length).toList = m.take l.length := by
    rw [ByteArray.toList_eq]; simp [ByteArray.data_extract, List.extract_eq_take_drop]
  by_cases hle : l.length ≤ m.length
  · by_cases heq : m.take l.length = l
    · have hnm : (numFrom c == numFrom d) = true := by rw [beq_iff_eq]; exact hpi.1 heq
      have hq : (((ByteArray.mk m.toArray).extract 0 l.length).toList == l) = true := by rw [beq_iff_eq, hex]; exact heq
      clear hpi heq hex
      go_wp2_with fail
      refine (numFrom_any _ _ hc hc').mono ?_
      rintro e w8 ⟨rfl, b8⟩
      go_wp2_with fail
      refine (numFrom_any _ _ hd hd').mono ?_
      rintro e w9 ⟨rfl, b9⟩
      go_wp2_with fail
      go_ret
      have c8 := c7.trans (b8.mono c7.size)
      exact ⟨rfl, c8.trans (b9.mono c8.size)⟩
    · have hnm : (numFrom c == numFrom d) = false := by rw [beq_eq_false_iff_ne]; exact fun h => heq (hpi.2 h)
      have hq : (((ByteArray.mk m.toArray).extract 0 l.length).toList == l) = false := by rw [beq_eq_false_iff_ne, hex]; exact heq
      clear hpi heq hex
      go_wp2_with fail
      refine (numFrom_any _ _ hc hc').mono ?_
      rintro e w8 ⟨rfl, b8⟩
      go_wp2_with fail
      refine (numFrom_any _ _ hd hd').mono ?_
      rintro e w9 ⟨rfl, b9⟩
      go_wp2_with fail
      go_ret
      have c8 := c7.trans (b8.mono c7.size)
      exact ⟨rfl, c8.trans (b9.mono c8.size)⟩
  · have hnm : (numFrom c == numFrom d) = false := by
      rw [beq_eq_false_iff_ne]
      intro h
      have := congrArg List.length (hpi.2 h)
      rw [List.length_take] at this
      omega
    clear hpi hex
    go_wp2_with fail
    refine (numFrom_any _ _ hc hc').mono ?_
    rintro e w8 ⟨rfl, b8⟩
    go_wp2_with fail
    refine (numFrom_any _ _ hd hd').mono ?_
    rintro e w9 ⟨rfl, b9⟩
    go_wp2_with fail
    go_ret
    have c8 := c7.trans (b8.mono c7.size)
    exact ⟨rfl, c8.trans (b9.mono c8.size)⟩

end Go.Proofs.Ytmafbkoneggggaa
