/-
  Walk: the law VarintRoundTrip returns true, at every input.
-/
import Derived.Test.YtmafbkoneggggaaW7
namespace Go.Proofs.Ytmafbkoneggggaa
open Go.RowKit

/-- l is the encoding of n. -/
def IsEnc (l : List UInt8) (n : Int) : Prop := 0 ≤ n ∧ n ≤ 4611686018427387903 ∧ l = encL n.toNat

theorem IsEnc.length {l : List UInt8} {n : Int} (h : IsEnc l n) : 1 ≤ l.length ∧ l.length ≤ 8 ∧ lenOf n = l.length := by
  obtain ⟨h0, h1, rfl⟩ := h
  obtain ⟨n, rfl⟩ := Int.eq_ofNat_of_zero_le h0
  rw [Int.toNat_natCast]
  obtain ⟨c, c1, c2, c3⟩ := classOf_ok n (by omega)
  rw [encL_length c2]
  unfold lenOf
  rw [c2, if_neg (by omega), Int.toNat_natCast]
  rcases (show c = 0 ∨ c = 1 ∨ c = 2 ∨ c = 3 by omega) with rfl | rfl | rfl | rfl <;> simp

theorem enc_h (n : Int) (w : World) (h0 : 0 ≤ n) (h1 : n ≤ 4611686018427387903) :
    Calls Try.prog 16 #[.int .i64 n] w fun e w' => (∃ l, e = .returned (.tuple #[.string ⟨l.toArray⟩, .int .i64 0]) ∧ IsEnc l n) ∧ Below w.heap.size w w' :=
  (encode_ok n w h0 h1).mono fun _ _ ⟨h, b⟩ => ⟨⟨_, h, h0, h1, rfl⟩, b⟩

theorem len_h (n : Int) (l : List UInt8) (w : World) (h : IsEnc l n) :
    Calls Try.prog 18 #[.int .i64 n] w fun e w' => e = .returned (.int .i64 l.length) ∧ Below w.heap.size w w' :=
  (len_any n w).mono fun _ _ ⟨he, b⟩ => ⟨by rw [he, h.length.2.2], b⟩

theorem dec_app (P Q l : List UInt8) (n : Int) (h : IsEnc l n) : decOf (P ++ l ++ Q) P.length = (n, ((P.length + l.length : Nat) : Int), 0) := by
  obtain ⟨h0, h1, rfl⟩ := h
  obtain ⟨n, rfl⟩ := Int.eq_ofNat_of_zero_le h0
  rw [Int.toNat_natCast]
  obtain ⟨c, c1, c2, c3⟩ := classOf_ok n (by omega)
  rw [encL_length c2]
  exact dec_enc c1 c2 c3 P Q

theorem dec_at (P Q : ByteArray) (l : List UInt8) (n : Int) (w : World) (h : IsEnc l n) (hP : P.size ≤ 4611686018427387904) (hQ : Q.size ≤ 100) :
    Calls Try.prog 17 #[.string (P ++ ⟨l.toArray⟩ ++ Q), .int .i64 P.size] w fun e w' => e = .returned (.tuple #[.int .i64 n, .int .i64 ((P.size : Int) + (l.length : Int)), .int .i64 0]) ∧ Below w.heap.size w w' := by
  have hl := h.length
  have e : (P ++ (⟨l.toArray⟩ : ByteArray) ++ Q).size = P.size + l.length + Q.size := by simp [ByteArray.size_append]; rfl
  refine (decode_any _ _ w (by rw [e]; unfold maxLen; omega) (by omega) (by rw [e]; omega)).mono ?_
  rintro e w' ⟨rfl, b⟩
  refine ⟨?_, b⟩
  rw [Int.toNat_natCast]
  have ed : (P ++ (⟨l.toArray⟩ : ByteArray) ++ Q).data.toList = P.data.toList ++ l ++ Q.data.toList := by simp
  have es : P.size = P.data.toList.length := by simp
  unfold decV
  rw [ed, es, dec_app _ _ _ _ h]
  simp

theorem extract_le (p : ByteArray) (k : Nat) : (p.extract 0 k).size ≤ k := by rw [ByteArray.size_extract]; omega

set_option maxRecDepth 100000 in
set_option maxHeartbeats 2000000 in
theorem roundTrip_walk (c : Int) (p q : ByteArray) (w : World) (hc : -9223372036854775808 ≤ c) (hc' : c ≤ 9223372036854775807) (hp : p.size ≤ maxLen) (hq : q.size ≤ maxLen) :
    Calls Try.prog 3 #[.int .i64 c, .string p, .string q] w fun e w' => e = .returned (.bool true) ∧ Below w.heap.size w w' := by
  unfold maxLen at hp hq
  have hn := numFrom_bd c
  have hP := extract_le p 100
  by_cases hp1 : 100 < p.size <;> by_cases hq1 : 100 < q.size
  · go_enter Try.func3, Try.ntmps3
    go_wp2_with fail
    refine (sane_any _).mono ?_
    rintro e w1 ⟨rfl, b1⟩
    go_wp2_with fail
    refine (numFrom_any _ _ hc hc').mono ?_
    rintro e w2 ⟨rfl, b2⟩
    generalize numFrom c = n at *
    go_wp2_with fail
    generalize p.extract 0 100 = P at *
    refine (enc_h _ _ (by omega) (by omega)).mono ?_
    rintro e w3 ⟨⟨l, rfl, hl⟩, b3⟩
    have hl1 := hl.length.1
    have hl2 := hl.length.2.1
    go_wp2_with fail
    refine (dec_at _ _ l n _ hl (by omega) (extract_le _ _)).mono ?_
    rintro e w4 ⟨rfl, b4⟩
    go_wp2_with fail
    refine (len_h n l _ hl).mono ?_
    rintro e w5 ⟨rfl, b5⟩
    go_wp2_with fail
    go_ret
    refine ⟨rfl, ?_⟩
    have c2 := b1.trans (b2.mono b1.size)
    have c3 := c2.trans (b3.mono c2.size)
    have c4 := c3.trans (b4.mono c3.size)
    exact c4.trans (b5.mono c4.size)
  · go_enter Try.func3, Try.ntmps3
    go_wp2_with fail
    refine (sane_any _).mono ?_
    rintro e w1 ⟨rfl, b1⟩
    go_wp2_with fail
    refine (numFrom_any _ _ hc hc').mono ?_
    rintro e w2 ⟨rfl, b2⟩
    generalize numFrom c = n at *
    go_wp2_with fail
    generalize p.extract 0 100 = P at *
    refine (enc_h _ _ (by omega) (by omega)).mono ?_
    rintro e w3 ⟨⟨l, rfl, hl⟩, b3⟩
    have hl1 := hl.length.1
    have hl2 := hl.length.2.1
    go_wp2_with fail
    refine (dec_at _ _ l n _ hl (by omega) (by omega)).mono ?_
    rintro e w4 ⟨rfl, b4⟩
    go_wp2_with fail
    refine (len_h n l _ hl).mono ?_
    rintro e w5 ⟨rfl, b5⟩
    go_wp2_with fail
    go_ret
    refine ⟨rfl, ?_⟩
    have c2 := b1.trans (b2.mono b1.size)
    have c3 := c2.trans (b3.mono c2.size)
    have c4 := c3.trans (b4.mono c3.size)
    exact c4.trans (b5.mono c4.size)
  · go_enter Try.func3, Try.ntmps3
    go_wp2_with fail
    refine (sane_any _).mono ?_
    rintro e w1 ⟨rfl, b1⟩
    go_wp2_with fail
    refine (numFrom_any _ _ hc hc').mono ?_
    rintro e w2 ⟨rfl, b2⟩
    generalize numFrom c = n at *
    go_wp2_with fail
    clear hP
    refine (enc_h _ _ (by omega) (by omega)).mono ?_
    rintro e w3 ⟨⟨l, rfl, hl⟩, b3⟩
    have hl1 := hl.length.1
    have hl2 := hl.length.2.1
    go_wp2_with fail
    refine (dec_at _ _ l n _ hl (by omega) (extract_le _ _)).mono ?_
    rintro e w4 ⟨rfl, b4⟩
    go_wp2_with fail
    refine (len_h n l _ hl).mono ?_
    rintro e w5 ⟨rfl, b5⟩
    go_wp2_with fail
    go_ret
    refine ⟨rfl, ?_⟩
    have c2 := b1.trans (b2.mono b1.size)
    have c3 := c2.trans (b3.mono c2.size)
    have c4 := c3.trans (b4.mono c3.size)
    exact c4.trans (b5.mono c4.size)
  · go_enter Try.func3, Try.ntmps3
    go_wp2_with fail
    refine (sane_any _).mono ?_
    rintro e w1 ⟨rfl, b1⟩
    go_wp2_with fail
    refine (numFrom_any _ _ hc hc').mono ?_
    rintro e w2 ⟨rfl, b2⟩
    generalize numFrom c = n at *
    go_wp2_with fail
    clear hP
    refine (enc_h _ _ (by omega) (by omega)).mono ?_
    rintro e w3 ⟨⟨l, rfl, hl⟩, b3⟩
    have hl1 := hl.length.1
    have hl2 := hl.length.2.1
    go_wp2_with fail
    refine (dec_at _ _ l n _ hl (by omega) (by omega)).mono ?_
    rintro e w4 ⟨rfl, b4⟩
    go_wp2_with fail
    refine (len_h n l _ hl).mono ?_
    rintro e w5 ⟨rfl, b5⟩
    go_wp2_with fail
    go_ret
    refine ⟨rfl, ?_⟩
    have c2 := b1.trans (b2.mono b1.size)
    have c3 := c2.trans (b3.mono c2.size)
    have c4 := c3.trans (b4.mono c3.size)
    exact c4.trans (b5.mono c4.size)

end Go.Proofs.Ytmafbkoneggggaa
