/-
  Walk: the law VarintUnique returns true, at every input.
-/
import Derived.Test.YtmafbkoneggggaaW8
namespace Go.Proofs.Ytmafbkoneggggaa
open Go.RowKit

theorem IsEnc.unique {l m : List UInt8} {n : Int} (h : IsEnc l n) (k : IsEnc m n) : l = m := h.2.2.trans k.2.2.symm

/-- What Decode gives, by cases. -/
def Decoded (t : ByteArray) (a : Int) (v : Value) : Prop :=
  v = .tuple #[.int .i64 0, .int .i64 0, .int .i64 11] ∨ v = .tuple #[.int .i64 0, .int .i64 0, .int .i64 10] ∨
  ∃ (n y : Int) (l : List UInt8), v = .tuple #[.int .i64 n, .int .i64 y, .int .i64 0] ∧ IsEnc l n ∧ a ≤ y ∧ y ≤ t.size ∧ (t.data.toList.drop a.toNat).take (y.toNat - a.toNat) = l

theorem decode_cases (t : ByteArray) (a : Int) (w : World) (ht : t.size ≤ maxLen) (h0 : 0 ≤ a) (h : a ≤ t.size) :
    Calls Try.prog 17 #[.string t, .int .i64 a] w fun e w' => (∃ v, e = .returned v ∧ Decoded t a v) ∧ Below w.heap.size w w' := by
  refine (decode_any t a w ht h0 h).mono ?_
  rintro e w' ⟨rfl, b⟩
  refine ⟨⟨_, rfl, ?_⟩, b⟩
  unfold Decoded decV
  rcases dec_err t.data.toList a.toNat with e | e | ⟨v, x, e⟩
  · rw [e]; exact .inl rfl
  · rw [e]; exact .inr (.inl rfl)
  · rw [e]
    obtain ⟨n, y, rfl, rfl, h1, h2, h3, h4⟩ := dec_ok e
    have hs : t.data.toList.length = t.size := by simp
    refine .inr (.inr ⟨n, y, _, rfl, ⟨by omega, by omega, rfl⟩, by omega, by omega, ?_⟩)
    rw [Int.toNat_natCast, Int.toNat_natCast, h4]

/-- 'string([]byte{f})', the slice's cells just made. -/
theorem conv_one (w : World) (f : Int) (h0 : 0 ≤ f) (h1 : f ≤ 255) :
    (convert 30 9 (.slice (some ⟨w.heap.size, 0, none⟩) 1 1)).run Try.prog (w.alloc (.cells #[.int .u8 f] 5)).drew = .ok (.string ⟨#[UInt8.ofNat f.toNat]⟩) (w.alloc (.cells #[.int .u8 f] 5)).drew := by
  refine run_convert_bytes_back (w.alloc (.cells #[.int .u8 f] 5)).drew 30 9 5 ⟨w.heap.size, 0, none⟩ 1 [UInt8.ofNat f.toNat] Try.underlying30 Try.underlying5 Try.underlying9 (fun j hj => ?_)
  have hj0 : j = 0 := by simp at hj; omega
  subst hj0
  have e : ((UInt8.ofNat f.toNat).toNat : Int) = f := by rw [u8_toNat_ofNat]; omega
  simp only [List.getElem_cons_zero, e]
  exact (Boxed.new w 5 (.int .u8 f)).cell

theorem unique_size (f : Int) (q : ByteArray) (h : q.size ≤ 300) : 1 ≤ ((⟨#[UInt8.ofNat f.toNat]⟩ : ByteArray) ++ q).size ∧ ((⟨#[UInt8.ofNat f.toNat]⟩ : ByteArray) ++ q).size ≤ 301 := by
  have e : ((⟨#[UInt8.ofNat f.toNat]⟩ : ByteArray) ++ q).size = 1 + q.size := by simp [ByteArray.size_append]; rfl
  omega

set_option maxRecDepth 100000 in
set_option maxHeartbeats 2000000 in
theorem unique_walk (s : ByteArray) (a f : Int) (w : World) (hs : s.size ≤ maxLen) (ha : -9223372036854775808 ≤ a) (ha' : a ≤ 9223372036854775807) (hf : 0 ≤ f) (hf' : f ≤ 255) :
    Calls Try.prog 4 #[.string s, .int .i64 a, .int .u8 f] w fun e w' => e = .returned (.bool true) ∧ Below w.heap.size w w' := by
  unfold maxLen at hs
  by_cases hs1 : 300 < s.size
  all_goals
    go_enter Try.func4, Try.ntmps4
    go_wp2_with fail
    refine (sane_any _).mono ?_
    rintro e w1 ⟨rfl, b1⟩
    have hcv := conv_one w1 f hf hf'
    go_wp2_with fail
    go_region
    obtain ⟨W1, hW1⟩ : ∃ W1, (w1.alloc (.cells #[.int .u8 f] 5)).drew = W1 := ⟨_, rfl⟩
    have c1 : Below w.heap.size w W1 := by rw [← hW1]; exact (b1.alloc b1.size _).drew
    rw [hW1]
    obtain ⟨T, hT, hT1, hT2⟩ : ∃ T : ByteArray, (⟨#[UInt8.ofNat f.toNat]⟩ : ByteArray) ++ (if 300 < s.size then s.extract 0 300 else s) = T ∧ 1 ≤ T.size ∧ T.size ≤ 301 := by
      refine ⟨_, rfl, unique_size f _ ?_⟩
      split
      · exact extract_le _ _
      · omega
    first
      | rw [if_pos hs1] at hT
      | rw [if_neg (by omega)] at hT
    rw [hT]
    clear hT hW1 hcv hs hs1 b1 hf hf'
    have hP := pickI_bd a T.size (by omega)
    go_wp2_with fail
    refine (pick_any _ _ _ ha ha' (by omega) (by omega)).mono ?_
    rintro e w2 ⟨rfl, rfl⟩
    generalize pickI a T.size = P at *
    go_wp2_with fail
    obtain ⟨W2, hW2⟩ : ∃ W2, W1.alloc (.cells #[.int .i64 0, .int .i64 P] 3) = W2 := ⟨_, rfl⟩
    have c2 : Below w.heap.size w W2 := by rw [← hW2]; exact c1.alloc c1.size _
    have hsz : W1.heap.size < W2.heap.size := by rw [← hW2]; simp
    have hcell : ∀ k : Nat, k < 2 → ∃ x : Int, 0 ≤ x ∧ x ≤ T.size ∧ W2.cell? ⟨W1.heap.size, k, none⟩ = some (.int .i64 x) := by
      intro k hk
      rcases (show k = 0 ∨ k = 1 by omega) with rfl | rfl
      · exact ⟨0, by omega, by omega, by rw [← hW2]; exact World.cell?_alloc_mark _ _ _ _ 0⟩
      · exact ⟨P, by omega, by omega, by rw [← hW2]; exact World.cell?_alloc_mark _ _ _ _ 1⟩
    rw [hW2]
    have Hcell := Lib.hid hcell
    clear hW2 c1 hcell
    go_loopw [32] (fun i wr => ∃ k : Nat, k ≤ 2 ∧ i = .int .i64 k ∧ Below W2.heap.size W2 wr) (fun i _ => 2 - (intOf i).toNat)
    case atStart => exact ⟨0, by omega, rfl, Below.refl _ _⟩
    case round =>
      obtain ⟨k, hk, rfl, hb⟩ := hrel
      by_cases hlt : k < 2
      · obtain ⟨x, hx0, hx1, hx⟩ := Hcell.out k hlt
        have hx' : wr.cell? ⟨W1.heap.size, k, none⟩ = some (.int .i64 x) := (hb.cell (p := ⟨W1.heap.size, k, none⟩) hsz).trans hx
        clear hx
        go_wp2_with fail
        refine (decode_cases _ _ _ (by unfold maxLen; omega) hx0 hx1).mono ?_
        rintro e w3 ⟨⟨v, rfl, hv⟩, b3⟩
        have b4 := hb.trans (b3.mono hb.size)
        rcases hv with rfl | rfl | ⟨n, y, l, rfl, hl, hy1, hy2, hy3⟩
        · go_wp2_with fail
          go_roundw
          case rel => exact ⟨k + 1, by omega, by go_num, b4⟩
          case measure => simp [intOf]; omega
        · go_wp2_with fail
          go_roundw
          case rel => exact ⟨k + 1, by omega, by go_num, b4⟩
          case measure => simp [intOf]; omega
        · have hq : ((T.extract x.toNat y.toNat).toList == l) = true := by
            rw [ByteArray.toList_eq, beq_iff_eq, ← hy3]
            simp [ByteArray.data_extract, List.extract_eq_take_drop]
          clear hy3
          go_wp2_with fail
          refine (enc_h _ _ hl.1 hl.2.1).mono ?_
          rintro e w4 ⟨⟨l', rfl, hl'⟩, b5⟩
          obtain rfl := hl.unique hl'
          have b6 := b4.trans (b5.mono b4.size)
          go_wp2_with fail
          go_roundw
          case rel => exact ⟨k + 1, by omega, by go_num, b6⟩
          case measure => simp [intOf]; omega
      · obtain rfl : k = 2 := by omega
        go_wp2_with fail
        go_ret
        exact ⟨rfl, c2.trans (hb.mono c2.size)⟩

end Go.Proofs.Ytmafbkoneggggaa
