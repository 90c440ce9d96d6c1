/-
  Walks: the authentication code computes the plain function.
-/
import Derived.Test.YtmafbkoneggggaaM1
namespace Go.Proofs.Ytmafbkoneggggaa
open Go.RowKit

theorem next_raw (key : ByteArray) (cb kb : Nat) (c b : List UInt8) (w : World) (hk : Hid (key.size = 16)) (hc : Hid (c.length = 8)) (hb : Hid (b.length = 8)) (hne : cb ≠ kb)
    (hC : Blk w cb (byteCells c) 75) (hK : Blk w kb [.string key] 9) :
    Calls Try.prog 61 #[.agg #[.int .u8 (nth b 0).toNat, .int .u8 (nth b 1).toNat, .int .u8 (nth b 2).toNat, .int .u8 (nth b 3).toNat, .int .u8 (nth b 4).toNat, .int .u8 (nth b 5).toNat, .int .u8 (nth b 6).toNat, .int .u8 (nth b 7).toNat], .pointer (some ⟨cb, 0, none⟩), .pointer (some ⟨kb, 0, none⟩)] w fun e w' =>
      (∃ X, e = .returned (.agg #[.int .u8 (nth X 0).toNat, .int .u8 (nth X 1).toNat, .int .u8 (nth X 2).toNat, .int .u8 (nth X 3).toNat, .int .u8 (nth X 4).toNat, .int .u8 (nth X 5).toNat, .int .u8 (nth X 6).toNat, .int .u8 (nth X 7).toNat]) ∧ X = stepB key.data.toList c b ∧ Blk w' cb (byteCells X) 75) ∧ But w w' cb :=
  (next_any key cb kb c b w hk.out hc.out hb.out hne hC hK).mono fun _ _ ⟨h1, h2, h3⟩ => ⟨⟨_, h1, rfl, h2⟩, h3⟩

theorem tagFrom_len (k : List UInt8) (s c : List UInt8) : ∀ d, tagFrom k (s.length + d) c s = tagFrom k s.length c s
  | 0 => rfl
  | d + 1 => by rw [← Nat.add_assoc, tagFrom_more k _ c s (by omega), tagFrom_len k s c d]

theorem tag_round (k : List UInt8) (c s : List UInt8) (hs : s ≠ []) : tagFrom k s.length c s = tagFrom k (s.drop 8).length (stepB k c (padB s)) (s.drop 8) := by
  rw [tagFrom_step k _ c s hs (Nat.le_refl _)]
  have hl : 0 < s.length := List.length_pos_iff.2 hs
  have := tagFrom_len k (s.drop 8) (stepB k c (padB s)) (s.length - 1 - (s.drop 8).length)
  rw [← this]
  congr 1
  rw [List.length_drop]; omega

def strLen : Value → Nat | .string s => s.size | _ => 0

set_option maxHeartbeats 400000 in
theorem chain_any (key : ByteArray) (w : World) :
    Calls Try.prog 58 #[.string key, .agg #[.int .u8 0, .int .u8 0, .int .u8 0, .int .u8 0, .int .u8 0, .int .u8 0, .int .u8 0, .int .u8 0]] w fun e w' => e = .returned (.func (.func 61) #[] #[.pointer (some ⟨w.heap.size + 1, 0, none⟩), .pointer (some ⟨w.heap.size, 0, none⟩)]) ∧
      Blk w' w.heap.size [.string key] 9 ∧ Blk w' (w.heap.size + 1) (byteCells zeros8) 75 ∧ Below w.heap.size w w' ∧ w'.heap.size = w.heap.size + 2 := by
  go_enter Try.func58, Try.ntmps58
  go_wp2
  go_ret
  exact ⟨rfl, (Blk.new w [.string key] 9).alloc _, Blk.newAt _ (byteCells zeros8) 75 (by simp), ((Below.refl _ _).alloc (Nat.le_refl _) _).alloc (by simp) _, by simp⟩

set_option maxRecDepth 100000 in
set_option maxHeartbeats 2000000 in
theorem tag_any (key s : ByteArray) (w : World) (hk : key.size = 16) (hs : s.size ≤ 65536) :
    Calls Try.prog 47 #[.string key, .string s] w fun e w' => e = .returned (.tuple #[.string ⟨(tagB key.data.toList s.data.toList).toArray⟩, .int .i64 0]) ∧ Below w.heap.size w w' := by
  have hk1 : key.size ≤ 16 := by omega
  have hk2 : 16 ≤ key.size := by omega
  have HK := Lib.hid hk
  have hd6 : decide (65536 < (s.size : Int)) = false := by rw [decide_eq_false_iff_not]; omega
  obtain ⟨R, hR⟩ : ∃ R, R = tagB key.data.toList s.data.toList := ⟨_, rfl⟩
  have hRl := tagB_length key.data.toList s.data.toList
  rw [← hR] at hRl ⊢
  unfold tagB at hR
  have hn8 : beB s.data.toList.length 8 = beB s.size 8 := rfl
  rw [hn8] at hR
  have HR := Lib.hid hR
  have HRl := Lib.hid hRl
  have huint := Lib.hid (fun w => uint_ok s.size 8 w (by omega) (by omega) (by decide) (by decide) (by
    have e : 256 ^ (Int.toNat 8) = 18446744073709551616 := by decide +kernel
    rw [e, Int.toNat_natCast]; omega))
  obtain ⟨N, hN⟩ : ∃ N, N = beB s.size 8 := ⟨_, rfl⟩
  have hNl : N.length = 8 := by rw [hN, beB_length]
  have HN := Lib.hid hN
  have HNl := Lib.hid hNl
  clear hk hR hRl hn8 hN hNl
  go_enter Try.func47, Try.ntmps47
  go_wp2_with fail
  refine (huint.out _).mono ?_
  rintro e w1 ⟨rfl, b1⟩
  rw [show beB (Int.toNat (s.size : Int)) (Int.toNat 8) = N from by rw [HN.out, Int.toNat_natCast]; rfl]
  go_wp2_with fail
  refine (chain_any _ _).mono ?_
  rintro e w2 ⟨rfl, K2, C2, b2, hsz⟩
  have hNs : (⟨N.toArray⟩ : ByteArray).size = 8 := HNl.out
  have B2 := Blk.new w2 (byteCells zeros8) 75
  have K2b := K2.alloc (.cells (byteCells zeros8).toArray 75)
  have C2b := C2.alloc (.cells (byteCells zeros8).toArray 75)
  obtain ⟨W3, hcp, B3, hon⟩ := copy_bytes (⟨N.toArray⟩ : ByteArray) B2 rfl
  have hl3 : (⟨N.toArray⟩ : ByteArray).data.toList.take 8 ++ zeros8.drop ((⟨N.toArray⟩ : ByteArray).data.toList.take 8).length = N := by
    have h8 : zeros8.length = 8 := rfl
    have := HNl.out
    simp [this, List.take_of_length_le, h8]
  rw [hl3, arrC_eq N HNl.out] at B3
  have hcp' : (Builtin.copy_ #[30, 9] 3 #[.slice (some ⟨w2.heap.size, 0, none⟩) 8 8, .string ⟨N.toArray⟩]).run Try.prog (w2.alloc (.cells #[.int .u8 0, .int .u8 0, .int .u8 0, .int .u8 0, .int .u8 0, .int .u8 0, .int .u8 0, .int .u8 0] 75)) = .ok (.int .i64 8) W3 := by
    rw [show min (⟨N.toArray⟩ : ByteArray).size 8 = 8 by omega] at hcp
    exact hcp
  have K3 := hon.blk (by omega) K2b
  have C3 := hon.blk (by omega) C2b
  have b12 : Below w.heap.size w w2 := b1.trans (b2.mono b1.size)
  have b3 : Below w.heap.size w W3 := hon.below b12.size (b12.alloc b12.size _)
  have hs3 : W3.heap.size = w2.heap.size + 1 := by rw [hon.size]; simp
  have hle := b1.size
  have HSZ := Lib.hid hsz
  have HS3 := Lib.hid hs3
  have hn12 : w1.heap.size + 1 < w2.heap.size := by omega
  have hn23 : w2.heap.size < W3.heap.size := by omega
  clear hsz hs3 hcp hl3 K2b C2b B2 hon b2 b12 b1
  have D3 : Blk W3 w2.heap.size (arrC N) 75 := B3
  have e0 := D3.cell (j := 0) rfl
  have e1 := D3.cell (j := 1) rfl
  have e2 := D3.cell (j := 2) rfl
  have e3 := D3.cell (j := 3) rfl
  have e4 := D3.cell (j := 4) rfl
  have e5 := D3.cell (j := 5) rfl
  have e6 := D3.cell (j := 6) rfl
  have e7 := D3.cell (j := 7) rfl
  go_wp2_with fail
  refine (next_raw key _ _ zeros8 N _ HK (Lib.hid rfl) HNl (by omega) C3 K3).mono ?_
  rintro e w4 ⟨⟨X, rfl, hX, C4⟩, hbut⟩
  have K4 := hbut.blk (by omega) K3
  have B4 := hbut.blk (by omega) B3
  have b4 : Below w.heap.size w w4 := hbut.below (by omega) b3.size b3
  have hs4 := hbut.size
  have hXl : X.length = 8 := by rw [hX]; exact stepB_length _ _ _
  have HX := Lib.hid hX
  have HXl := Lib.hid hXl
  clear hX hXl C3 K3 B3 D3 hcp' e0 e1 e2 e3 e4 e5 e6 e7 hbut b3
  go_wp2_with fail
  obtain ⟨n0, hn0⟩ : ∃ n, n = w1.heap.size := ⟨_, rfl⟩
  obtain ⟨nb, hnb⟩ : ∃ n, n = w2.heap.size := ⟨_, rfl⟩
  obtain ⟨nt, hnt⟩ : ∃ n, n = w4.heap.size := ⟨_, rfl⟩
  rw [← hn0] at K4 C4 hle hn12 ⊢
  rw [← hnb] at B4 hn12 hn23 ⊢
  rw [← hnt]
  have hlt4 : nb < nt := by omega
  obtain ⟨W5, hW5⟩ : ∃ W5, w4.alloc (.cells #[(.int .u8 (nth X 0).toNat), (.int .u8 (nth X 1).toNat), (.int .u8 (nth X 2).toNat), (.int .u8 (nth X 3).toNat), (.int .u8 (nth X 4).toNat), (.int .u8 (nth X 5).toNat), (.int .u8 (nth X 6).toNat), (.int .u8 (nth X 7).toNat)] 75) = W5 := ⟨_, rfl⟩
  have K5 : Blk W5 n0 [.string key] 9 := by rw [← hW5]; exact K4.alloc _
  have C5 : Blk W5 (n0 + 1) (byteCells X) 75 := by rw [← hW5]; exact C4.alloc _
  have B5 : Blk W5 nb (byteCells N) 75 := by rw [← hW5, arrC_eq N HNl.out]; exact B4.alloc _
  have T5 : Blk W5 nt (byteCells X) 75 := by rw [← hW5, hnt, arrC_eq X HXl.out]; exact Blk.new w4 (arrC X) 75
  have b5 : Below w.heap.size w W5 := by rw [← hW5]; exact b4.alloc b4.size _
  have hR1 : tagFrom key.data.toList s.data.toList.length X s.data.toList = R := by rw [HR.out, HX.out, HN.out]
  have HR1 := Lib.hid hR1
  rw [hW5]
  clear hW5 K4 C4 B4 b4 hs4 hn0 hnb hnt hR1 hn23
  go_loopw [1] (fun sv wr => ∃ (S : ByteArray) (T Bb : List UInt8), sv = .string S ∧ S.size ≤ 65536 ∧ T.length = 8 ∧ Bb.length = 8 ∧ Hid (tagFrom key.data.toList S.data.toList.length T S.data.toList = R) ∧ Blk wr n0 [.string key] 9 ∧ Blk wr (n0 + 1) (byteCells T) 75 ∧ Blk wr nb (byteCells Bb) 75 ∧ Blk wr nt (byteCells T) 75 ∧ Below w.heap.size w wr) (fun sv _ => strLen sv)
  case atStart => exact ⟨s, X, N, rfl, hs, HXl.out, HNl.out, HR1, K5, C5, B5, T5, b5⟩
  case round =>
    clear K5 C5 B5 T5 b5
    obtain ⟨S, T, Bb, rfl, hSs, hT, hBb, HT, CK, CC, CB, CT, hB⟩ := hrel
    have HTl := Lib.hid hT
    have HBl := Lib.hid hBb
    clear hT hBb
    by_cases h0 : S.size = 0
    · obtain rfl : S = ⟨#[]⟩ := by
        obtain ⟨d⟩ := S
        have : d = #[] := Array.eq_empty_of_size_eq_zero h0
        rw [this]
      have hcv := conv_arr CT HTl.out
      have hfin : T = R := HT.out
      have HF := Lib.hid hfin
      clear hfin h0
      go_wp2_with fail
      go_ret2
      exact ⟨by rw [← HF.out]; rfl, hB⟩
    · have hne1 : S.toList.isEmpty = false := by
        rw [ByteArray.toList_eq]
        cases hl : S.data.toList with
        | nil => exact absurd (by have : S.data.toList.length = S.size := (by simp); rw [← this, hl]; rfl) h0
        | cons => rfl
      have hne2 : (S.toList == []) = false := by
        cases hl : S.toList with
        | nil => rw [hl] at hne1; cases hne1
        | cons => rfl
      have hne3 : S.data.toList ≠ [] := by
        intro h; rw [ByteArray.toList_eq, h] at hne1; cases hne1
      have hne4 : ¬ S.toList = [] := by rw [ByteArray.toList_eq]; exact hne3
      have hrd := tag_round key.data.toList T S.data.toList hne3
      rw [HT.out] at hrd
      have Hrd := Lib.hid hrd
      clear hrd
      rw [arrC_eq Bb HBl.out] at CB
      have CB' : Blk wr nb (arrC Bb) 75 := CB
      have y0 := CB'.cell (j := 0) rfl
      have f0 := CB'.frozen 0
      have y1 := CB'.cell (j := 1) rfl
      have f1 := CB'.frozen 1
      have y2 := CB'.cell (j := 2) rfl
      have f2 := CB'.frozen 2
      have y3 := CB'.cell (j := 3) rfl
      have f3 := CB'.frozen 3
      have y4 := CB'.cell (j := 4) rfl
      have f4 := CB'.frozen 4
      have y5 := CB'.cell (j := 5) rfl
      have f5 := CB'.frozen 5
      have y6 := CB'.cell (j := 6) rfl
      have f6 := CB'.frozen 6
      have y7 := CB'.cell (j := 7) rfl
      have f7 := CB'.frozen 7
      have Z1 : Blk ((((((((wr.setCell ⟨nb, 0, none⟩ (.int .u8 0)).setCell ⟨nb, 1, none⟩ (.int .u8 0)).setCell ⟨nb, 2, none⟩ (.int .u8 0)).setCell ⟨nb, 3, none⟩ (.int .u8 0)).setCell ⟨nb, 4, none⟩ (.int .u8 0)).setCell ⟨nb, 5, none⟩ (.int .u8 0)).setCell ⟨nb, 6, none⟩ (.int .u8 0)).setCell ⟨nb, 7, none⟩ (.int .u8 0)) nb (byteCells zeros8) 75 := ((((((((CB.set 0 (.int .u8 0)).set 1 (.int .u8 0)).set 2 (.int .u8 0)).set 3 (.int .u8 0)).set 4 (.int .u8 0)).set 5 (.int .u8 0)).set 6 (.int .u8 0)).set 7 (.int .u8 0))
      have K1 : Blk ((((((((wr.setCell ⟨nb, 0, none⟩ (.int .u8 0)).setCell ⟨nb, 1, none⟩ (.int .u8 0)).setCell ⟨nb, 2, none⟩ (.int .u8 0)).setCell ⟨nb, 3, none⟩ (.int .u8 0)).setCell ⟨nb, 4, none⟩ (.int .u8 0)).setCell ⟨nb, 5, none⟩ (.int .u8 0)).setCell ⟨nb, 6, none⟩ (.int .u8 0)).setCell ⟨nb, 7, none⟩ (.int .u8 0)) n0 [.string key] 9 := ((((((((CK.other (a := nb) (by omega) 0 (.int .u8 0)).other (a := nb) (by omega) 1 (.int .u8 0)).other (a := nb) (by omega) 2 (.int .u8 0)).other (a := nb) (by omega) 3 (.int .u8 0)).other (a := nb) (by omega) 4 (.int .u8 0)).other (a := nb) (by omega) 5 (.int .u8 0)).other (a := nb) (by omega) 6 (.int .u8 0)).other (a := nb) (by omega) 7 (.int .u8 0))
      have C1 : Blk ((((((((wr.setCell ⟨nb, 0, none⟩ (.int .u8 0)).setCell ⟨nb, 1, none⟩ (.int .u8 0)).setCell ⟨nb, 2, none⟩ (.int .u8 0)).setCell ⟨nb, 3, none⟩ (.int .u8 0)).setCell ⟨nb, 4, none⟩ (.int .u8 0)).setCell ⟨nb, 5, none⟩ (.int .u8 0)).setCell ⟨nb, 6, none⟩ (.int .u8 0)).setCell ⟨nb, 7, none⟩ (.int .u8 0)) (n0 + 1) (byteCells T) 75 := ((((((((CC.other (a := nb) (by omega) 0 (.int .u8 0)).other (a := nb) (by omega) 1 (.int .u8 0)).other (a := nb) (by omega) 2 (.int .u8 0)).other (a := nb) (by omega) 3 (.int .u8 0)).other (a := nb) (by omega) 4 (.int .u8 0)).other (a := nb) (by omega) 5 (.int .u8 0)).other (a := nb) (by omega) 6 (.int .u8 0)).other (a := nb) (by omega) 7 (.int .u8 0))
      have T1 : Blk ((((((((wr.setCell ⟨nb, 0, none⟩ (.int .u8 0)).setCell ⟨nb, 1, none⟩ (.int .u8 0)).setCell ⟨nb, 2, none⟩ (.int .u8 0)).setCell ⟨nb, 3, none⟩ (.int .u8 0)).setCell ⟨nb, 4, none⟩ (.int .u8 0)).setCell ⟨nb, 5, none⟩ (.int .u8 0)).setCell ⟨nb, 6, none⟩ (.int .u8 0)).setCell ⟨nb, 7, none⟩ (.int .u8 0)) nt (byteCells T) 75 := ((((((((CT.other (a := nb) (by omega) 0 (.int .u8 0)).other (a := nb) (by omega) 1 (.int .u8 0)).other (a := nb) (by omega) 2 (.int .u8 0)).other (a := nb) (by omega) 3 (.int .u8 0)).other (a := nb) (by omega) 4 (.int .u8 0)).other (a := nb) (by omega) 5 (.int .u8 0)).other (a := nb) (by omega) 6 (.int .u8 0)).other (a := nb) (by omega) 7 (.int .u8 0))
      have b1 : Below w.heap.size w ((((((((wr.setCell ⟨nb, 0, none⟩ (.int .u8 0)).setCell ⟨nb, 1, none⟩ (.int .u8 0)).setCell ⟨nb, 2, none⟩ (.int .u8 0)).setCell ⟨nb, 3, none⟩ (.int .u8 0)).setCell ⟨nb, 4, none⟩ (.int .u8 0)).setCell ⟨nb, 5, none⟩ (.int .u8 0)).setCell ⟨nb, 6, none⟩ (.int .u8 0)).setCell ⟨nb, 7, none⟩ (.int .u8 0)) := ((((((((hB.setCell (p := ⟨nb, 0, none⟩) (by simp; omega) (.int .u8 0)).setCell (p := ⟨nb, 1, none⟩) (by simp; omega) (.int .u8 0)).setCell (p := ⟨nb, 2, none⟩) (by simp; omega) (.int .u8 0)).setCell (p := ⟨nb, 3, none⟩) (by simp; omega) (.int .u8 0)).setCell (p := ⟨nb, 4, none⟩) (by simp; omega) (.int .u8 0)).setCell (p := ⟨nb, 5, none⟩) (by simp; omega) (.int .u8 0)).setCell (p := ⟨nb, 6, none⟩) (by simp; omega) (.int .u8 0)).setCell (p := ⟨nb, 7, none⟩) (by simp; omega) (.int .u8 0))
      obtain ⟨W6, hcp, P6, hon⟩ := copy_bytes S Z1 rfl
      rw [show S.data.toList.take 8 ++ zeros8.drop (S.data.toList.take 8).length = padB S.data.toList from rfl] at P6
      obtain ⟨P, hP⟩ : ∃ P, P = padB S.data.toList := ⟨_, rfl⟩
      have hPl : P.length = 8 := by rw [hP]; exact padB_length _
      rw [← hP] at P6
      obtain ⟨m, hm⟩ : ∃ m, m = min S.size 8 := ⟨_, rfl⟩
      have hm1 : m ≤ S.size := by omega
      have hm2 : m ≤ 8 := by omega
      have hm3 : 0 < m := by omega
      rw [← hm] at hcp
      have hdrop : (S.extract m S.size).data.toList = S.data.toList.drop 8 := by
        have hl : S.data.toList.length = S.size := by simp
        rw [ByteArray.data_extract, Array.toList_extract, List.extract_eq_take_drop, List.take_of_length_le (by rw [List.length_drop, hl]; omega)]
        rcases Nat.lt_or_ge S.size 8 with h | h
        · rw [List.drop_eq_nil_of_le (by omega), List.drop_eq_nil_of_le (by omega)]
        · rw [show m = 8 by omega]
      have HP := Lib.hid hP
      have HPl := Lib.hid hPl
      have Hm := Lib.hid hm
      have Hdrop := Lib.hid hdrop
      have K6 := hon.blk (by omega) K1
      have C6 := hon.blk (by omega) C1
      have T6 := hon.blk (by omega) T1
      have b6 := hon.below (by omega) b1
      rw [arrC_eq P hPl] at P6
      have P6' : Blk W6 nb (arrC P) 75 := P6
      have p0 := P6'.cell (j := 0) rfl
      have p1 := P6'.cell (j := 1) rfl
      have p2 := P6'.cell (j := 2) rfl
      have p3 := P6'.cell (j := 3) rfl
      have p4 := P6'.cell (j := 4) rfl
      have p5 := P6'.cell (j := 5) rfl
      have p6 := P6'.cell (j := 6) rfl
      have p7 := P6'.cell (j := 7) rfl
      clear hP hPl hm hdrop hon Z1 K1 C1 T1 b1 hne3 h0
      go_wp2_with fail
      refine (next_raw key _ _ T P _ HK HTl HPl (by omega) C6 K6).mono ?_
      rintro e w7 ⟨⟨X, rfl, hX, C7⟩, hbut⟩
      have K7 := hbut.blk (by omega) K6
      have P7 := hbut.blk (by omega) P6
      have T7 := hbut.blk (by omega) T6
      have b4 : Below w.heap.size w w7 := hbut.below (by omega) b6.size b6
      have hXl : X.length = 8 := by rw [hX]; exact stepB_length _ _ _
      have HX2 := Lib.hid hX
      have HXl2 := Lib.hid hXl
      rw [arrC_eq T HTl.out] at T7
      have T4 : Blk w7 nt (arrC T) 75 := T7
      have t0 := T4.cell (j := 0) rfl
      have g0 := T4.frozen 0
      have t1 := T4.cell (j := 1) rfl
      have g1 := T4.frozen 1
      have t2 := T4.cell (j := 2) rfl
      have g2 := T4.frozen 2
      have t3 := T4.cell (j := 3) rfl
      have g3 := T4.frozen 3
      have t4 := T4.cell (j := 4) rfl
      have g4 := T4.frozen 4
      have t5 := T4.cell (j := 5) rfl
      have g5 := T4.frozen 5
      have t6 := T4.cell (j := 6) rfl
      have g6 := T4.frozen 6
      have t7 := T4.cell (j := 7) rfl
      have g7 := T4.frozen 7
      clear hX hXl p0 p1 p2 p3 p4 p5 p6 p7 y0 y1 y2 y3 y4 y5 y6 y7 f0 f1 f2 f3 f4 f5 f6 f7 hcp
      go_wp2_with fail
      go_roundw
      case rel =>
        refine ⟨_, X, P, rfl, ?_, HXl2.out, HPl.out, ?_, ((((((((K7.other (a := nt) (by omega) 0 (.int .u8 (nth X 0).toNat)).other (a := nt) (by omega) 1 (.int .u8 (nth X 1).toNat)).other (a := nt) (by omega) 2 (.int .u8 (nth X 2).toNat)).other (a := nt) (by omega) 3 (.int .u8 (nth X 3).toNat)).other (a := nt) (by omega) 4 (.int .u8 (nth X 4).toNat)).other (a := nt) (by omega) 5 (.int .u8 (nth X 5).toNat)).other (a := nt) (by omega) 6 (.int .u8 (nth X 6).toNat)).other (a := nt) (by omega) 7 (.int .u8 (nth X 7).toNat)), ((((((((C7.other (a := nt) (by omega) 0 (.int .u8 (nth X 0).toNat)).other (a := nt) (by omega) 1 (.int .u8 (nth X 1).toNat)).other (a := nt) (by omega) 2 (.int .u8 (nth X 2).toNat)).other (a := nt) (by omega) 3 (.int .u8 (nth X 3).toNat)).other (a := nt) (by omega) 4 (.int .u8 (nth X 4).toNat)).other (a := nt) (by omega) 5 (.int .u8 (nth X 5).toNat)).other (a := nt) (by omega) 6 (.int .u8 (nth X 6).toNat)).other (a := nt) (by omega) 7 (.int .u8 (nth X 7).toNat)), by rw [arrC_eq P HPl.out]; exact ((((((((P7.other (a := nt) (by omega) 0 (.int .u8 (nth X 0).toNat)).other (a := nt) (by omega) 1 (.int .u8 (nth X 1).toNat)).other (a := nt) (by omega) 2 (.int .u8 (nth X 2).toNat)).other (a := nt) (by omega) 3 (.int .u8 (nth X 3).toNat)).other (a := nt) (by omega) 4 (.int .u8 (nth X 4).toNat)).other (a := nt) (by omega) 5 (.int .u8 (nth X 5).toNat)).other (a := nt) (by omega) 6 (.int .u8 (nth X 6).toNat)).other (a := nt) (by omega) 7 (.int .u8 (nth X 7).toNat)), by rw [arrC_eq X HXl2.out]; exact ((((((((T4.set 0 (.int .u8 (nth X 0).toNat)).set 1 (.int .u8 (nth X 1).toNat)).set 2 (.int .u8 (nth X 2).toNat)).set 3 (.int .u8 (nth X 3).toNat)).set 4 (.int .u8 (nth X 4).toNat)).set 5 (.int .u8 (nth X 5).toNat)).set 6 (.int .u8 (nth X 6).toNat)).set 7 (.int .u8 (nth X 7).toNat)), ((((((((b4.setCell (p := ⟨nt, 0, none⟩) (by simp; omega) (.int .u8 (nth X 0).toNat)).setCell (p := ⟨nt, 1, none⟩) (by simp; omega) (.int .u8 (nth X 1).toNat)).setCell (p := ⟨nt, 2, none⟩) (by simp; omega) (.int .u8 (nth X 2).toNat)).setCell (p := ⟨nt, 3, none⟩) (by simp; omega) (.int .u8 (nth X 3).toNat)).setCell (p := ⟨nt, 4, none⟩) (by simp; omega) (.int .u8 (nth X 4).toNat)).setCell (p := ⟨nt, 5, none⟩) (by simp; omega) (.int .u8 (nth X 5).toNat)).setCell (p := ⟨nt, 6, none⟩) (by simp; omega) (.int .u8 (nth X 6).toNat)).setCell (p := ⟨nt, 7, none⟩) (by simp; omega) (.int .u8 (nth X 7).toNat))⟩
        · rw [ByteArray.size_extract]; omega
        · have e := Hrd.out
          rw [← HP.out, ← HX2.out, ← Hdrop.out] at e
          exact e.symm
      case measure =>
        have := Hm.out
        simp [strLen, ByteArray.size_extract]; omega

end Go.Proofs.Ytmafbkoneggggaa
