/-
  Walk: the law VarintSequence returns true, at every slice of integers.
-/
import Derived.OpenShut
import Derived.Test.YtmafbkoneggggaaW8
namespace Go.Proofs.Ytmafbkoneggggaa
open Go.RowKit

/-- The encodings of the integers that NumberFrom makes, one behind the other. -/
def seqL (ns : List Int) : List UInt8 := ns.flatMap fun n => encL (numFrom n).toNat

theorem encOf (n : Int) : IsEnc (encL (numFrom n).toNat) (numFrom n) := by
  have := numFrom_bd n
  exact ⟨by omega, by omega, rfl⟩

theorem seqL_snoc (ns : List Int) (n : Int) : seqL (ns ++ [n]) = seqL ns ++ encL (numFrom n).toNat := by simp [seqL]
theorem seqL_append (ns ms : List Int) : seqL (ns ++ ms) = seqL ns ++ seqL ms := by simp [seqL]
theorem seqL_le (ns : List Int) : (seqL ns).length ≤ 8 * ns.length := by
  induction ns with
  | nil => simp [seqL]
  | cons n ns ih =>
    have e : seqL (n :: ns) = encL (numFrom n).toNat ++ seqL ns := rfl
    have := (encOf n).length
    rw [e, List.length_append, List.length_cons]; omega

theorem take_snoc_int (l : List Int) (k : Nat) (h : k < l.length) : l.take (k + 1) = l.take k ++ [l.getD k 0] := by
  rw [List.take_succ_eq_append_getElem h, List.getD_eq_getElem?_getD, List.getElem?_eq_getElem h]; rfl

/-- Decode at the k-th place of the sequence. -/
theorem dec_seq (t : ByteArray) (A B : List UInt8) (l : List UInt8) (n a : Int) (w : World) (h : IsEnc l n) (ht : t.data.toList = A ++ l ++ B) (ha : a = A.length) (hs : t.size ≤ maxLen) :
    Calls Try.prog 17 #[.string t, .int .i64 a] w fun e w' => e = .returned (.tuple #[.int .i64 n, .int .i64 (a + (l.length : Int)), .int .i64 0]) ∧ Below w.heap.size w w' := by
  have hz : t.size = A.length + l.length + B.length := by
    have : t.data.toList.length = t.size := by simp
    rw [← this, ht, List.length_append, List.length_append]
  refine (decode_any t a w hs (by omega) (by omega)).mono ?_
  rintro e w' ⟨rfl, b⟩
  refine ⟨?_, b⟩
  subst ha
  unfold decV
  rw [ht, Int.toNat_natCast, dec_app _ _ _ _ h]
  simp

theorem dec_fin (t : ByteArray) (a : Int) (w : World) (ha : a = t.size) (hs : t.size ≤ maxLen) :
    Calls Try.prog 17 #[.string t, .int .i64 a] w fun e w' => e = .returned (.tuple #[.int .i64 0, .int .i64 0, .int .i64 11]) ∧ Below w.heap.size w w' := by
  refine (decode_any t a w hs (by omega) (by omega)).mono ?_
  rintro e w' ⟨rfl, b⟩
  refine ⟨?_, b⟩
  subst ha
  unfold decV
  rw [Int.toNat_natCast, decOf_end]

set_option maxRecDepth 100000 in
set_option maxHeartbeats 4000000 in
theorem sequence_row (b off len cap : Nat) (zs : List Int) (w : World) (hl : len ≤ cap) (hm : cap ≤ maxLen) (hz : zs.length = cap) (hb : b < w.heap.size)
    (hc : ∀ j, j < zs.length → w.cell? ⟨b, off + j, none⟩ = some (.int .i64 (zs.getD j 0))) (hwf : ∀ n ∈ zs, (Lit.int .i64 n).wf = true) :
    Calls Try.prog 5 #[.slice (some ⟨b, off, none⟩) len cap] w fun e w' => e = .returned (.bool true) ∧ Below w.heap.size w w' := by
  unfold maxLen at hm
  have hr := range_i64 hwf
  have Hc := Lib.hid hc
  have Hr := Lib.hid hr
  clear hc hwf hr
  by_cases h30 : 30 < len
  · go_enter Try.func5, Try.ntmps5
    go_wp2_with fail
    refine (sane_any _).mono ?_
    rintro e w1 ⟨rfl, b1⟩
    go_wp2_with fail
    go_loopw [4, 6] (fun s i wr => ∃ (k : Nat) (S : ByteArray), k ≤ 30 ∧ i = .int .i64 k ∧ s = .string S ∧ S.data.toList = seqL (zs.take k) ∧ Below w.heap.size w wr) (fun _ i _ => 30 - (intOf i).toNat)
    case atStart => exact ⟨0, _, by omega, rfl, rfl, rfl, b1⟩
    case round =>
      obtain ⟨k, S, hk, rfl, rfl, hS, hB⟩ := hrel
      have hSl := seqL_le (zs.take k)
      have hSs : S.size = (seqL (zs.take k)).length := by rw [← hS]; simp
      have hSz : S.size ≤ 8 * k := by rw [hSs]; have := List.length_take_le k zs; omega
      have HS := Lib.hid hS
      have HSs := Lib.hid hSs
      clear hS hSs hSl
      by_cases hlt : k < 30
      · have hcell : wr.cell? ⟨b, off + k, none⟩ = some (.int .i64 (zs.getD k 0)) := (hB.cell (p := ⟨b, off + k, none⟩) hb).trans (Hc.out k (by omega))
        have hrk := Hr.out k
        have hts := take_snoc_int zs k (by omega)
        rw [List.getD_eq_getElem?_getD] at hcell hts
        generalize zs[k]?.getD 0 = z at *
        have Hts := Lib.hid hts
        clear hts
        go_wp2_with fail
        refine (numFrom_any _ _ hrk.1 hrk.2).mono ?_
        rintro e w2 ⟨rfl, b2⟩
        have hbd := numFrom_bd z
        go_wp2_with fail
        refine (enc_h _ _ (by omega) (by omega)).mono ?_
        rintro e w3 ⟨⟨l, rfl, hl1⟩, b3⟩
        have hll := hl1.length
        obtain ⟨hll1, hll2, _⟩ := hll
        go_wp2_with fail
        go_roundw
        case rel =>
          have c2 := hB.trans (b2.mono hB.size)
          refine ⟨k + 1, _, by omega, by go_num, rfl, ?_, c2.trans (b3.mono c2.size)⟩
          rw [Hts.out, seqL_snoc, ← HS.out, ← hl1.2.2]
          simp
        case measure => simp [intOf]; omega
      · have hkn : 30 ≤ k := by omega
        have HS2 : Hid (S.data.toList = seqL (zs.take 30)) := by
          have e : k = 30 := by omega
          rw [← e]; exact HS
        have HSs2 : Hid (S.size = (seqL (zs.take 30)).length) := by
          have e : k = 30 := by omega
          rw [← e]; exact HSs
        have hd : decide ((k : Int) < 30) = false := by simp; omega
        clear HS HSs hlt
        go_wp2_with fail
        go_loopw [9, 10] (fun a i wr => ∃ k : Nat, k ≤ 30 ∧ i = .int .i64 k ∧ a = .int .i64 (seqL (zs.take k)).length ∧ Below w.heap.size w wr) (fun _ i _ => 30 - (intOf i).toNat)
        case atStart => exact ⟨0, by omega, rfl, rfl, hB⟩
        case round =>
          obtain ⟨k, hk, rfl, rfl, hB⟩ := hrel
          by_cases hlt : k < 30
          · have hcell : wr.cell? ⟨b, off + k, none⟩ = some (.int .i64 (zs.getD k 0)) := (hB.cell (p := ⟨b, off + k, none⟩) hb).trans (Hc.out k (by omega))
            have hrk := Hr.out k
            have hts := take_snoc_int zs k (by omega)
            rw [List.getD_eq_getElem?_getD] at hcell hts
            generalize zs[k]?.getD 0 = z at *
            have hbd := numFrom_bd z
            have hsp : seqL (zs.take 30) = seqL (zs.take k) ++ encL (numFrom z).toNat ++ seqL ((zs.take 30).drop (k + 1)) := by
              rw [← seqL_snoc, ← hts, ← seqL_append]
              congr 1
              have := List.take_append_drop (k + 1) (zs.take 30)
              rw [List.take_take, Nat.min_eq_left (by omega)] at this
              exact this.symm
            have hlk : (seqL (zs.take (k + 1))).length = (seqL (zs.take k)).length + (encL (numFrom z).toNat).length := by rw [hts, seqL_snoc, List.length_append]
            have hlb := (encOf z).length
            have Hlk := Lib.hid hlk
            have Hsp := Lib.hid hsp
            clear hts hsp hlk
            obtain ⟨hlb1, hlb2, _⟩ := hlb
            have hbig := seqL_le (zs.take k)
            have hbig2 := List.length_take_le k zs
            obtain ⟨A, hA⟩ : ∃ A, A = seqL (zs.take k) := ⟨_, rfl⟩
            rw [← hA] at hbig ⊢
            have HA := Lib.hid hA
            clear hA
            go_wp2_with fail
            refine (dec_seq _ A _ _ (numFrom z) _ _ (encOf z) (by rw [HS2.out, Hsp.out, HA.out]) rfl (by unfold maxLen; omega)).mono ?_
            rintro e w2 ⟨rfl, b2⟩
            have c2 := hB.trans (b2.mono hB.size)
            have hcell2 : w2.cell? ⟨b, off + k, none⟩ = some (.int .i64 z) := (b2.cell (p := ⟨b, off + k, none⟩) (Nat.lt_of_lt_of_le hb hB.size)).trans hcell
            go_wp2_with fail
            refine (numFrom_any _ _ hrk.1 hrk.2).mono ?_
            rintro e w3 ⟨rfl, b3⟩
            go_wp2_with fail
            go_roundw
            case rel => exact ⟨k + 1, by omega, by go_num, congrArg (Value.int .i64) (by rw [Hlk.out, HA.out]; simp), c2.trans (b3.mono c2.size)⟩
            case measure => simp [intOf]; omega
          · obtain rfl : 30 = k := by omega
            have hq : (((seqL (zs.take 30)).length : Int) == (S.size : Int)) = true := by rw [beq_iff_eq, HSs2.out]
            go_wp2_with fail
            refine (dec_fin _ _ _ (by rw [HSs2.out]) (by unfold maxLen; omega)).mono ?_
            rintro e w2 ⟨rfl, b2⟩
            go_wp2_with fail
            go_ret
            exact ⟨rfl, hB.trans (b2.mono hB.size)⟩
  · go_enter Try.func5, Try.ntmps5
    go_wp2_with fail
    refine (sane_any _).mono ?_
    rintro e w1 ⟨rfl, b1⟩
    go_wp2_with fail
    go_loopw [4, 6] (fun s i wr => ∃ (k : Nat) (S : ByteArray), k ≤ len ∧ i = .int .i64 k ∧ s = .string S ∧ S.data.toList = seqL (zs.take k) ∧ Below w.heap.size w wr) (fun _ i _ => len - (intOf i).toNat)
    case atStart => exact ⟨0, _, by omega, rfl, rfl, rfl, b1⟩
    case round =>
      obtain ⟨k, S, hk, rfl, rfl, hS, hB⟩ := hrel
      have hSl := seqL_le (zs.take k)
      have hSs : S.size = (seqL (zs.take k)).length := by rw [← hS]; simp
      have hSz : S.size ≤ 8 * k := by rw [hSs]; have := List.length_take_le k zs; omega
      have HS := Lib.hid hS
      have HSs := Lib.hid hSs
      clear hS hSs hSl
      by_cases hlt : k < len
      · have hcell : wr.cell? ⟨b, off + k, none⟩ = some (.int .i64 (zs.getD k 0)) := (hB.cell (p := ⟨b, off + k, none⟩) hb).trans (Hc.out k (by omega))
        have hrk := Hr.out k
        have hts := take_snoc_int zs k (by omega)
        rw [List.getD_eq_getElem?_getD] at hcell hts
        generalize zs[k]?.getD 0 = z at *
        have Hts := Lib.hid hts
        clear hts
        go_wp2_with fail
        refine (numFrom_any _ _ hrk.1 hrk.2).mono ?_
        rintro e w2 ⟨rfl, b2⟩
        have hbd := numFrom_bd z
        go_wp2_with fail
        refine (enc_h _ _ (by omega) (by omega)).mono ?_
        rintro e w3 ⟨⟨l, rfl, hl1⟩, b3⟩
        have hll := hl1.length
        obtain ⟨hll1, hll2, _⟩ := hll
        go_wp2_with fail
        go_roundw
        case rel =>
          have c2 := hB.trans (b2.mono hB.size)
          refine ⟨k + 1, _, by omega, by go_num, rfl, ?_, c2.trans (b3.mono c2.size)⟩
          rw [Hts.out, seqL_snoc, ← HS.out, ← hl1.2.2]
          simp
        case measure => simp [intOf]; omega
      · have hkn : len ≤ k := by omega
        have HS2 : Hid (S.data.toList = seqL (zs.take len)) := by
          have e : k = len := by omega
          rw [← e]; exact HS
        have HSs2 : Hid (S.size = (seqL (zs.take len)).length) := by
          have e : k = len := by omega
          rw [← e]; exact HSs
        have hd : decide (k < len) = false := by simp; omega
        clear HS HSs hlt
        go_wp2_with fail
        go_loopw [9, 10] (fun a i wr => ∃ k : Nat, k ≤ len ∧ i = .int .i64 k ∧ a = .int .i64 (seqL (zs.take k)).length ∧ Below w.heap.size w wr) (fun _ i _ => len - (intOf i).toNat)
        case atStart => exact ⟨0, by omega, rfl, rfl, hB⟩
        case round =>
          obtain ⟨k, hk, rfl, rfl, hB⟩ := hrel
          by_cases hlt : k < len
          · have hcell : wr.cell? ⟨b, off + k, none⟩ = some (.int .i64 (zs.getD k 0)) := (hB.cell (p := ⟨b, off + k, none⟩) hb).trans (Hc.out k (by omega))
            have hrk := Hr.out k
            have hts := take_snoc_int zs k (by omega)
            rw [List.getD_eq_getElem?_getD] at hcell hts
            generalize zs[k]?.getD 0 = z at *
            have hbd := numFrom_bd z
            have hsp : seqL (zs.take len) = seqL (zs.take k) ++ encL (numFrom z).toNat ++ seqL ((zs.take len).drop (k + 1)) := by
              rw [← seqL_snoc, ← hts, ← seqL_append]
              congr 1
              have := List.take_append_drop (k + 1) (zs.take len)
              rw [List.take_take, Nat.min_eq_left (by omega)] at this
              exact this.symm
            have hlk : (seqL (zs.take (k + 1))).length = (seqL (zs.take k)).length + (encL (numFrom z).toNat).length := by rw [hts, seqL_snoc, List.length_append]
            have hlb := (encOf z).length
            have Hlk := Lib.hid hlk
            have Hsp := Lib.hid hsp
            clear hts hsp hlk
            obtain ⟨hlb1, hlb2, _⟩ := hlb
            have hbig := seqL_le (zs.take k)
            have hbig2 := List.length_take_le k zs
            obtain ⟨A, hA⟩ : ∃ A, A = seqL (zs.take k) := ⟨_, rfl⟩
            rw [← hA] at hbig ⊢
            have HA := Lib.hid hA
            clear hA
            go_wp2_with fail
            refine (dec_seq _ A _ _ (numFrom z) _ _ (encOf z) (by rw [HS2.out, Hsp.out, HA.out]) rfl (by unfold maxLen; omega)).mono ?_
            rintro e w2 ⟨rfl, b2⟩
            have c2 := hB.trans (b2.mono hB.size)
            have hcell2 : w2.cell? ⟨b, off + k, none⟩ = some (.int .i64 z) := (b2.cell (p := ⟨b, off + k, none⟩) (Nat.lt_of_lt_of_le hb hB.size)).trans hcell
            go_wp2_with fail
            refine (numFrom_any _ _ hrk.1 hrk.2).mono ?_
            rintro e w3 ⟨rfl, b3⟩
            go_wp2_with fail
            go_roundw
            case rel => exact ⟨k + 1, by omega, by go_num, congrArg (Value.int .i64) (by rw [Hlk.out, HA.out]; simp), c2.trans (b3.mono c2.size)⟩
            case measure => simp [intOf]; omega
          · obtain rfl : len = k := by omega
            have hq : (((seqL (zs.take len)).length : Int) == (S.size : Int)) = true := by rw [beq_iff_eq, HSs2.out]
            go_wp2_with fail
            refine (dec_fin _ _ _ (by rw [HSs2.out]) (by unfold maxLen; omega)).mono ?_
            rintro e w2 ⟨rfl, b2⟩
            go_wp2_with fail
            go_ret
            exact ⟨rfl, hB.trans (b2.mono hB.size)⟩

set_option maxRecDepth 100000 in
set_option maxHeartbeats 4000000 in
theorem sequence_zero (a : Option Addr) (cap : Nat) (w : World) :
    Calls Try.prog 5 #[.slice a 0 cap] w fun e w' => e = .returned (.bool true) ∧ Below w.heap.size w w' := by
  go_enter Try.func5, Try.ntmps5
  go_wp2_with fail
  refine (sane_any _).mono ?_
  rintro e w1 ⟨rfl, b1⟩
  go_wp2_with fail
  refine wp_loop_rounds 1 ?_
  rw [rounds_succ]
  go_wp2_with fail
  refine wp_loop_rounds 1 ?_
  rw [rounds_succ]
  go_wp2_with fail
  refine (dec_fin _ _ _ (by decide) (by decide)).mono ?_
  rintro e w2 ⟨rfl, b2⟩
  go_wp2_with fail
  go_ret
  exact ⟨rfl, b1.trans (b2.mono b1.size)⟩

theorem sequence_walk (a : Option Addr) (len cap : Nat) (zs : List Int) (w : World)
    (h : (a = none ∧ len = 0 ∧ cap = 0 ∧ zs = []) ∨ ∃ x, a = some x ∧ len ≤ cap ∧ cap ≤ maxLen ∧ zs.length = cap ∧ (∀ i, i < zs.length → w.cell? (x.add i) = some (.int .i64 (zs.getD i 0))) ∧ ∀ n ∈ zs, (Lit.int .i64 n).wf = true) :
    Calls Try.prog 5 #[.slice a len cap] w fun e w' => e = .returned (.bool true) ∧ Below w.heap.size w w' := by
  rcases h with ⟨rfl, rfl, rfl, _⟩ | ⟨x, rfl, hl, hm, hz, hc, hwf⟩
  · exact sequence_zero _ _ w
  · by_cases h0 : len = 0
    · subst h0; exact sequence_zero _ _ w
    · obtain ⟨b, off, rfl, hcell⟩ := ints_at hc (by omega)
      obtain ⟨o, ho, _⟩ := cells_of_cell (hcell 0 (by omega))
      exact sequence_row b off len cap zs w hl hm hz (Array.getElem?_eq_some_iff.1 ho).1 hcell hwf

end Go.Proofs.Ytmafbkoneggggaa
