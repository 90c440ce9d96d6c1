/-
  Walks: the block cipher computes the plain function, for every key of 16 and every block of 8 bytes.
-/
import Derived.Test.YtmafbkoneggggaaD5
namespace Go.Proofs.Ytmafbkoneggggaa
open Go.RowKit

theorem roundsN_snoc (k : Nat → Nat) : ∀ n i s, roundsN k (n + 1) i s = ((roundsN k n i s).2, (roundsN k n i s).1 ^^^ mixN k (roundsN k n i s).2 (i + n))
  | 0, _, _ => rfl
  | n + 1, i, s => by
    rw [roundsN, roundsN_snoc k n (i + 1), roundsN, show i + 1 + n = i + (n + 1) by omega]

set_option maxHeartbeats 400000 in
theorem order_any (i : Int) (w : World) : Calls Try.prog 67 #[.int .i64 i] w fun e w' => e = .returned (.int .i64 i) ∧ w = w' := by
  go_enter Try.func67, Try.ntmps67
  go_wp2
  go_ret
  exact ⟨rfl, rfl⟩

theorem forward_raw (k : Nat → Nat) (hk : ∀ j, k j < 4294967296) (l r : Nat) (hl : l < 4294967296) (hr : r < 4294967296) (i : Nat) (hi : i < 8) (w : World) :
    Calls Try.prog 73 #[.agg #[.int .u32 l, .int .u32 r], .agg #[.int .u32 (k 0), .int .u32 (k 1), .int .u32 (k 2), .int .u32 (k 3)], .int .i64 i] w fun e w' => e = .returned (.agg #[.int .u32 r, .int .u32 ((l ^^^ mixN k r i : Nat))]) ∧ Below w.heap.size w w' :=
  forward_any k hk l r hl hr i hi w

theorem swapped_raw (l r : Nat) (w : World) :
    Calls Try.prog 74 #[.agg #[.int .u32 l, .int .u32 r]] w fun e w' => e = .returned (.agg #[.int .u32 r, .int .u32 l]) ∧ Below w.heap.size w w' := swapped_any l r w
theorem text_raw (l r : Nat) (hl : l < 4294967296) (hr : r < 4294967296) (w : World) :
    Calls Try.prog 75 #[.agg #[.int .u32 l, .int .u32 r]] w fun e w' => e = .returned (.string ⟨(beB l 4 ++ beB r 4).toArray⟩) ∧ Below w.heap.size w w' := text_any l r hl hr w

set_option maxRecDepth 100000 in
set_option maxHeartbeats 2000000 in
theorem run_any (key b : ByteArray) (w : World) (hk : key.size = 16) (hb : b.size = 8) :
    Calls Try.prog 66 #[.string key, .string b, .func (.func 67) #[] #[]] w fun e w' => e = .returned (.tuple #[.string ⟨(encB key.data.toList b.data.toList).toArray⟩, .int .i64 0]) ∧ Below w.heap.size w w' := by
  have hkw := wordAt_lt key.data.toList
  have hs0 : wordAt b.data.toList 0 < 4294967296 := wordAt_lt _ _
  have hs1 : wordAt b.data.toList 1 < 4294967296 := wordAt_lt _ _
  have henc : encB key.data.toList b.data.toList = beB (roundsN (wordAt key.data.toList) 8 0 (wordAt b.data.toList 0, wordAt b.data.toList 1)).2 4 ++ beB (roundsN (wordAt key.data.toList) 8 0 (wordAt b.data.toList 0, wordAt b.data.toList 1)).1 4 := rfl
  have hpar := parse_any key b
  have Hp := Lib.hid (fun w => hpar w hk hb)
  clear hpar
  obtain ⟨K, hK⟩ : ∃ K, K = wordAt key.data.toList := ⟨_, rfl⟩
  obtain ⟨S, hS⟩ : ∃ S, S = (wordAt b.data.toList 0, wordAt b.data.toList 1) := ⟨_, rfl⟩
  have hS1 : S.1 < 4294967296 := by rw [hS]; exact hs0
  have hS2 : S.2 < 4294967296 := by rw [hS]; exact hs1
  rw [← hK, ← hS] at henc
  rw [← hK] at hkw
  have HE := Lib.hid henc
  have HKK := Lib.hid hK
  have HS := Lib.hid hS
  have Hkw := Lib.hid hkw
  clear henc hK hS hkw hs0 hs1 hk hb
  go_enter Try.func66, Try.ntmps66
  go_wp2_with fail
  refine (Hp.out _).mono ?_
  rintro e w1 ⟨rfl, b1⟩
  rw [← HKK.out, ← HS.out]
  unfold schedV stV
  go_wp2_with fail
  obtain ⟨n8, hn8⟩ : ∃ n, n = w1.heap.size := ⟨_, rfl⟩
  obtain ⟨W2, hW2⟩ : ∃ W2, (w1.alloc (.cells #[.int .u32 (K 0), .int .u32 (K 1), .int .u32 (K 2), .int .u32 (K 3)] 83)).alloc (.cells #[.int .u32 S.1, .int .u32 S.2] 85) = W2 := ⟨_, rfl⟩
  have hb2 : Below n8 w1 W2 := by rw [← hW2, hn8]; exact ((Below.refl _ _).alloc (Nat.le_refl _) _).alloc (by simp) _
  have B8 : Blk W2 n8 [.int .u32 (K 0), .int .u32 (K 1), .int .u32 (K 2), .int .u32 (K 3)] 83 := by rw [← hW2, hn8]; exact (Blk.new w1 [.int .u32 (K 0), .int .u32 (K 1), .int .u32 (K 2), .int .u32 (K 3)] 83).alloc _
  have B9 : Blk W2 (n8 + 1) [.int .u32 S.1, .int .u32 S.2] 85 := by rw [← hW2, hn8]; exact Blk.newAt _ [.int .u32 S.1, .int .u32 S.2] 85 (by simp)
  have hbw : Below w.heap.size w W2 := by rw [← hW2]; exact (b1.alloc b1.size _).alloc (by simp; have := b1.size; omega) _
  have hle : w.heap.size ≤ n8 := by rw [hn8]; exact b1.size
  rw [hW2, ← hn8]
  clear hW2 hn8 b1 hb2
  go_loopw [22] (fun i wr => ∃ (n : Nat) (l r : Nat), n ≤ 8 ∧ i = .int .i64 n ∧ roundsN K n 0 S = (l, r) ∧ l < 4294967296 ∧ r < 4294967296 ∧ Blk wr n8 [.int .u32 (K 0), .int .u32 (K 1), .int .u32 (K 2), .int .u32 (K 3)] 83 ∧ Blk wr (n8 + 1) [.int .u32 l, .int .u32 r] 85 ∧ Below w.heap.size w wr) (fun i _ => 8 - (intOf i).toNat)
  case atStart => exact ⟨0, S.1, S.2, by omega, rfl, rfl, hS1, hS2, B8, B9, hbw⟩
  case round =>
    obtain ⟨n, l, r, hn, rfl, hr, hl1, hr1, C8, C9, hB⟩ := hrel
    have HR := Lib.hid hr
    clear hr B8 B9
    by_cases hlt : n < 8
    · have k0 := C8.cell (j := 0) rfl
      have k1 := C8.cell (j := 1) rfl
      have k2 := C8.cell (j := 2) rfl
      have k3 := C8.cell (j := 3) rfl
      have s0 := C9.cell (j := 0) rfl
      have s1 := C9.cell (j := 1) rfl
      have hst := roundsN_snoc K n 0 S
      rw [HR.out, Nat.zero_add] at hst
      have hxl : l ^^^ mixN K r n < 4294967296 := xor_lt32 hl1 (mixN_lt Hkw.out hr1)
      have Hst := Lib.hid hst
      have Hxl := Lib.hid hxl
      clear hst hxl
      have hlt2 := C9.lt
      go_wp2_with fail
      go_region_with (first
        | (go_at_call 67; (with_reducible refine (order_any _ _).mono ?_); rintro e w3 ⟨rfl, rfl⟩)
        | (go_at_call 73; (with_reducible refine (forward_raw K Hkw.out l r hl1 hr1 n hlt _).mono ?_); rintro e w3 ⟨rfl, hb3⟩; have D8 := C8.drew.kept hb3; have D9 := C9.drew.kept hb3; have z0 := D9.cell (j := 0) rfl; have z1 := D9.cell (j := 1) rfl; have f0 := D9.frozen 0; have f1 := D9.frozen 1))
      all_goals
        have E8 := ((D8.other (a := n8 + 1) (by omega) 0 (.int .u32 r)).other (a := n8 + 1) (by omega) 1 (.int .u32 ((l ^^^ mixN K r n : Nat))))
        have E9 := ((D9.set 0 (.int .u32 r)).set 1 (.int .u32 ((l ^^^ mixN K r n : Nat))))
        have c3 := hB.drew.trans (hb3.mono hB.size)
        have c4 := (c3.setCell (p := ⟨n8 + 1, 0, none⟩) (by simp; omega) (.int .u32 r)).setCell (p := ⟨n8 + 1, 1, none⟩) (by simp; omega) (.int .u32 ((l ^^^ mixN K r n : Nat)))
        clear D8 D9 z0 z1 f0 f1 k0 k1 k2 k3 s0 s1
        go_wp2_with fail
        go_roundw
        case rel => exact ⟨n + 1, r, l ^^^ mixN K r n, by omega, by go_num, Hst.out, hr1, Hxl.out, E8, E9, c4⟩
        case measure => simp [intOf]; omega
    · obtain rfl : 8 = n := by omega
      have s0 := C9.cell (j := 0) rfl
      have s1 := C9.cell (j := 1) rfl
      go_wp2_with fail
      refine (swapped_raw l r _).mono ?_
      rintro e w3 ⟨rfl, hb3⟩
      go_wp2_with fail
      refine (text_raw r l hr1 hl1 _).mono ?_
      rintro e w4 ⟨rfl, hb4⟩
      go_wp2_with fail
      go_ret2
      have c3 := hB.trans (hb3.mono hB.size)
      refine ⟨?_, c3.trans (hb4.mono c3.size)⟩
      rw [HE.out, HR.out]
      rfl

set_option maxHeartbeats 400000 in
/-- **Encrypt.** -/
theorem encrypt_any (key b : ByteArray) (w : World) (hk : key.size = 16) (hb : b.size = 8) :
    Calls Try.prog 62 #[.string key, .string b] w fun e w' => e = .returned (.tuple #[.string ⟨(encB key.data.toList b.data.toList).toArray⟩, .int .i64 0]) ∧ Below w.heap.size w w' := by
  have hrun := Lib.hid (run_any key b w hk hb)
  clear hk hb
  go_enter Try.func62, Try.ntmps62
  go_wp2_with fail
  refine hrun.out.mono ?_
  rintro e w1 ⟨rfl, b1⟩
  go_wp2_with fail
  go_ret2
  exact ⟨rfl, b1⟩

end Go.Proofs.Ytmafbkoneggggaa
