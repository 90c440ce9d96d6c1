/-
  Walks: the reference cipher's Encrypt.
-/
import Derived.Test.YtmafbkoneggggaaF3
namespace Go.Proofs.Ytmafbkoneggggaa
open Go.RowKit

set_option maxRecDepth 100000 in
set_option maxHeartbeats 2000000 in
theorem encI (key b : ByteArray) (w : World) (hk : Hid (key.size = 16)) (hb : Hid (b.size = 8)) :
    Calls Try.prog 64 #[.string key, .string b] w fun e w' => e = .returned (.tuple #[.string ⟨(encB key.data.toList b.data.toList).toArray⟩, .int .i64 0]) ∧ Below w.heap.size w w' := by
  have hkw := wordAt_lt key.data.toList
  have hs0 : wordAt b.data.toList 0 < 4294967296 := wordAt_lt _ _
  have hs1 : wordAt b.data.toList 1 < 4294967296 := wordAt_lt _ _
  have henc : encB key.data.toList b.data.toList = beB (roundsN (wordAt key.data.toList) 8 0 (wordAt b.data.toList 0, wordAt b.data.toList 1)).2 4 ++ beB (roundsN (wordAt key.data.toList) 8 0 (wordAt b.data.toList 0, wordAt b.data.toList 1)).1 4 := rfl
  have ek : ((key.size : Int) != 16) = false := by rw [hk.out]; rfl
  have eb : ((b.size : Int) != 8) = false := by rw [hb.out]; rfl
  have k1 : key.size ≤ 16 := Nat.le_of_eq hk.out
  have k2 : 16 ≤ key.size := Nat.le_of_eq hk.out.symm
  have l1 : b.size ≤ 8 := Nat.le_of_eq hb.out
  have l2 : 8 ≤ b.size := Nat.le_of_eq hb.out.symm
  have w0 := Lib.hid (fun w => wordI b 0 w (by omega) (by omega))
  have w1 := Lib.hid (fun w => wordI b 1 w (by omega) (by omega))
  have mx := Lib.hid (fun r i w (hr : r < 4294967296) (hi : i < 8) => mixI key r i w hk.out hr hi)
  obtain ⟨K, hK⟩ : ∃ K, wordAt key.data.toList = K := ⟨_, rfl⟩
  obtain ⟨A, hA⟩ : ∃ A, wordAt b.data.toList 0 = A := ⟨_, rfl⟩
  obtain ⟨B, hB⟩ : ∃ A, wordAt b.data.toList 1 = A := ⟨_, rfl⟩
  rw [hK] at hkw mx henc
  rw [hA] at hs0 w0 henc
  rw [hB] at hs1 w1 henc
  have HE := Lib.hid henc
  have Hkw := Lib.hid hkw
  clear henc hK hA hB hkw
  go_enter Try.func64, Try.ntmps64
  go_wp2_with fail
  refine (w0.out _).mono ?_
  rintro e v1 ⟨rfl, b1⟩
  go_wp2_with fail
  refine (w1.out _).mono ?_
  rintro e v2 ⟨rfl, b2⟩
  have d2 := b1.trans (b2.mono b1.size)
  clear b1 b2
  go_wp2_with fail
  go_loopw [6, 7, 8] (fun l r i wr => ∃ (n L R : Nat), n ≤ 8 ∧ l = .int .i64 L ∧ r = .int .i64 R ∧ i = .int .i64 n ∧ roundsN K n 0 (A, B) = (L, R) ∧ L < 4294967296 ∧ R < 4294967296 ∧ Below w.heap.size w wr) (fun _ _ i _ => 8 - (intOf i).toNat)
  case atStart => exact ⟨0, A, B, by omega, rfl, rfl, rfl, rfl, hs0, hs1, d2⟩
  case round =>
    obtain ⟨n, L, R, hn, rfl, rfl, rfl, hr, hL, hR, hd⟩ := hrel
    have HR := Lib.hid hr
    clear hr d2
    by_cases hlt : n < 8
    · go_wp2_with fail
      refine (mx.out R n _ hR hlt).mono ?_
      rintro e v3 ⟨rfl, b3⟩
      have hmx := mixN_lt Hkw.out hR (i := n)
      have hst := roundsN_snoc K n 0 (A, B)
      rw [HR.out, Nat.zero_add] at hst
      have hx := i64_xor_nat L (mixN K R n) (by omega) (by omega)
      have hxl : L ^^^ mixN K R n < 4294967296 := xor_lt32 hL hmx
      have Hst := Lib.hid hst
      have Hx := Lib.hid hx
      have Hxl := Lib.hid hxl
      clear hst hx hxl
      have d3 := hd.trans (b3.mono hd.size)
      go_wp2_with fail
      go_roundw
      case rel => exact ⟨n + 1, R, L ^^^ mixN K R n, by omega, rfl, congrArg (Value.int .i64) Hx.out, by go_num, Hst.out, hR, Hxl.out, d3⟩
      case measure => simp [intOf]; omega
    · obtain rfl : 8 = n := by omega
      go_wp2_with fail
      refine (textI R L hR hL _).mono ?_
      rintro e v3 ⟨rfl, b3⟩
      have d3 := hd.trans (b3.mono hd.size)
      go_wp2_with fail
      go_ret2
      refine ⟨?_, d3⟩
      rw [HE.out, HR.out]
      rfl

end Go.Proofs.Ytmafbkoneggggaa
