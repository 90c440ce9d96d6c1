/-
  Walks: the reference's bytes and Uint.
-/
import Derived.Test.YtmafbkoneggggaaF4
import Derived.Test.YtmafbkoneggggaaL5
import Derived.Test.YtmafbkoneggggaaWB
namespace Go.Proofs.Ytmafbkoneggggaa
open Go.RowKit

theorem fill_step (v k m : Nat) (z : List UInt8) (hz : z = List.replicate (k + 1) 0 ++ beB v m) :
    z.set k (UInt8.ofNat (v / 256 ^ m)) = List.replicate k 0 ++ beB v (m + 1) := by
  subst hz
  rw [beB_front, List.set_append_left _ _ (by simp), List.replicate_succ', List.set_append_right _ _ (by simp)]
  simp

set_option maxRecDepth 100000 in
set_option maxHeartbeats 2000000 in
theorem bytesI (v n : Nat) (w : World) (hn : n ≤ 8) (hv : v < 9223372036854775808) :
    Calls Try.prog 68 #[.int .i64 v, .int .i64 n] w fun e w' => e = .returned (.string ⟨(beB v n).toArray⟩) ∧ Below w.heap.size w w' := by
  have hmk := mk_any n (by omega)
  obtain ⟨Z, hZ⟩ : ∃ Z, Z = List.replicate n (0 : UInt8) := ⟨_, rfl⟩
  rw [← hZ] at hmk
  have HZ := Lib.hid hZ
  clear hZ
  go_enter Try.func68, Try.ntmps68
  go_wp2_with fail
  obtain ⟨b, hb⟩ : ∃ b, b = w.heap.size := ⟨_, rfl⟩
  have B0 : Blk (w.alloc (.cells (byteCells Z).toArray 5)) b (byteCells Z) 5 := by rw [hb]; exact Blk.new w (byteCells Z) 5
  have d0 : Below w.heap.size w (w.alloc (.cells (byteCells Z).toArray 5)) := (Below.refl _ _).alloc (Nat.le_refl _) _
  rw [← hb]
  have hle : w.heap.size ≤ b := by omega
  clear hb
  go_loopw [0, 6] (fun x i wr => ∃ (k m : Nat) (L : List UInt8), k + m = n ∧ x = .int .i64 ((v / 256 ^ m : Nat) : Int) ∧ i = .int .i64 ((k : Int) - 1) ∧ Hid (L = List.replicate k 0 ++ beB v m) ∧ Blk wr b (byteCells L) 5 ∧ Below w.heap.size w wr) (fun _ i _ => (intOf i + 1).toNat)
  case atStart => exact ⟨n, 0, Z, by omega, by simp, rfl, Lib.hid (by rw [HZ.out]; simp [beB]), B0, d0⟩
  case round =>
    obtain ⟨k, m, L, hkm, rfl, rfl, hL, hB, hd⟩ := hrel
    clear B0 d0
    by_cases hlt : 1 ≤ k
    · obtain ⟨k, rfl⟩ : ∃ j, k = j + 1 := ⟨k - 1, by omega⟩
      rw [show ((k + 1 : Nat) : Int) - 1 = (k : Int) by omega]
      have hLl : L.length = n := by rw [hL.out]; simp [beB_length]; omega
      have hq1 : v / 256 ^ m ≤ v := Nat.div_le_self _ _
      have hq2 : v / 256 ^ (m + 1) = v / 256 ^ m / 256 := by rw [Nat.pow_succ, Nat.div_div_eq_div_mul]
      have hstep := fill_step v k m L hL.out
      obtain ⟨q, hq⟩ : ∃ q, v / 256 ^ m = q := ⟨_, rfl⟩
      rw [hq] at hq1 hq2 hstep ⊢
      have hand : bits .and .i64 (q : Int) 255 = ((q % 256 : Nat) : Int) := by
        have := i64_and_nat q 255 (by omega) (by decide)
        rw [show (255 : Nat) = 2 ^ 8 - 1 from rfl, Nat.and_two_pow_sub_one_eq_mod] at this
        exact this
      have c0 := hB.cell (byteCells_at L k (by omega))
      have f0 := hB.frozen k
      have Hq2 := Lib.hid hq2
      have Hst := Lib.hid hstep
      have hkn : k < n := by omega
      clear hq hq2 hstep
      go_wp2_with fail
      have B7 := set_byte hB k ((q : Int) % 256) (by omega) (by omega)
      have d7 := hd.setCell (p := ⟨b, k, none⟩) hle (.int .u8 ((q : Int) % 256))
      have eu : UInt8.ofNat ((q : Int) % 256).toNat = UInt8.ofNat q := by
        apply UInt8.toNat_inj.1
        rw [u8_toNat_ofNat, u8_toNat_ofNat]; omega
      rw [eu] at B7
      go_roundw
      case rel => exact ⟨k, m + 1, _, by omega, congrArg (Value.int .i64) (by rw [Hq2.out]; omega), rfl, Hst, B7, d7⟩
      case measure => simp [intOf]
    · obtain rfl : k = 0 := by omega
      obtain rfl : m = n := by omega
      have hLl : L.length = m := by rw [hL.out]; simp [beB_length]
      have hcv := conv_len (n := m) (c := m) hB hLl
      go_wp2_with fail
      go_ret
      exact ⟨by rw [hL.out]; simp, hd⟩

end Go.Proofs.Ytmafbkoneggggaa
