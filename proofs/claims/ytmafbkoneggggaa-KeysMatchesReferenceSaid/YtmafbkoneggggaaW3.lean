/-
  Walks: bigEndian, and Uint where the integer fits into the width.
-/
import Derived.Test.YtmafbkoneggggaaW2
namespace Go.Proofs.Ytmafbkoneggggaa
open Go.RowKit

theorem collect_any (Bw Bn v width : Nat) (w : World) (hwid : width ≤ 8) (hw1 : 1 ≤ width) (hBw : Bw < w.heap.size) (hBn : Bn < w.heap.size)
    (hw : w.cell? ⟨Bw, 0, none⟩ = some (.int .i64 width)) (hnn : w.cell? ⟨Bn, 0, none⟩ = some (.int .u64 v)) :
    Calls Try.prog 41 #[.func (.func 56) #[] #[.pointer (some ⟨Bw, 0, none⟩), .pointer (some ⟨Bn, 0, none⟩)]] w fun e W' => e = .returned (.string ⟨(beB v width).toArray⟩) ∧ Below w.heap.size w W' :=
  (callsIn_wide (n := 3)).1 (collect_in Fence.wide 3 trivial trivial rfl (by omega) Bw Bn v width hwid hw1 w hBw hBn hw hnn)

set_option maxHeartbeats 400000 in
theorem bigEndian_any (v width : Int) (w : World) :
    Calls Try.prog 42 #[.int .u64 v, .int .i64 width] w fun e w' => e = .returned (.func (.func 56) #[] #[.pointer (some ⟨w.heap.size + 1, 0, none⟩), .pointer (some ⟨w.heap.size, 0, none⟩)]) ∧ w' = (w.alloc (.cells #[.int .u64 v] 63)).alloc (.cells #[.int .i64 width] 3) := by
  go_enter Try.func42, Try.ntmps42
  go_wp2
  go_ret
  exact ⟨rfl, rfl⟩

/-- The bytes of v in width bytes, as collect (bigEndian v width) gives them. -/
theorem collect_be (v : Nat) (width : Int) (w : World) (hwid : width ≤ 8) (hw1 : 1 ≤ width) :
    Calls Try.prog 41 #[.func (.func 56) #[] #[.pointer (some ⟨w.heap.size + 1, 0, none⟩), .pointer (some ⟨w.heap.size, 0, none⟩)]] ((w.alloc (.cells #[.int .u64 v] 63)).alloc (.cells #[.int .i64 width] 3)) fun e W' =>
      e = .returned (.string ⟨(beB v width.toNat).toArray⟩) ∧ Below w.heap.size w W' := by
  obtain ⟨k, rfl⟩ := Int.eq_ofNat_of_zero_le (show 0 ≤ width by omega)
  rw [Int.toNat_natCast]
  have b1 : Below w.heap.size w ((w.alloc (.cells #[.int .u64 v] 63)).alloc (.cells #[.int .i64 k] 3)) := ((Below.refl _ _).alloc (Nat.le_refl _) _).alloc (by simp) _
  refine (collect_any (w.heap.size + 1) w.heap.size v k _ (by omega) (by omega) (by simp) (by simp; omega) ?_ ?_).mono ?_
  · have := (Boxed.new (w.alloc (.cells #[.int .u64 v] 63)) 3 (.int .i64 k)).cell
    rw [World.size_alloc] at this
    exact this
  · exact ((Boxed.new w 63 (.int .u64 v)).alloc _).cell
  · rintro e W' ⟨rfl, hb⟩
    exact ⟨rfl, b1.trans (hb.mono (by simp; omega))⟩


theorem pow_cases {P : Int → Prop} (h1 : P 1) (h2 : P 2) (h3 : P 3) (h4 : P 4) (h5 : P 5) (h6 : P 6) (h7 : P 7) (h8 : P 8) (w : Int) (a : 1 ≤ w) (b : w ≤ 8) : P w := by
  rcases (show w = 1 ∨ w = 2 ∨ w = 3 ∨ w = 4 ∨ w = 5 ∨ w = 6 ∨ w = 7 ∨ w = 8 by omega) with h | h | h | h | h | h | h | h <;> rw [h] <;> assumption

set_option maxHeartbeats 1000000 in
theorem uint_ok (n width : Int) (w : World) (h0 : 0 ≤ n) (hn : n ≤ 9223372036854775807) (hw1 : 1 ≤ width) (hw : width ≤ 8) (h : n.toNat < 256 ^ width.toNat) :
    Calls Try.prog 20 #[.int .i64 n, .int .i64 width] w fun e w' => e = .returned (.tuple #[.string ⟨(beB n.toNat width.toNat).toArray⟩, .int .i64 0]) ∧ Below w.heap.size w w' := by
  obtain ⟨n, rfl⟩ := Int.eq_ofNat_of_zero_le h0
  rw [Int.toNat_natCast] at h ⊢
  by_cases h8 : width = 8
  · subst h8
    clear h
    go_enter Try.func20, Try.ntmps20
    go_wp2_with fail
    refine (bigEndian_any _ _ _).mono ?_
    rintro e w' ⟨rfl, rfl⟩
    go_wp2_with fail
    refine (collect_be _ _ _ (by omega) (by omega)).mono ?_
    rintro e w' ⟨rfl, hb⟩
    go_wp2
    go_ret2
    exact ⟨rfl, hb⟩
  · rcases (show width = 1 ∨ width = 2 ∨ width = 3 ∨ width = 4 ∨ width = 5 ∨ width = 6 ∨ width = 7 by omega) with e | e | e | e | e | e | e
    all_goals
      subst e
      simp at h
      have hz : decide ((n : Int) < 0) = false := by simp
      first
        | have hq : ((n : Int) / 256 != 0) = false := by rw [bne_eq_false_iff_eq]; omega
        | have hq : ((n : Int) / 65536 != 0) = false := by rw [bne_eq_false_iff_eq]; omega
        | have hq : ((n : Int) / 16777216 != 0) = false := by rw [bne_eq_false_iff_eq]; omega
        | have hq : ((n : Int) / 4294967296 != 0) = false := by rw [bne_eq_false_iff_eq]; omega
        | have hq : ((n : Int) / 1099511627776 != 0) = false := by rw [bne_eq_false_iff_eq]; omega
        | have hq : ((n : Int) / 281474976710656 != 0) = false := by rw [bne_eq_false_iff_eq]; omega
        | have hq : ((n : Int) / 72057594037927936 != 0) = false := by rw [bne_eq_false_iff_eq]; omega
      go_enter Try.func20, Try.ntmps20
      go_wp2_with fail
      refine (bigEndian_any _ _ _).mono ?_
      rintro e w' ⟨rfl, rfl⟩
      go_wp2_with fail
      refine (collect_be _ _ _ (by omega) (by omega)).mono ?_
      rintro e w' ⟨rfl, hb⟩
      go_wp2
      go_ret2
      exact ⟨rfl, hb⟩

end Go.Proofs.Ytmafbkoneggggaa
