/-
  Walks: the block cipher computes the plain function, for every key of 16 and every block of 8 bytes.
-/
import Derived.Deep.DeepFit
import Derived.Test.YtmafbkoneggggaaD2
namespace Go.Proofs.Ytmafbkoneggggaa
open Go.RowKit

set_option maxHeartbeats 400000 in
theorem swapped_any (l r : Nat) (w : World) :
    Calls Try.prog 74 #[stV (l, r)] w fun e w' => e = .returned (stV (r, l)) ∧ Below w.heap.size w w' := by
  unfold stV
  go_enter Try.func74, Try.ntmps74
  go_wp2
  refine bodyPost_ret (v := .agg #[.int .u32 r, .int .u32 l]) (by simp [results, Try.results74, go_sem]) rfl ⟨rfl, ?_⟩
  exact ((((Below.refl _ _).alloc (Nat.le_refl _) _).alloc (by simp) _))

theorem uint4 (n : Nat) (w : World) (h : n < 4294967296) :
    Calls Try.prog 20 #[.int .i64 n, .int .i64 4] w fun e w' => (∃ X, e = .returned (.tuple #[.string ⟨X.toArray⟩, .int .i64 0]) ∧ X.length ≤ 4 ∧ X = beB n 4) ∧ Below w.heap.size w w' :=
  (uint_ok n 4 w (by omega) (by omega) (by decide) (by decide) (by
    have e : 256 ^ (Int.toNat 4) = 4294967296 := by decide +kernel
    rw [e, Int.toNat_natCast]; exact h)).mono fun _ _ ⟨h, b⟩ => ⟨⟨_, h, by simp [beB_length], rfl⟩, b⟩

set_option maxHeartbeats 400000 in
theorem text_any (l r : Nat) (hl : l < 4294967296) (hr : r < 4294967296) (w : World) :
    Calls Try.prog 75 #[stV (l, r)] w fun e w' => e = .returned (.string ⟨(beB l 4 ++ beB r 4).toArray⟩) ∧ Below w.heap.size w w' := by
  unfold stV
  go_enter Try.func75, Try.ntmps75
  go_wp2_with fail
  have B0 := Blk.new w [.int .u32 l, .int .u32 r] 85
  have b0 : Below w.heap.size w (w.alloc (.cells #[.int .u32 l, .int .u32 r] 85)) := (Below.refl _ _).alloc (Nat.le_refl _) _
  refine (uint4 _ _ hl).mono ?_
  rintro e w1 ⟨⟨X, rfl, hX, hX2⟩, b1⟩
  have c1 := (B0.kept b1).cell (j := 1) rfl
  have HX := Lib.hid hX2
  clear hX2
  go_wp2_with fail
  refine (uint4 _ _ hr).mono ?_
  rintro e w2 ⟨⟨Y, rfl, hY, hY2⟩, b2⟩
  have HY := Lib.hid hY2
  clear hY2
  go_wp2_with fail
  go_ret
  have d1 := b0.trans (b1.mono b0.size)
  exact ⟨by rw [← HX.out, ← HY.out, ← ByteArray.mk_append_mk]; rfl, d1.trans (b2.mono d1.size)⟩

end Go.Proofs.Ytmafbkoneggggaa
