/-
  Walks: Expand rejects secrets of other lengths.
-/
import Derived.Test.YtmafbkoneggggaaK6
namespace Go.Proofs.Ytmafbkoneggggaa
open Go.RowKit

set_option maxRecDepth 100000 in
set_option maxHeartbeats 2000000 in
theorem expand_err (k : ByteArray) (w : World) (hk : Hid (¬ k.size = 16)) :
    Calls Try.prog 26 #[.string k] w fun e w' => e = .returned (.tuple #[.agg #[.string ⟨#[]⟩, .string ⟨#[]⟩, .string ⟨#[]⟩, .string ⟨#[]⟩], .int .i64 50]) ∧ Below w.heap.size w w' := by
  go_enter Try.func26, Try.ntmps26
  go_wp2_with fail
  obtain ⟨W3, hW3⟩ : ∃ W3, ((w.alloc (.cells #[.string k] 9)).alloc (.cells #[.string ⟨#[]⟩, .string ⟨#[]⟩, .string ⟨#[]⟩, .string ⟨#[]⟩] 48)).alloc (.cells #[.int .i64 0] 24) = W3 := ⟨_, rfl⟩
  have d3 : Below w.heap.size w W3 := by rw [← hW3]; exact (((Below.refl _ _).alloc (Nat.le_refl _) _).alloc (by simp) _).alloc (by simp; omega) _
  have K3 : Blk W3 w.heap.size [.string k] 9 := by rw [← hW3]; exact ((Blk.new w [.string k] 9).alloc _).alloc _
  have R3 : Blk W3 (w.heap.size + 1) [.string ⟨#[]⟩, .string ⟨#[]⟩, .string ⟨#[]⟩, .string ⟨#[]⟩] 48 := by rw [← hW3]; exact (Blk.newAt _ [.string ⟨#[]⟩, .string ⟨#[]⟩, .string ⟨#[]⟩, .string ⟨#[]⟩] 48 (by simp)).alloc _
  have F3 : Blk W3 (w.heap.size + 1 + 1) [.int .i64 0] 24 := by rw [← hW3]; exact Blk.newAt _ [.int .i64 0] 24 (by simp)
  rw [hW3]
  clear hW3
  refine (part_err k ⟨#[107, 101, 121]⟩ _ _ _ _ hk K3 F3).mono ?_
  rintro e w4 ⟨⟨rfl, F4⟩, u4⟩
  have K4 := u4.blk (by omega) K3
  have R4 := u4.blk (by omega) R3
  have d4 := u4.below (B := w.heap.size) (by omega) (by have := K3.lt; omega) d3
  clear K3 R3 F3 d3 u4
  go_wp2_with fail
  refine (part_err k ⟨#[105, 118]⟩ _ _ _ _ hk K4 F4).mono ?_
  rintro e w5 ⟨⟨rfl, F5⟩, u5⟩
  have K5 := u5.blk (by omega) K4
  have R5 := u5.blk (by omega) R4
  have d5 := u5.below (B := w.heap.size) (by omega) (by have := K4.lt; omega) d4
  clear K4 R4 F4 d4 u5
  go_wp2_with fail
  refine (part_err k ⟨#[109, 97, 99]⟩ _ _ _ _ hk K5 F5).mono ?_
  rintro e w6 ⟨⟨rfl, F6⟩, u6⟩
  have K6 := u6.blk (by omega) K5
  have R6 := u6.blk (by omega) R5
  have d6 := u6.below (B := w.heap.size) (by omega) (by have := K5.lt; omega) d5
  clear K5 R5 F5 d5 u6
  go_wp2_with fail
  refine (part_err k ⟨#[104, 112]⟩ _ _ _ _ hk K6 F6).mono ?_
  rintro e w7 ⟨⟨rfl, F7⟩, u7⟩
  have K7 := u7.blk (by omega) K6
  have R7 := u7.blk (by omega) R6
  have d7 := u7.below (B := w.heap.size) (by omega) (by have := K6.lt; omega) d6
  clear K6 R6 F6 d6 u7
  go_upto_region 4 with (fail)
  obtain ⟨W8, hW8⟩ : ∃ W8, w7.alloc (.cells #[.string ⟨#[]⟩, .string ⟨#[]⟩, .string ⟨#[]⟩, .string ⟨#[]⟩] 48) = W8 := ⟨_, rfl⟩
  have F8 : Blk W8 (w.heap.size + 1 + 1) [.int .i64 50] 24 := by rw [← hW8]; exact F7.alloc _
  have R8 : Blk W8 (w.heap.size + 1) [.string ⟨#[]⟩, .string ⟨#[]⟩, .string ⟨#[]⟩, .string ⟨#[]⟩] 48 := by rw [← hW8]; exact R7.alloc _
  have d8 : Below w.heap.size w W8 := by rw [← hW8]; exact d7.alloc d7.size _
  rw [hW8]
  clear hW8 R7 F7 d7 K7
  have f0 := F8.cell (j := 0) rfl
  have r0 := R8.cell (j := 0) rfl
  have z0 := R8.frozen 0
  have r1 := R8.cell (j := 1) rfl
  have z1 := R8.frozen 1
  have r2 := R8.cell (j := 2) rfl
  have z2 := R8.frozen 2
  have r3 := R8.cell (j := 3) rfl
  have z3 := R8.frozen 3
  go_wp2_with fail
  go_region
  have R9 := ((((R8.set 0 (.string ⟨#[]⟩)).set 1 (.string ⟨#[]⟩)).set 2 (.string ⟨#[]⟩)).set 3 (.string ⟨#[]⟩)).drew
  have q0 := R9.cell (j := 0) rfl
  have q1 := R9.cell (j := 1) rfl
  have q2 := R9.cell (j := 2) rfl
  have q3 := R9.cell (j := 3) rfl
  clear f0 r0 r1 r2 r3 z0 z1 z2 z3
  go_wp2_with fail
  refine bodyPost_ret (v := .tuple #[.agg #[.string ⟨#[]⟩, .string ⟨#[]⟩, .string ⟨#[]⟩, .string ⟨#[]⟩], .int .i64 50]) (by simp [results, Try.results26, go_sem, q0, q1, q2, q3]) rfl ⟨rfl, ?_⟩
  exact ((((d8.setCell (p := ⟨w.heap.size + 1, 0, none⟩) (Nat.le_succ _) _).setCell (p := ⟨w.heap.size + 1, 1, none⟩) (Nat.le_succ _) _).setCell (p := ⟨w.heap.size + 1, 2, none⟩) (Nat.le_succ _) _).setCell (p := ⟨w.heap.size + 1, 3, none⟩) (Nat.le_succ _) _).drew

end Go.Proofs.Ytmafbkoneggggaa
