/-
  Walks: the block cipher computes the plain function, for every key of 16 and every block of 8 bytes.
-/
import Derived.Test.YtmafbkoneggggaaD3
namespace Go.Proofs.Ytmafbkoneggggaa
open Go.RowKit

theorem word_at (s : ByteArray) (i : Nat) (a : Int) (x : Nat) (w : World) (hs : s.size ≤ 16) (hi : 4 * i + 4 ≤ s.size) (ha : a = 4 * i) (hx : Hid (wordAt s.data.toList i = x)) :
    Calls Try.prog 21 #[.string s, .int .i64 a, .int .i64 4] w fun e w' => e = .returned (.tuple #[.int .i64 x, .int .i64 0]) ∧ w = w' := by
  subst ha
  have e : beNat ((s.data.toList.drop (4 * (i : Int)).toNat).take (Int.toNat 4)) = x := by
    rw [← hx.out]; unfold wordAt
    rw [show (4 * (i : Int)).toNat = 4 * i by omega]; rfl
  have hlt := wordAt_lt s.data.toList i
  rw [hx.out] at hlt
  refine (readUint_ok s _ 4 w (by unfold maxLen; omega) (by omega) (by decide) (by decide) (by omega) (by rw [e]; omega)).mono ?_
  rintro e' w' ⟨rfl, h⟩
  exact ⟨by rw [e], h⟩

set_option maxRecDepth 100000 in
set_option maxHeartbeats 2000000 in
theorem words_2 (s : ByteArray) (w : World) (hs : s.size = 8) :
    Calls Try.prog 77 #[.string s, .int .i64 2] w fun e w' => e = .returned (.slice (some ⟨w.heap.size, 0, none⟩) 2 2) ∧ Blk w' w.heap.size [.int .u32 (wordAt s.data.toList 0), .int .u32 (wordAt s.data.toList 1)] 81 ∧ Below w.heap.size w w' := by
  have h0 := wordAt_lt s.data.toList 0
  obtain ⟨x0, e0⟩ : ∃ x, wordAt s.data.toList 0 = x := ⟨_, rfl⟩
  rw [e0] at h0 ⊢
  have E0 := Lib.hid e0
  clear e0
  have h1 := wordAt_lt s.data.toList 1
  obtain ⟨x1, e1⟩ : ∃ x, wordAt s.data.toList 1 = x := ⟨_, rfl⟩
  rw [e1] at h1 ⊢
  have E1 := Lib.hid e1
  clear e1
  have hs1 : s.size ≤ 8 := by omega
  have hs2 : 8 ≤ s.size := by omega
  clear hs
  have hmk : ∀ w, (Instr.makeSlice 92 (.int .i64 0) (.int .i64 2)).run Try.prog w = .ok (.slice (some ⟨w.heap.size, 0, none⟩) 0 2) (w.alloc (.cells #[.int .u32 0, .int .u32 0] 81)) := fun _ => by kernel_rfl
  go_enter Try.func77, Try.ntmps77
  go_wp2_with fail
  refine wp_loop_rounds 3 ?_
  rw [rounds_succ]
  go_wp2_with fail
  refine (word_at s 0 _ x0 _ (by omega) (by omega) (by decide) E0).mono ?_
  rintro e w1 ⟨rfl, rfl⟩
  go_wp2_with fail
  rw [rounds_succ]
  go_wp2_with fail
  refine (word_at s 1 _ x1 _ (by omega) (by omega) (by decide) E1).mono ?_
  rintro e w1 ⟨rfl, rfl⟩
  go_wp2_with fail
  rw [rounds_succ]
  go_wp2_with fail
  go_ret
  exact ⟨rfl, ((Blk.new w [.int .u32 x0, .int .u32 x1] 81).alloc _).alloc _, ((((Below.refl w.heap.size w).alloc (Nat.le_refl _) _).alloc (by simp; try omega) _).alloc (by simp; try omega) _)⟩

set_option maxRecDepth 100000 in
set_option maxHeartbeats 2000000 in
theorem words_4 (s : ByteArray) (w : World) (hs : s.size = 16) :
    Calls Try.prog 77 #[.string s, .int .i64 4] w fun e w' => e = .returned (.slice (some ⟨w.heap.size, 0, none⟩) 4 4) ∧ Blk w' w.heap.size [.int .u32 (wordAt s.data.toList 0), .int .u32 (wordAt s.data.toList 1), .int .u32 (wordAt s.data.toList 2), .int .u32 (wordAt s.data.toList 3)] 81 ∧ Below w.heap.size w w' := by
  have h0 := wordAt_lt s.data.toList 0
  obtain ⟨x0, e0⟩ : ∃ x, wordAt s.data.toList 0 = x := ⟨_, rfl⟩
  rw [e0] at h0 ⊢
  have E0 := Lib.hid e0
  clear e0
  have h1 := wordAt_lt s.data.toList 1
  obtain ⟨x1, e1⟩ : ∃ x, wordAt s.data.toList 1 = x := ⟨_, rfl⟩
  rw [e1] at h1 ⊢
  have E1 := Lib.hid e1
  clear e1
  have h2 := wordAt_lt s.data.toList 2
  obtain ⟨x2, e2⟩ : ∃ x, wordAt s.data.toList 2 = x := ⟨_, rfl⟩
  rw [e2] at h2 ⊢
  have E2 := Lib.hid e2
  clear e2
  have h3 := wordAt_lt s.data.toList 3
  obtain ⟨x3, e3⟩ : ∃ x, wordAt s.data.toList 3 = x := ⟨_, rfl⟩
  rw [e3] at h3 ⊢
  have E3 := Lib.hid e3
  clear e3
  have hs1 : s.size ≤ 16 := by omega
  have hs2 : 16 ≤ s.size := by omega
  clear hs
  have hmk : ∀ w, (Instr.makeSlice 92 (.int .i64 0) (.int .i64 4)).run Try.prog w = .ok (.slice (some ⟨w.heap.size, 0, none⟩) 0 4) (w.alloc (.cells #[.int .u32 0, .int .u32 0, .int .u32 0, .int .u32 0] 81)) := fun _ => by kernel_rfl
  go_enter Try.func77, Try.ntmps77
  go_wp2_with fail
  refine wp_loop_rounds 5 ?_
  rw [rounds_succ]
  go_wp2_with fail
  refine (word_at s 0 _ x0 _ (by omega) (by omega) (by decide) E0).mono ?_
  rintro e w1 ⟨rfl, rfl⟩
  go_wp2_with fail
  rw [rounds_succ]
  go_wp2_with fail
  refine (word_at s 1 _ x1 _ (by omega) (by omega) (by decide) E1).mono ?_
  rintro e w1 ⟨rfl, rfl⟩
  go_wp2_with fail
  rw [rounds_succ]
  go_wp2_with fail
  refine (word_at s 2 _ x2 _ (by omega) (by omega) (by decide) E2).mono ?_
  rintro e w1 ⟨rfl, rfl⟩
  go_wp2_with fail
  rw [rounds_succ]
  go_wp2_with fail
  refine (word_at s 3 _ x3 _ (by omega) (by omega) (by decide) E3).mono ?_
  rintro e w1 ⟨rfl, rfl⟩
  go_wp2_with fail
  rw [rounds_succ]
  go_wp2_with fail
  go_ret
  exact ⟨rfl, ((((Blk.new w [.int .u32 x0, .int .u32 x1, .int .u32 x2, .int .u32 x3] 81).alloc _).alloc _).alloc _).alloc _, ((((((Below.refl w.heap.size w).alloc (Nat.le_refl _) _).alloc (by simp; try omega) _).alloc (by simp; try omega) _).alloc (by simp; try omega) _).alloc (by simp; try omega) _)⟩

end Go.Proofs.Ytmafbkoneggggaa
