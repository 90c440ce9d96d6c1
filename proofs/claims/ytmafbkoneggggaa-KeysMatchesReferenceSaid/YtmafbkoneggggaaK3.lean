/-
  Walks: the key schedule computes the plain functions.
-/
import Derived.Test.YtmafbkoneggggaaK2
namespace Go.Proofs.Ytmafbkoneggggaa
open Go.RowKit

set_option maxRecDepth 100000 in
set_option maxHeartbeats 1000000 in
theorem pair_err (k l c : ByteArray) (w : World) (h : Hid (¬ k.size = 16 ∨ (k.size = 16 ∧ 8192 < c.size))) :
    Calls Try.prog 44 #[.string k, .string l, .string c] w fun e w' => e = .returned (.tuple #[.agg #[.string ⟨#[]⟩, .string ⟨#[]⟩], .int .i64 50]) ∧ Below w.heap.size w w' := by
  go_enter Try.func44, Try.ntmps44
  go_wp2_with fail
  obtain ⟨W3, hW3⟩ : ∃ W3, (((w.alloc (.cells #[.string k] 9)).alloc (.cells #[.string l] 9)).alloc (.cells #[.string c] 9)).alloc (.cells #[.string ⟨#[]⟩, .string ⟨#[]⟩] 43) = W3 := ⟨_, rfl⟩
  have hb3 : Below w.heap.size w W3 := by rw [← hW3]; exact ((((Below.refl _ _).alloc (Nat.le_refl _) _).alloc (by simp) _).alloc (by simp; omega) _).alloc (by simp; omega) _
  have K3 : Blk W3 w.heap.size [.string k] 9 := by rw [← hW3]; exact (((Blk.new w [.string k] 9).alloc _).alloc _).alloc _
  have L3 : Blk W3 (w.heap.size + 1) [.string l] 9 := by rw [← hW3]; exact ((Blk.newAt _ [.string l] 9 (by simp)).alloc _).alloc _
  have C3 : Blk W3 (w.heap.size + 1 + 1) [.string c] 9 := by rw [← hW3]; exact (Blk.newAt _ [.string c] 9 (by simp)).alloc _
  have R3 : Blk W3 (w.heap.size + 1 + 1 + 1) [.string ⟨#[]⟩, .string ⟨#[]⟩] 43 := by rw [← hW3]; exact Blk.newAt _ [.string ⟨#[]⟩, .string ⟨#[]⟩] 43 (by simp)
  rw [hW3]
  clear hW3
  refine (side_err _ k c l _ _ _ _ h K3 C3 L3).mono ?_
  rintro e w4 ⟨rfl, b4⟩
  have R5 := R3.kept b4
  have hb4 := hb3.trans (b4.mono hb3.size)
  have r0 := R5.cell (j := 0) rfl
  have r1 := R5.cell (j := 1) rfl
  have f0 := R5.frozen 0
  have f1 := R5.frozen 1
  have hlt := R5.lt
  clear K3 L3 C3 R3 b4 hb3
  go_wp2_with fail
  have R6 := (R5.set 0 (.string ⟨#[]⟩)).set 1 (.string ⟨#[]⟩)
  have q0 := R6.cell (j := 0) rfl
  have q1 := R6.cell (j := 1) rfl
  clear r0 r1 f0 f1
  refine bodyPost_ret (v := .tuple #[.agg #[.string ⟨#[]⟩, .string ⟨#[]⟩], .int .i64 50]) (by simp [results, Try.results44, go_sem, q0, q1]) rfl ⟨rfl, ?_⟩
  exact (hb4.setCell (by simp; omega) _).setCell (by simp; omega) _

/-- The pair of secrets as a value. -/
def secV (a b : List UInt8) : Value := .agg #[.string ⟨a.toArray⟩, .string ⟨b.toArray⟩]

theorem pair_h (k l c : ByteArray) (A B : List UInt8) (w : World) (hk : Hid (k.size = 16)) (hc : c.size ≤ 8192) (hl : l.size ≤ 16)
    (hA : Hid (cliB k.data.toList l.data.toList c.data.toList = A)) (hB : Hid (srvB k.data.toList l.data.toList c.data.toList = B)) :
    Calls Try.prog 44 #[.string k, .string l, .string c] w fun e w' => e = .returned (.tuple #[.agg #[.string ⟨A.toArray⟩, .string ⟨B.toArray⟩], .int .i64 0]) ∧ Below w.heap.size w w' :=
  (pair_ok k l c w hk hc hl).mono fun _ _ ⟨h, b⟩ => ⟨by rw [h, hA.out, hB.out], b⟩

theorem ret_secret {w w4 : World} {b0 : Nat} {A B : Value} (hb0 : w.heap.size ≤ b0) (hb : Below w.heap.size w w4) (h : Blk w4 b0 [.string ⟨#[]⟩, .string ⟨#[]⟩] 43) :
    Blk ((w4.setCell ⟨b0, 0, none⟩ A).setCell ⟨b0, 1, none⟩ B) b0 [A, B] 43 ∧ Below w.heap.size w ((w4.setCell ⟨b0, 0, none⟩ A).setCell ⟨b0, 1, none⟩ B) :=
  ⟨(h.set 0 A).set 1 B, (hb.setCell (p := ⟨b0, 0, none⟩) hb0 _).setCell (p := ⟨b0, 1, none⟩) hb0 _⟩

set_option maxRecDepth 100000 in
set_option maxHeartbeats 1000000 in
theorem app_ok (k c : ByteArray) (A B : List UInt8) (w : World) (hk : Hid (k.size = 16)) (hc : c.size ≤ 8192)
    (hA : Hid (cliB k.data.toList [97, 112, 112] c.data.toList = A)) (hB : Hid (srvB k.data.toList [97, 112, 112] c.data.toList = B)) :
    Calls Try.prog 28 #[.string k, .string c] w fun e w' => e = .returned (.tuple #[.agg #[.string ⟨A.toArray⟩, .string ⟨B.toArray⟩], .int .i64 0]) ∧ Below w.heap.size w w' := by
  go_enter Try.func28, Try.ntmps28
  go_wp2_with fail
  have R0 := Blk.new w [.string ⟨#[]⟩, .string ⟨#[]⟩] 43
  have b0 : Below w.heap.size w (w.alloc (.cells #[.string ⟨#[]⟩, .string ⟨#[]⟩] 43)) := (Below.refl _ _).alloc (Nat.le_refl _) _
  refine (pair_h k ⟨#[97, 112, 112]⟩ c A B _ hk hc (by decide) hA hB).mono ?_
  rintro e w4 ⟨rfl, b4⟩
  have R5 := R0.kept b4
  have hb4 := b0.trans (b4.mono b0.size)
  have r0 := R5.cell (j := 0) rfl
  have r1 := R5.cell (j := 1) rfl
  have f0 := R5.frozen 0
  have f1 := R5.frozen 1
  have hlt := R5.lt
  clear R0 b0 b4
  go_wp2_with fail
  obtain ⟨R6, hb6⟩ := ret_secret (A := .string ⟨A.toArray⟩) (B := .string ⟨B.toArray⟩) (Nat.le_refl _) hb4 R5
  have q0 := R6.cell (j := 0) rfl
  have q1 := R6.cell (j := 1) rfl
  clear r0 r1 f0 f1
  exact bodyPost_ret (v := .tuple #[.agg #[.string ⟨A.toArray⟩, .string ⟨B.toArray⟩], .int .i64 0]) (by simp [results, Try.results28, go_sem, q0, q1]) rfl ⟨rfl, hb6⟩

end Go.Proofs.Ytmafbkoneggggaa
