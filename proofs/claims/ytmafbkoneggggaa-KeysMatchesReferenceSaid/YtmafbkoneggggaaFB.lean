/-
  Walks: the reference's Initial, Handshake and App.
-/
import Derived.Test.YtmafbkoneggggaaFA
namespace Go.Proofs.Ytmafbkoneggggaa
open Go.RowKit

set_option maxRecDepth 100000 in
set_option maxHeartbeats 1000000 in
theorem rinit_ok (k c : ByteArray) (A B : List UInt8) (w : World) (hk : Hid (k.size = 16)) (hc8 : Hid (c.size = 8))
    (hA : Hid (cliB k.data.toList [105, 110, 105, 116, 105, 97, 108] c.data.toList = A)) (hB : Hid (srvB k.data.toList [105, 110, 105, 116, 105, 97, 108] c.data.toList = B)) :
    Calls Try.prog 33 #[.string k, .string c] w fun e w' => e = .returned (.tuple #[.agg #[.string ⟨A.toArray⟩, .string ⟨B.toArray⟩], .int .i64 0]) ∧ Below w.heap.size w w' := by
  have hc1 : c.size ≤ 8 := by have := hc8.out; omega
  have hc2 : 8 ≤ c.size := by have := hc8.out; omega
  have ec : ((c.size : Int) == 8) = true := by rw [beq_iff_eq]; have := hc8.out; omega
  go_enter Try.func33, Try.ntmps33
  go_wp2_with fail
  have R0 := Blk.new w [.string ⟨#[]⟩, .string ⟨#[]⟩] 43
  have b0 : Below w.heap.size w (w.alloc (.cells #[.string ⟨#[]⟩, .string ⟨#[]⟩] 43)) := (Below.refl _ _).alloc (Nat.le_refl _) _
  refine (rpair_ok k ⟨#[105, 110, 105, 116, 105, 97, 108]⟩ c A B _ hk (by decide) (by omega) hA hB).mono ?_
  rintro e w4 ⟨rfl, b4⟩
  have R5 := R0.kept b4
  have hb4 := b0.trans (b4.mono b0.size)
  have r0 := R5.cell (j := 0) rfl
  have r1 := R5.cell (j := 1) rfl
  have f0 := R5.frozen 0
  have f1 := R5.frozen 1
  have hlt := R5.lt
  clear R0 b0 b4
  go_wp2_with fail
  obtain ⟨R6, hb6⟩ := ret_secret (A := .string ⟨A.toArray⟩) (B := .string ⟨B.toArray⟩) (Nat.le_refl _) hb4 R5
  have q0 := R6.cell (j := 0) rfl
  have q1 := R6.cell (j := 1) rfl
  clear r0 r1 f0 f1
  exact bodyPost_ret (v := .tuple #[.agg #[.string ⟨A.toArray⟩, .string ⟨B.toArray⟩], .int .i64 0]) (by simp [results, Try.results33, go_sem, q0, q1]) rfl ⟨rfl, hb6⟩

set_option maxRecDepth 100000 in
set_option maxHeartbeats 1000000 in
theorem rinit_err (k c : ByteArray) (w : World) (hk : Hid (¬ k.size = 16)) (hc8 : Hid (c.size = 8)) :
    Calls Try.prog 33 #[.string k, .string c] w fun e w' => e = .returned (.tuple #[.agg #[.string ⟨#[]⟩, .string ⟨#[]⟩], .int .i64 50]) ∧ Below w.heap.size w w' := by
  have hc1 : c.size ≤ 8 := by have := hc8.out; omega
  have hc2 : 8 ≤ c.size := by have := hc8.out; omega
  have ec : ((c.size : Int) == 8) = true := by rw [beq_iff_eq]; have := hc8.out; omega
  go_enter Try.func33, Try.ntmps33
  go_wp2_with fail
  have R0 := Blk.new w [.string ⟨#[]⟩, .string ⟨#[]⟩] 43
  have b0 : Below w.heap.size w (w.alloc (.cells #[.string ⟨#[]⟩, .string ⟨#[]⟩] 43)) := (Below.refl _ _).alloc (Nat.le_refl _) _
  refine (rpair_err k ⟨#[105, 110, 105, 116, 105, 97, 108]⟩ c true _ (by decide) (Lib.hid (Or.inr hk.out))).mono ?_
  rintro e w4 ⟨rfl, b4⟩
  have R5 := R0.kept b4
  have hb4 := b0.trans (b4.mono b0.size)
  have r0 := R5.cell (j := 0) rfl
  have r1 := R5.cell (j := 1) rfl
  have f0 := R5.frozen 0
  have f1 := R5.frozen 1
  have hlt := R5.lt
  clear R0 b0 b4
  go_wp2_with fail
  obtain ⟨R6, hb6⟩ := ret_secret (A := .string ⟨#[]⟩) (B := .string ⟨#[]⟩) (Nat.le_refl _) hb4 R5
  have q0 := R6.cell (j := 0) rfl
  have q1 := R6.cell (j := 1) rfl
  clear r0 r1 f0 f1
  exact bodyPost_ret (v := .tuple #[.agg #[.string ⟨#[]⟩, .string ⟨#[]⟩], .int .i64 50]) (by simp [results, Try.results33, go_sem, q0, q1]) rfl ⟨rfl, hb6⟩

set_option maxRecDepth 100000 in
set_option maxHeartbeats 1000000 in
theorem rinit_size (k c : ByteArray) (w : World) (h : Hid (¬ c.size = 8)) :
    Calls Try.prog 33 #[.string k, .string c] w fun e w' => e = .returned (.tuple #[.agg #[.string ⟨#[]⟩, .string ⟨#[]⟩], .int .i64 50]) ∧ Below w.heap.size w w' := by
  have ec : ((c.size : Int) == 8) = false := by rw [beq_eq_false_iff_ne]; have := h.out; omega
  go_enter Try.func33, Try.ntmps33
  go_wp2_with fail
  have R0 := Blk.new w [.string ⟨#[]⟩, .string ⟨#[]⟩] 43
  have b0 : Below w.heap.size w (w.alloc (.cells #[.string ⟨#[]⟩, .string ⟨#[]⟩] 43)) := (Below.refl _ _).alloc (Nat.le_refl _) _
  refine (rpair_err k ⟨#[105, 110, 105, 116, 105, 97, 108]⟩ c false _ (by decide) (Lib.hid (Or.inl rfl))).mono ?_
  rintro e w4 ⟨rfl, b4⟩
  have R5 := R0.kept b4
  have hb4 := b0.trans (b4.mono b0.size)
  have r0 := R5.cell (j := 0) rfl
  have r1 := R5.cell (j := 1) rfl
  have f0 := R5.frozen 0
  have f1 := R5.frozen 1
  have hlt := R5.lt
  clear R0 b0 b4
  go_wp2_with fail
  obtain ⟨R6, hb6⟩ := ret_secret (A := .string ⟨#[]⟩) (B := .string ⟨#[]⟩) (Nat.le_refl _) hb4 R5
  have q0 := R6.cell (j := 0) rfl
  have q1 := R6.cell (j := 1) rfl
  clear r0 r1 f0 f1
  exact bodyPost_ret (v := .tuple #[.agg #[.string ⟨#[]⟩, .string ⟨#[]⟩], .int .i64 50]) (by simp [results, Try.results33, go_sem, q0, q1]) rfl ⟨rfl, hb6⟩

set_option maxRecDepth 100000 in
set_option maxHeartbeats 1000000 in
theorem rhs_ok (k c : ByteArray) (A B : List UInt8) (w : World) (hk : Hid (k.size = 16)) (hc : c.size ≤ 8192)
    (hA : Hid (cliB k.data.toList [104, 97, 110, 100, 115, 104, 97, 107, 101] c.data.toList = A)) (hB : Hid (srvB k.data.toList [104, 97, 110, 100, 115, 104, 97, 107, 101] c.data.toList = B)) :
    Calls Try.prog 50 #[.string k, .string c] w fun e w' => e = .returned (.tuple #[.agg #[.string ⟨A.toArray⟩, .string ⟨B.toArray⟩], .int .i64 0]) ∧ Below w.heap.size w w' := by
  have ec : decide ((c.size : Int) ≤ 8192) = true := by rw [decide_eq_true_iff]; omega
  go_enter Try.func50, Try.ntmps50
  go_wp2_with fail
  have R0 := Blk.new w [.string ⟨#[]⟩, .string ⟨#[]⟩] 43
  have b0 : Below w.heap.size w (w.alloc (.cells #[.string ⟨#[]⟩, .string ⟨#[]⟩] 43)) := (Below.refl _ _).alloc (Nat.le_refl _) _
  refine (rpair_ok k ⟨#[104, 97, 110, 100, 115, 104, 97, 107, 101]⟩ c A B _ hk (by decide) hc hA hB).mono ?_
  rintro e w4 ⟨rfl, b4⟩
  have R5 := R0.kept b4
  have hb4 := b0.trans (b4.mono b0.size)
  have r0 := R5.cell (j := 0) rfl
  have r1 := R5.cell (j := 1) rfl
  have f0 := R5.frozen 0
  have f1 := R5.frozen 1
  have hlt := R5.lt
  clear R0 b0 b4
  go_wp2_with fail
  obtain ⟨R6, hb6⟩ := ret_secret (A := .string ⟨A.toArray⟩) (B := .string ⟨B.toArray⟩) (Nat.le_refl _) hb4 R5
  have q0 := R6.cell (j := 0) rfl
  have q1 := R6.cell (j := 1) rfl
  clear r0 r1 f0 f1
  exact bodyPost_ret (v := .tuple #[.agg #[.string ⟨A.toArray⟩, .string ⟨B.toArray⟩], .int .i64 0]) (by simp [results, Try.results50, go_sem, q0, q1]) rfl ⟨rfl, hb6⟩

set_option maxRecDepth 100000 in
set_option maxHeartbeats 1000000 in
theorem rhs_err (k c : ByteArray) (w : World) (hk : Hid (¬ k.size = 16)) (hc : c.size ≤ 8192) :
    Calls Try.prog 50 #[.string k, .string c] w fun e w' => e = .returned (.tuple #[.agg #[.string ⟨#[]⟩, .string ⟨#[]⟩], .int .i64 50]) ∧ Below w.heap.size w w' := by
  have ec : decide ((c.size : Int) ≤ 8192) = true := by rw [decide_eq_true_iff]; omega
  go_enter Try.func50, Try.ntmps50
  go_wp2_with fail
  have R0 := Blk.new w [.string ⟨#[]⟩, .string ⟨#[]⟩] 43
  have b0 : Below w.heap.size w (w.alloc (.cells #[.string ⟨#[]⟩, .string ⟨#[]⟩] 43)) := (Below.refl _ _).alloc (Nat.le_refl _) _
  refine (rpair_err k ⟨#[104, 97, 110, 100, 115, 104, 97, 107, 101]⟩ c true _ (by decide) (Lib.hid (Or.inr hk.out))).mono ?_
  rintro e w4 ⟨rfl, b4⟩
  have R5 := R0.kept b4
  have hb4 := b0.trans (b4.mono b0.size)
  have r0 := R5.cell (j := 0) rfl
  have r1 := R5.cell (j := 1) rfl
  have f0 := R5.frozen 0
  have f1 := R5.frozen 1
  have hlt := R5.lt
  clear R0 b0 b4
  go_wp2_with fail
  obtain ⟨R6, hb6⟩ := ret_secret (A := .string ⟨#[]⟩) (B := .string ⟨#[]⟩) (Nat.le_refl _) hb4 R5
  have q0 := R6.cell (j := 0) rfl
  have q1 := R6.cell (j := 1) rfl
  clear r0 r1 f0 f1
  exact bodyPost_ret (v := .tuple #[.agg #[.string ⟨#[]⟩, .string ⟨#[]⟩], .int .i64 50]) (by simp [results, Try.results50, go_sem, q0, q1]) rfl ⟨rfl, hb6⟩

set_option maxRecDepth 100000 in
set_option maxHeartbeats 1000000 in
theorem rapp_ok (k c : ByteArray) (A B : List UInt8) (w : World) (hk : Hid (k.size = 16)) (hc : c.size ≤ 8192)
    (hA : Hid (cliB k.data.toList [97, 112, 112] c.data.toList = A)) (hB : Hid (srvB k.data.toList [97, 112, 112] c.data.toList = B)) :
    Calls Try.prog 51 #[.string k, .string c] w fun e w' => e = .returned (.tuple #[.agg #[.string ⟨A.toArray⟩, .string ⟨B.toArray⟩], .int .i64 0]) ∧ Below w.heap.size w w' := by
  have ec : decide ((c.size : Int) ≤ 8192) = true := by rw [decide_eq_true_iff]; omega
  go_enter Try.func51, Try.ntmps51
  go_wp2_with fail
  have R0 := Blk.new w [.string ⟨#[]⟩, .string ⟨#[]⟩] 43
  have b0 : Below w.heap.size w (w.alloc (.cells #[.string ⟨#[]⟩, .string ⟨#[]⟩] 43)) := (Below.refl _ _).alloc (Nat.le_refl _) _
  refine (rpair_ok k ⟨#[97, 112, 112]⟩ c A B _ hk (by decide) hc hA hB).mono ?_
  rintro e w4 ⟨rfl, b4⟩
  have R5 := R0.kept b4
  have hb4 := b0.trans (b4.mono b0.size)
  have r0 := R5.cell (j := 0) rfl
  have r1 := R5.cell (j := 1) rfl
  have f0 := R5.frozen 0
  have f1 := R5.frozen 1
  have hlt := R5.lt
  clear R0 b0 b4
  go_wp2_with fail
  obtain ⟨R6, hb6⟩ := ret_secret (A := .string ⟨A.toArray⟩) (B := .string ⟨B.toArray⟩) (Nat.le_refl _) hb4 R5
  have q0 := R6.cell (j := 0) rfl
  have q1 := R6.cell (j := 1) rfl
  clear r0 r1 f0 f1
  exact bodyPost_ret (v := .tuple #[.agg #[.string ⟨A.toArray⟩, .string ⟨B.toArray⟩], .int .i64 0]) (by simp [results, Try.results51, go_sem, q0, q1]) rfl ⟨rfl, hb6⟩

set_option maxRecDepth 100000 in
set_option maxHeartbeats 1000000 in
theorem rapp_err (k c : ByteArray) (w : World) (hk : Hid (¬ k.size = 16)) (hc : c.size ≤ 8192) :
    Calls Try.prog 51 #[.string k, .string c] w fun e w' => e = .returned (.tuple #[.agg #[.string ⟨#[]⟩, .string ⟨#[]⟩], .int .i64 50]) ∧ Below w.heap.size w w' := by
  have ec : decide ((c.size : Int) ≤ 8192) = true := by rw [decide_eq_true_iff]; omega
  go_enter Try.func51, Try.ntmps51
  go_wp2_with fail
  have R0 := Blk.new w [.string ⟨#[]⟩, .string ⟨#[]⟩] 43
  have b0 : Below w.heap.size w (w.alloc (.cells #[.string ⟨#[]⟩, .string ⟨#[]⟩] 43)) := (Below.refl _ _).alloc (Nat.le_refl _) _
  refine (rpair_err k ⟨#[97, 112, 112]⟩ c true _ (by decide) (Lib.hid (Or.inr hk.out))).mono ?_
  rintro e w4 ⟨rfl, b4⟩
  have R5 := R0.kept b4
  have hb4 := b0.trans (b4.mono b0.size)
  have r0 := R5.cell (j := 0) rfl
  have r1 := R5.cell (j := 1) rfl
  have f0 := R5.frozen 0
  have f1 := R5.frozen 1
  have hlt := R5.lt
  clear R0 b0 b4
  go_wp2_with fail
  obtain ⟨R6, hb6⟩ := ret_secret (A := .string ⟨#[]⟩) (B := .string ⟨#[]⟩) (Nat.le_refl _) hb4 R5
  have q0 := R6.cell (j := 0) rfl
  have q1 := R6.cell (j := 1) rfl
  clear r0 r1 f0 f1
  exact bodyPost_ret (v := .tuple #[.agg #[.string ⟨#[]⟩, .string ⟨#[]⟩], .int .i64 50]) (by simp [results, Try.results51, go_sem, q0, q1]) rfl ⟨rfl, hb6⟩

end Go.Proofs.Ytmafbkoneggggaa
