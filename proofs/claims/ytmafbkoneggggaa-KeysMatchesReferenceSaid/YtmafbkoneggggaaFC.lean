/-
  Walks: the reference's Early, Resumption, Next, Finished and Expand.
-/
import Derived.Test.YtmafbkoneggggaaFB
namespace Go.Proofs.Ytmafbkoneggggaa
open Go.RowKit

set_option maxRecDepth 100000 in
set_option maxHeartbeats 1000000 in
theorem rearly_ok (k c : ByteArray) (R : List UInt8) (w : World) (hk : Hid (k.size = 16)) (hc : c.size ≤ 8192) (hR : Hid (derB k.data.toList [101, 97, 114, 108, 121] c.data.toList = R)) :
    Calls Try.prog 52 #[.string k, .string c] w fun e w' => e = .returned (.tuple #[.string ⟨R.toArray⟩, .int .i64 0]) ∧ Below w.heap.size w w' := by
  have ec : decide ((c.size : Int) ≤ 8192) = true := by rw [decide_eq_true_iff]; omega
  go_enter Try.func52, Try.ntmps52
  go_wp2_with fail
  refine (rd_ok k ⟨#[101, 97, 114, 108, 121]⟩ c R _ hk (by decide) hc hR).mono ?_
  rintro e w1 ⟨rfl, b1⟩
  go_wp2_with fail
  go_ret2
  exact ⟨rfl, b1⟩

set_option maxRecDepth 100000 in
set_option maxHeartbeats 1000000 in
theorem rearly_err (k c : ByteArray) (w : World) (hk : Hid (¬ k.size = 16)) (hc : c.size ≤ 8192) :
    Calls Try.prog 52 #[.string k, .string c] w fun e w' => e = .returned (.tuple #[.string ⟨#[]⟩, .int .i64 50]) ∧ Below w.heap.size w w' := by
  have ec : decide ((c.size : Int) ≤ 8192) = true := by rw [decide_eq_true_iff]; omega
  go_enter Try.func52, Try.ntmps52
  go_wp2_with fail
  refine (rd_errk k ⟨#[101, 97, 114, 108, 121]⟩ c _ hk).mono ?_
  rintro e w1 ⟨rfl, b1⟩
  go_wp2_with fail
  go_ret2
  exact ⟨rfl, b1⟩

set_option maxRecDepth 100000 in
set_option maxHeartbeats 1000000 in
theorem rresum_ok (k c : ByteArray) (R : List UInt8) (w : World) (hk : Hid (k.size = 16)) (hc : c.size ≤ 8192) (hR : Hid (derB k.data.toList [114, 101, 115, 117, 109, 112, 116, 105, 111, 110] c.data.toList = R)) :
    Calls Try.prog 53 #[.string k, .string c] w fun e w' => e = .returned (.tuple #[.string ⟨R.toArray⟩, .int .i64 0]) ∧ Below w.heap.size w w' := by
  have ec : decide ((c.size : Int) ≤ 8192) = true := by rw [decide_eq_true_iff]; omega
  go_enter Try.func53, Try.ntmps53
  go_wp2_with fail
  refine (rd_ok k ⟨#[114, 101, 115, 117, 109, 112, 116, 105, 111, 110]⟩ c R _ hk (by decide) hc hR).mono ?_
  rintro e w1 ⟨rfl, b1⟩
  go_wp2_with fail
  go_ret2
  exact ⟨rfl, b1⟩

set_option maxRecDepth 100000 in
set_option maxHeartbeats 1000000 in
theorem rresum_err (k c : ByteArray) (w : World) (hk : Hid (¬ k.size = 16)) (hc : c.size ≤ 8192) :
    Calls Try.prog 53 #[.string k, .string c] w fun e w' => e = .returned (.tuple #[.string ⟨#[]⟩, .int .i64 50]) ∧ Below w.heap.size w w' := by
  have ec : decide ((c.size : Int) ≤ 8192) = true := by rw [decide_eq_true_iff]; omega
  go_enter Try.func53, Try.ntmps53
  go_wp2_with fail
  refine (rd_errk k ⟨#[114, 101, 115, 117, 109, 112, 116, 105, 111, 110]⟩ c _ hk).mono ?_
  rintro e w1 ⟨rfl, b1⟩
  go_wp2_with fail
  go_ret2
  exact ⟨rfl, b1⟩

set_option maxRecDepth 100000 in
set_option maxHeartbeats 1000000 in
theorem rnext_ok (k : ByteArray) (R : List UInt8) (w : World) (hk : Hid (k.size = 16)) (hR : Hid (derB k.data.toList [110, 101, 120, 116] [] = R)) :
    Calls Try.prog 32 #[.string k] w fun e w' => e = .returned (.tuple #[.string ⟨R.toArray⟩, .int .i64 0]) ∧ Below w.heap.size w w' := by
  go_enter Try.func32, Try.ntmps32
  go_wp2_with fail
  refine (rd_ok k ⟨#[110, 101, 120, 116]⟩ ⟨#[]⟩ R _ hk (by decide) (by decide) hR).mono ?_
  rintro e w1 ⟨rfl, b1⟩
  go_wp2_with fail
  go_ret2
  exact ⟨rfl, b1⟩

set_option maxRecDepth 100000 in
set_option maxHeartbeats 1000000 in
theorem rnext_err (k : ByteArray) (w : World) (hk : Hid (¬ k.size = 16)) :
    Calls Try.prog 32 #[.string k] w fun e w' => e = .returned (.tuple #[.string ⟨#[]⟩, .int .i64 50]) ∧ Below w.heap.size w w' := by
  go_enter Try.func32, Try.ntmps32
  go_wp2_with fail
  refine (rd_errk k ⟨#[110, 101, 120, 116]⟩ ⟨#[]⟩ _ hk).mono ?_
  rintro e w1 ⟨rfl, b1⟩
  go_wp2_with fail
  go_ret2
  exact ⟨rfl, b1⟩

set_option maxRecDepth 100000 in
set_option maxHeartbeats 1000000 in
theorem rfin_ok (k c : ByteArray) (R : List UInt8) (w : World) (hk : Hid (k.size = 16)) (hc : c.size ≤ 8192) (hR : Hid (finB k.data.toList c.data.toList = R)) :
    Calls Try.prog 54 #[.string k, .string c] w fun e w' => e = .returned (.tuple #[.string ⟨R.toArray⟩, .int .i64 0]) ∧ Below w.heap.size w w' := by
  obtain ⟨A, hA⟩ : ∃ A, derB k.data.toList [102, 105, 110, 105, 115, 104, 101, 100] [] = A := ⟨_, rfl⟩
  have hAl : Hid ((⟨A.toArray⟩ : ByteArray).size = 16) := by show A.length = 16; rw [← hA]; exact derB_length _ _ _
  have hR2 : Hid (tagB (⟨A.toArray⟩ : ByteArray).data.toList c.data.toList = R) := by
    show tagB A c.data.toList = R
    rw [← hA]; exact hR
  have HA := Lib.hid hA
  clear hA
  have ec : decide ((c.size : Int) ≤ 8192) = true := by rw [decide_eq_true_iff]; omega
  go_enter Try.func54, Try.ntmps54
  go_wp2_with fail
  refine (rd_ok k ⟨#[102, 105, 110, 105, 115, 104, 101, 100]⟩ ⟨#[]⟩ A _ hk (by decide) (by decide) HA).mono ?_
  rintro e w2 ⟨rfl, b2⟩
  go_wp2_with fail
  refine (tagI_h _ c R _ hAl (by omega) hR2).mono ?_
  rintro e w3 ⟨rfl, b3⟩
  go_wp2_with fail
  go_ret2
  exact ⟨rfl, b2.trans (b3.mono b2.size)⟩

set_option maxRecDepth 100000 in
set_option maxHeartbeats 1000000 in
theorem rfin_err (k c : ByteArray) (w : World) (hk : Hid (¬ k.size = 16)) (hc : c.size ≤ 8192) :
    Calls Try.prog 54 #[.string k, .string c] w fun e w' => e = .returned (.tuple #[.string ⟨#[]⟩, .int .i64 50]) ∧ Below w.heap.size w w' := by
  have ec : decide ((c.size : Int) ≤ 8192) = true := by rw [decide_eq_true_iff]; omega
  go_enter Try.func54, Try.ntmps54
  go_wp2_with fail
  refine (rd_errk k ⟨#[102, 105, 110, 105, 115, 104, 101, 100]⟩ ⟨#[]⟩ _ hk).mono ?_
  rintro e w2 ⟨rfl, b2⟩
  go_wp2_with fail
  go_ret2
  exact ⟨rfl, b2⟩

set_option maxRecDepth 100000 in
set_option maxHeartbeats 2000000 in
theorem rexpand_ok (k : ByteArray) (A B C D : List UInt8) (w : World) (hk : Hid (k.size = 16))
    (hA : Hid (derB k.data.toList [107, 101, 121] [] = A)) (hB : Hid (derB k.data.toList [105, 118] [] = B)) (hC : Hid (derB k.data.toList [109, 97, 99] [] = C)) (hD : Hid (derB k.data.toList [104, 112] [] = D)) :
    Calls Try.prog 30 #[.string k] w fun e w' => e = .returned (.tuple #[.agg #[.string ⟨A.toArray⟩, .string ((⟨B.toArray⟩ : ByteArray).extract 0 8), .string ⟨C.toArray⟩, .string ⟨D.toArray⟩], .int .i64 0]) ∧ Below w.heap.size w w' := by
  have hBl : B.length = 16 := by rw [← hB.out]; exact derB_length _ _ _
  have hb1 : B.length ≤ 16 := by omega
  have hb2 : 16 ≤ B.length := by omega
  clear hBl
  go_enter Try.func30, Try.ntmps30
  go_wp2_with fail
  have R0 := Blk.new w [.string ⟨#[]⟩, .string ⟨#[]⟩, .string ⟨#[]⟩, .string ⟨#[]⟩] 48
  have d0 : Below w.heap.size w (w.alloc (.cells #[.string ⟨#[]⟩, .string ⟨#[]⟩, .string ⟨#[]⟩, .string ⟨#[]⟩] 48)) := (Below.refl _ _).alloc (Nat.le_refl _) _
  refine (rd_ok k ⟨#[107, 101, 121]⟩ ⟨#[]⟩ A _ hk (by decide) (by decide) hA).mono ?_
  rintro e w1 ⟨rfl, b1⟩
  have R1 := R0.kept b1
  have d1 := d0.trans (b1.mono d0.size)
  clear R0 d0 b1
  go_wp2_with fail
  refine (rd_ok k ⟨#[105, 118]⟩ ⟨#[]⟩ B _ hk (by decide) (by decide) hB).mono ?_
  rintro e w2 ⟨rfl, b2⟩
  have R2 := R1.kept b2
  have d2 := d1.trans (b2.mono d1.size)
  clear R1 d1 b2
  go_wp2_with fail
  refine (rd_ok k ⟨#[109, 97, 99]⟩ ⟨#[]⟩ C _ hk (by decide) (by decide) hC).mono ?_
  rintro e w3 ⟨rfl, b3⟩
  have R3 := R2.kept b3
  have d3 := d2.trans (b3.mono d2.size)
  clear R2 d2 b3
  go_wp2_with fail
  refine (rd_ok k ⟨#[104, 112]⟩ ⟨#[]⟩ D _ hk (by decide) (by decide) hD).mono ?_
  rintro e w4 ⟨rfl, b4⟩
  have R4 := R3.kept b4
  have d4 := d3.trans (b4.mono d3.size)
  clear R3 d3 b4
  have r0 := R4.cell (j := 0) rfl
  have f0 := R4.frozen 0
  have r1 := R4.cell (j := 1) rfl
  have f1 := R4.frozen 1
  have r2 := R4.cell (j := 2) rfl
  have f2 := R4.frozen 2
  have r3 := R4.cell (j := 3) rfl
  have f3 := R4.frozen 3
  have hlt := R4.lt
  go_wp2_with fail
  have R5 := (((R4.set 0 (.string ⟨A.toArray⟩)).set 1 (.string ((⟨B.toArray⟩ : ByteArray).extract 0 8))).set 2 (.string ⟨C.toArray⟩)).set 3 (.string ⟨D.toArray⟩)
  have q0 := R5.cell (j := 0) rfl
  have q1 := R5.cell (j := 1) rfl
  have q2 := R5.cell (j := 2) rfl
  have q3 := R5.cell (j := 3) rfl
  clear r0 r1 r2 r3 f0 f1 f2 f3
  refine bodyPost_ret (v := .tuple #[.agg #[.string ⟨A.toArray⟩, .string ((⟨B.toArray⟩ : ByteArray).extract 0 8), .string ⟨C.toArray⟩, .string ⟨D.toArray⟩], .int .i64 0]) (by simp [results, Try.results30, go_sem, q0, q1, q2, q3]) rfl ⟨rfl, ?_⟩
  exact (((d4.setCell (p := ⟨w.heap.size, 0, none⟩) (Nat.le_refl _) _).setCell (p := ⟨w.heap.size, 1, none⟩) (Nat.le_refl _) _).setCell (p := ⟨w.heap.size, 2, none⟩) (Nat.le_refl _) _).setCell (p := ⟨w.heap.size, 3, none⟩) (Nat.le_refl _) _

set_option maxRecDepth 100000 in
set_option maxHeartbeats 2000000 in
theorem rexpand_err (k : ByteArray) (w : World) (hk : Hid (¬ k.size = 16)) :
    Calls Try.prog 30 #[.string k] w fun e w' => e = .returned (.tuple #[.agg #[.string ⟨#[]⟩, .string ⟨#[]⟩, .string ⟨#[]⟩, .string ⟨#[]⟩], .int .i64 50]) ∧ Below w.heap.size w w' := by
  go_enter Try.func30, Try.ntmps30
  go_wp2_with fail
  have R0 := Blk.new w [.string ⟨#[]⟩, .string ⟨#[]⟩, .string ⟨#[]⟩, .string ⟨#[]⟩] 48
  have d0 : Below w.heap.size w (w.alloc (.cells #[.string ⟨#[]⟩, .string ⟨#[]⟩, .string ⟨#[]⟩, .string ⟨#[]⟩] 48)) := (Below.refl _ _).alloc (Nat.le_refl _) _
  refine (rd_errk k ⟨#[107, 101, 121]⟩ ⟨#[]⟩ _ hk).mono ?_
  rintro e w1 ⟨rfl, b1⟩
  have R1 := R0.kept b1
  have d1 := d0.trans (b1.mono d0.size)
  clear R0 d0 b1
  go_wp2_with fail
  refine (rd_errk k ⟨#[105, 118]⟩ ⟨#[]⟩ _ hk).mono ?_
  rintro e w2 ⟨rfl, b2⟩
  have R2 := R1.kept b2
  have d2 := d1.trans (b2.mono d1.size)
  clear R1 d1 b2
  go_wp2_with fail
  refine (rd_errk k ⟨#[109, 97, 99]⟩ ⟨#[]⟩ _ hk).mono ?_
  rintro e w3 ⟨rfl, b3⟩
  have R3 := R2.kept b3
  have d3 := d2.trans (b3.mono d2.size)
  clear R2 d2 b3
  go_wp2_with fail
  refine (rd_errk k ⟨#[104, 112]⟩ ⟨#[]⟩ _ hk).mono ?_
  rintro e w4 ⟨rfl, b4⟩
  have R4 := R3.kept b4
  have d4 := d3.trans (b4.mono d3.size)
  clear R3 d3 b4
  have r0 := R4.cell (j := 0) rfl
  have f0 := R4.frozen 0
  have r1 := R4.cell (j := 1) rfl
  have f1 := R4.frozen 1
  have r2 := R4.cell (j := 2) rfl
  have f2 := R4.frozen 2
  have r3 := R4.cell (j := 3) rfl
  have f3 := R4.frozen 3
  have hlt := R4.lt
  go_wp2_with fail
  have R5 := (((R4.set 0 (.string ⟨#[]⟩)).set 1 (.string ⟨#[]⟩)).set 2 (.string ⟨#[]⟩)).set 3 (.string ⟨#[]⟩)
  have q0 := R5.cell (j := 0) rfl
  have q1 := R5.cell (j := 1) rfl
  have q2 := R5.cell (j := 2) rfl
  have q3 := R5.cell (j := 3) rfl
  clear r0 r1 r2 r3 f0 f1 f2 f3
  refine bodyPost_ret (v := .tuple #[.agg #[.string ⟨#[]⟩, .string ⟨#[]⟩, .string ⟨#[]⟩, .string ⟨#[]⟩], .int .i64 50]) (by simp [results, Try.results30, go_sem, q0, q1, q2, q3]) rfl ⟨rfl, ?_⟩
  exact (((d4.setCell (p := ⟨w.heap.size, 0, none⟩) (Nat.le_refl _) _).setCell (p := ⟨w.heap.size, 1, none⟩) (Nat.le_refl _) _).setCell (p := ⟨w.heap.size, 2, none⟩) (Nat.le_refl _) _).setCell (p := ⟨w.heap.size, 3, none⟩) (Nat.le_refl _) _

end Go.Proofs.Ytmafbkoneggggaa
