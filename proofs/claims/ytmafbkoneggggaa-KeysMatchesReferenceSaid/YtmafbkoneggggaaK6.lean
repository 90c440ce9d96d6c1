/-
  Walks: Expand computes the plain function, for every secret.
-/
import Derived.Deep.Cut
import Derived.Test.YtmafbkoneggggaaK5
namespace Go.Proofs.Ytmafbkoneggggaa
open Go.RowKit

set_option maxRecDepth 100000 in
set_option maxHeartbeats 2000000 in
theorem expand_ok (k : ByteArray) (A B C D : List UInt8) (w : World) (hk : Hid (k.size = 16))
    (hA : Hid (derB k.data.toList [107, 101, 121] [] = A)) (hB : Hid (derB k.data.toList [105, 118] [] = B)) (hC : Hid (derB k.data.toList [109, 97, 99] [] = C)) (hD : Hid (derB k.data.toList [104, 112] [] = D)) :
    Calls Try.prog 26 #[.string k] w fun e w' => e = .returned (.tuple #[.agg #[.string ⟨A.toArray⟩, .string ⟨(B.take 8).toArray⟩, .string ⟨C.toArray⟩, .string ⟨D.toArray⟩], .int .i64 0]) ∧ Below w.heap.size w w' := by
  have hBl : B.length = 16 := by rw [← hB.out]; exact derB_length _ _ _
  have HBl := Lib.hid hBl
  have hb1 : B.length ≤ 16 := by omega
  have hb2 : 16 ≤ B.length := by omega
  clear hBl
  go_enter Try.func26, Try.ntmps26
  go_wp2_with fail
  obtain ⟨W3, hW3⟩ : ∃ W3, ((w.alloc (.cells #[.string k] 9)).alloc (.cells #[.string ⟨#[]⟩, .string ⟨#[]⟩, .string ⟨#[]⟩, .string ⟨#[]⟩] 48)).alloc (.cells #[.int .i64 0] 24) = W3 := ⟨_, rfl⟩
  have hb3 : Below w.heap.size w W3 := by rw [← hW3]; exact (((Below.refl _ _).alloc (Nat.le_refl _) _).alloc (by simp) _).alloc (by simp; omega) _
  have K3 : Blk W3 w.heap.size [.string k] 9 := by rw [← hW3]; exact ((Blk.new w [.string k] 9).alloc _).alloc _
  have R3 : Blk W3 (w.heap.size + 1) [.string ⟨#[]⟩, .string ⟨#[]⟩, .string ⟨#[]⟩, .string ⟨#[]⟩] 48 := by rw [← hW3]; exact (Blk.newAt _ [.string ⟨#[]⟩, .string ⟨#[]⟩, .string ⟨#[]⟩, .string ⟨#[]⟩] 48 (by simp)).alloc _
  have F3 : Blk W3 (w.heap.size + 1 + 1) [.int .i64 0] 24 := by rw [← hW3]; exact Blk.newAt _ [.int .i64 0] 24 (by simp)
  rw [hW3]
  clear hW3
  refine (part_ok k ⟨#[107, 101, 121]⟩ A _ _ _ hk (by decide) K3 hA).mono ?_
  rintro e w4 ⟨rfl, b4⟩
  have K4 := K3.kept b4
  have R4 := R3.kept b4
  have F4 := F3.kept b4
  have d4 := hb3.trans (b4.mono hb3.size)
  clear K3 R3 F3 hb3 b4
  go_wp2_with fail
  refine (part_ok k ⟨#[105, 118]⟩ B _ _ _ hk (by decide) K4 hB).mono ?_
  rintro e w5 ⟨rfl, b5⟩
  have K5 := K4.kept b5
  have R5 := R4.kept b5
  have F5 := F4.kept b5
  have d5 := d4.trans (b5.mono d4.size)
  clear K4 R4 F4 d4 b5
  go_wp2_with fail
  refine (part_ok k ⟨#[109, 97, 99]⟩ C _ _ _ hk (by decide) K5 hC).mono ?_
  rintro e w6 ⟨rfl, b6⟩
  have K6 := K5.kept b6
  have R6 := R5.kept b6
  have F6 := F5.kept b6
  have d6 := d5.trans (b6.mono d5.size)
  clear K5 R5 F5 d5 b6
  go_wp2_with fail
  refine (part_ok k ⟨#[104, 112]⟩ D _ _ _ hk (by decide) K6 hD).mono ?_
  rintro e w7 ⟨rfl, b7⟩
  have R7 := R6.kept b7
  have F7 := F6.kept b7
  have d7 := d6.trans (b7.mono d6.size)
  clear K6 R6 F6 d6 b7
  have f0 := F7.cell (j := 0) rfl
  have hlt := F7.lt
  have hlt2 : w.heap.size + 1 < w7.heap.size := by omega
  go_upto_region 7 with (fail)
  obtain ⟨W8, hW8⟩ : ∃ W8, w7.alloc (.cells #[.string ⟨A.toArray⟩, .string ((⟨B.toArray⟩ : ByteArray).extract 0 8), .string ⟨C.toArray⟩, .string ⟨D.toArray⟩] 48) = W8 := ⟨_, rfl⟩
  have N8 : Blk W8 w7.heap.size [.string ⟨A.toArray⟩, .string ((⟨B.toArray⟩ : ByteArray).extract 0 8), .string ⟨C.toArray⟩, .string ⟨D.toArray⟩] 48 := by rw [← hW8]; exact Blk.new w7 [.string ⟨A.toArray⟩, .string ((⟨B.toArray⟩ : ByteArray).extract 0 8), .string ⟨C.toArray⟩, .string ⟨D.toArray⟩] 48
  have R8 : Blk W8 (w.heap.size + 1) [.string ⟨#[]⟩, .string ⟨#[]⟩, .string ⟨#[]⟩, .string ⟨#[]⟩] 48 := by rw [← hW8]; exact R7.alloc _
  have d8 : Below w.heap.size w W8 := by rw [← hW8]; exact d7.alloc d7.size _
  rw [hW8]
  clear hW8 f0 R7 F7 d7
  have n0 := N8.cell (j := 0) rfl
  have r0 := R8.cell (j := 0) rfl
  have z0 := R8.frozen 0
  have n1 := N8.cell (j := 1) rfl
  have r1 := R8.cell (j := 1) rfl
  have z1 := R8.frozen 1
  have n2 := N8.cell (j := 2) rfl
  have r2 := R8.cell (j := 2) rfl
  have z2 := R8.frozen 2
  have n3 := N8.cell (j := 3) rfl
  have r3 := R8.cell (j := 3) rfl
  have z3 := R8.frozen 3
  go_wp2_with fail
  have R9 := (((R8.set 0 (.string ⟨A.toArray⟩)).set 1 (.string ((⟨B.toArray⟩ : ByteArray).extract 0 8))).set 2 (.string ⟨C.toArray⟩)).set 3 (.string ⟨D.toArray⟩)
  have q0 := R9.cell (j := 0) rfl
  have q1 := R9.cell (j := 1) rfl
  have q2 := R9.cell (j := 2) rfl
  have q3 := R9.cell (j := 3) rfl
  clear n0 n1 n2 n3 r0 r1 r2 r3 z0 z1 z2 z3
  refine bodyPost_ret (v := .tuple #[.agg #[.string ⟨A.toArray⟩, .string ((⟨B.toArray⟩ : ByteArray).extract 0 8), .string ⟨C.toArray⟩, .string ⟨D.toArray⟩], .int .i64 0]) (by simp [results, Try.results26, go_sem, q0, q1, q2, q3]) rfl ⟨?_, ?_⟩
  · rw [ByteArray.extract_mk]; rfl
  · exact (((d8.setCell (p := ⟨w.heap.size + 1, 0, none⟩) (Nat.le_succ _) _).setCell (p := ⟨w.heap.size + 1, 1, none⟩) (Nat.le_succ _) _).setCell (p := ⟨w.heap.size + 1, 2, none⟩) (Nat.le_succ _) _).setCell (p := ⟨w.heap.size + 1, 3, none⟩) (Nat.le_succ _) _

end Go.Proofs.Ytmafbkoneggggaa
