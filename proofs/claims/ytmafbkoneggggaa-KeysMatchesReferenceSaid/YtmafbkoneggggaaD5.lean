/-
  Walks: the block cipher computes the plain function, for every key of 16 and every block of 8 bytes.
-/
import Derived.Test.YtmafbkoneggggaaB2
import Derived.Test.YtmafbkoneggggaaD4
namespace Go.Proofs.Ytmafbkoneggggaa
open Go.RowKit

set_option maxRecDepth 100000 in
set_option maxHeartbeats 1000000 in
theorem parse_any (k b : ByteArray) (w : World) (hk : k.size = 16) (hb : b.size = 8) :
    Calls Try.prog 72 #[.string k, .string b] w fun e w' => e = .returned (.tuple #[schedV (wordAt k.data.toList), stV (wordAt b.data.toList 0, wordAt b.data.toList 1), .bool true]) ∧ Below w.heap.size w w' := by
  have hkl1 : k.size ≤ 16 := by omega
  have hkl2 : 16 ≤ k.size := by omega
  have hbl1 : b.size ≤ 8 := by omega
  have hbl2 : 8 ≤ b.size := by omega
  have HK := Lib.hid hk
  have HB := Lib.hid hb
  clear hk hb
  go_enter Try.func72, Try.ntmps72
  go_wp2_with fail
  obtain ⟨W3, hW3⟩ : ∃ W3, ((w.alloc (.cells #[.int .u32 0, .int .u32 0, .int .u32 0, .int .u32 0] 83)).alloc (.cells #[.int .u32 0, .int .u32 0] 85)) = W3 := ⟨_, rfl⟩
  have hb3 : Below w.heap.size w W3 := by rw [← hW3]; exact ((Below.refl _ _).alloc (Nat.le_refl _) _).alloc (by simp) _
  have B4 : Blk W3 w.heap.size [.int .u32 0, .int .u32 0, .int .u32 0, .int .u32 0] 83 := by rw [← hW3]; exact (Blk.new w [.int .u32 0, .int .u32 0, .int .u32 0, .int .u32 0] 83).alloc _
  have B5 : Blk W3 (w.heap.size + 1) [.int .u32 0, .int .u32 0] 85 := by rw [← hW3]; exact Blk.newAt _ [.int .u32 0, .int .u32 0] 85 (by simp)
  rw [hW3]
  clear hW3
  go_region_with (go_at_call 77; (with_reducible refine (words_4 k _ HK.out).mono ?_); rintro e w1 ⟨rfl, hB, hb⟩; have D4 := B4.drew.kept hb; have D5 := B5.drew.kept hb; have e1 : Below w.heap.size w w1 := hb3.drew.trans (hb.mono hb3.size); have hne : W3.heap.size ≠ w.heap.size := (by have := B4.lt; omega); obtain ⟨W4, hcp, F4, hon⟩ := copy_words (s := W3.heap.size) (n := 4) D4 hB rfl rfl (by simp [Value.oneCell']); have F5 := hon.blk (by omega) D5; have e2 := hon.below (Nat.le_refl _) e1; clear hon)
  go_wp2_with fail
  refine (words_2 b _ HB.out).mono ?_
  rintro e w5 ⟨rfl, hB5, hb5⟩
  have G4 := F4.kept hb5
  have G5 := F5.kept hb5
  have e3 := e2.trans (hb5.mono e2.size)
  have k0 := G4.cell (j := 0) rfl
  have f0 := G4.frozen 0
  have k1 := G4.cell (j := 1) rfl
  have f1 := G4.frozen 1
  have k2 := G4.cell (j := 2) rfl
  have f2 := G4.frozen 2
  have k3 := G4.cell (j := 3) rfl
  have f3 := G4.frozen 3
  have s0 := G5.cell (j := 0) rfl
  have g0 := G5.frozen 0
  have x0 := hB5.cell (j := 0) rfl
  have s1 := G5.cell (j := 1) rfl
  have g1 := G5.frozen 1
  have x1 := hB5.cell (j := 1) rfl
  have hsz4 : w.heap.size + 1 < W4.heap.size := F5.lt
  go_wp2_with fail
  go_region
  go_wp2
  have H4 := ((((((G4.set 0 (.int .u32 (wordAt k.data.toList 0))).set 1 (.int .u32 (wordAt k.data.toList 1))).set 2 (.int .u32 (wordAt k.data.toList 2))).set 3 (.int .u32 (wordAt k.data.toList 3))).other (a := w.heap.size + 1) (by omega) 0 (.int .u32 (wordAt b.data.toList 0))).other (a := w.heap.size + 1) (by omega) 1 (.int .u32 (wordAt b.data.toList 1))).drew
  have H5 := ((((((G5.other (a := w.heap.size) (by omega) 0 (.int .u32 (wordAt k.data.toList 0))).other (a := w.heap.size) (by omega) 1 (.int .u32 (wordAt k.data.toList 1))).other (a := w.heap.size) (by omega) 2 (.int .u32 (wordAt k.data.toList 2))).other (a := w.heap.size) (by omega) 3 (.int .u32 (wordAt k.data.toList 3))).set 0 (.int .u32 (wordAt b.data.toList 0))).set 1 (.int .u32 (wordAt b.data.toList 1))).drew
  clear k0 k1 k2 k3 f0 f1 f2 f3 s0 s1 g0 g1 x0 x1
  have q0 := H4.cell (j := 0) rfl
  have q1 := H4.cell (j := 1) rfl
  have q2 := H4.cell (j := 2) rfl
  have q3 := H4.cell (j := 3) rfl
  have r0 := H5.cell (j := 0) rfl
  have r1 := H5.cell (j := 1) rfl
  refine bodyPost_ret (v := .tuple #[.agg #[(.int .u32 (wordAt k.data.toList 0)), (.int .u32 (wordAt k.data.toList 1)), (.int .u32 (wordAt k.data.toList 2)), (.int .u32 (wordAt k.data.toList 3))], .agg #[(.int .u32 (wordAt b.data.toList 0)), (.int .u32 (wordAt b.data.toList 1))], .bool true]) (by simp [results, Try.results72, go_sem, q0, q1, q2, q3, r0, r1]) rfl ⟨rfl, ?_⟩
  exact ((((((e3.setCell (p := ⟨w.heap.size, 0, none⟩) (Nat.le_refl _) _).setCell (p := ⟨w.heap.size, 1, none⟩) (Nat.le_refl _) _).setCell (p := ⟨w.heap.size, 2, none⟩) (Nat.le_refl _) _).setCell (p := ⟨w.heap.size, 3, none⟩) (Nat.le_refl _) _).setCell (p := ⟨w.heap.size + 1, 0, none⟩) (by simp) _).setCell (p := ⟨w.heap.size + 1, 1, none⟩) (by simp) _).drew

end Go.Proofs.Ytmafbkoneggggaa
