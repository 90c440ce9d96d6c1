/-
  Walks: the functions of package keys compute the plain functions, where their arguments are in order and where they are not.
-/
import Derived.Test.YtmafbkoneggggaaK3
namespace Go.Proofs.Ytmafbkoneggggaa
open Go.RowKit

set_option maxRecDepth 100000 in
set_option maxHeartbeats 1000000 in
theorem app_err (k c : ByteArray) (w : World) (h : Hid (¬ k.size = 16 ∨ (k.size = 16 ∧ 8192 < c.size))) :
    Calls Try.prog 28 #[.string k, .string c] w fun e w' => e = .returned (.tuple #[.agg #[.string ⟨#[]⟩, .string ⟨#[]⟩], .int .i64 50]) ∧ Below w.heap.size w w' := by
  go_enter Try.func28, Try.ntmps28
  go_wp2_with fail
  have R0 := Blk.new w [.string ⟨#[]⟩, .string ⟨#[]⟩] 43
  have b0 : Below w.heap.size w (w.alloc (.cells #[.string ⟨#[]⟩, .string ⟨#[]⟩] 43)) := (Below.refl _ _).alloc (Nat.le_refl _) _
  refine (pair_err k ⟨#[97, 112, 112]⟩ c _ h).mono ?_
  rintro e w4 ⟨rfl, b4⟩
  have R5 := R0.kept b4
  have hb4 := b0.trans (b4.mono b0.size)
  have r0 := R5.cell (j := 0) rfl
  have r1 := R5.cell (j := 1) rfl
  have f0 := R5.frozen 0
  have f1 := R5.frozen 1
  have hlt := R5.lt
  clear R0 b0 b4
  go_wp2_with fail
  obtain ⟨R6, hb6⟩ := ret_secret (A := .string ⟨#[]⟩) (B := .string ⟨#[]⟩) (Nat.le_refl _) hb4 R5
  have q0 := R6.cell (j := 0) rfl
  have q1 := R6.cell (j := 1) rfl
  clear r0 r1 f0 f1
  exact bodyPost_ret (v := .tuple #[.agg #[.string ⟨#[]⟩, .string ⟨#[]⟩], .int .i64 50]) (by simp [results, Try.results28, go_sem, q0, q1]) rfl ⟨rfl, hb6⟩

set_option maxRecDepth 100000 in
set_option maxHeartbeats 1000000 in
theorem hs_ok (k c : ByteArray) (A B : List UInt8) (w : World) (hk : Hid (k.size = 16)) (hc : c.size ≤ 8192)
    (hA : Hid (cliB k.data.toList [104, 97, 110, 100, 115, 104, 97, 107, 101] c.data.toList = A)) (hB : Hid (srvB k.data.toList [104, 97, 110, 100, 115, 104, 97, 107, 101] c.data.toList = B)) :
    Calls Try.prog 29 #[.string k, .string c] w fun e w' => e = .returned (.tuple #[.agg #[.string ⟨A.toArray⟩, .string ⟨B.toArray⟩], .int .i64 0]) ∧ Below w.heap.size w w' := by
  go_enter Try.func29, Try.ntmps29
  go_wp2_with fail
  have R0 := Blk.new w [.string ⟨#[]⟩, .string ⟨#[]⟩] 43
  have b0 : Below w.heap.size w (w.alloc (.cells #[.string ⟨#[]⟩, .string ⟨#[]⟩] 43)) := (Below.refl _ _).alloc (Nat.le_refl _) _
  refine (pair_h k ⟨#[104, 97, 110, 100, 115, 104, 97, 107, 101]⟩ c A B _ hk hc (by decide) hA hB).mono ?_
  rintro e w4 ⟨rfl, b4⟩
  have R5 := R0.kept b4
  have hb4 := b0.trans (b4.mono b0.size)
  have r0 := R5.cell (j := 0) rfl
  have r1 := R5.cell (j := 1) rfl
  have f0 := R5.frozen 0
  have f1 := R5.frozen 1
  have hlt := R5.lt
  clear R0 b0 b4
  go_wp2_with fail
  obtain ⟨R6, hb6⟩ := ret_secret (A := .string ⟨A.toArray⟩) (B := .string ⟨B.toArray⟩) (Nat.le_refl _) hb4 R5
  have q0 := R6.cell (j := 0) rfl
  have q1 := R6.cell (j := 1) rfl
  clear r0 r1 f0 f1
  exact bodyPost_ret (v := .tuple #[.agg #[.string ⟨A.toArray⟩, .string ⟨B.toArray⟩], .int .i64 0]) (by simp [results, Try.results29, go_sem, q0, q1]) rfl ⟨rfl, hb6⟩

set_option maxRecDepth 100000 in
set_option maxHeartbeats 1000000 in
theorem hs_err (k c : ByteArray) (w : World) (h : Hid (¬ k.size = 16 ∨ (k.size = 16 ∧ 8192 < c.size))) :
    Calls Try.prog 29 #[.string k, .string c] w fun e w' => e = .returned (.tuple #[.agg #[.string ⟨#[]⟩, .string ⟨#[]⟩], .int .i64 50]) ∧ Below w.heap.size w w' := by
  go_enter Try.func29, Try.ntmps29
  go_wp2_with fail
  have R0 := Blk.new w [.string ⟨#[]⟩, .string ⟨#[]⟩] 43
  have b0 : Below w.heap.size w (w.alloc (.cells #[.string ⟨#[]⟩, .string ⟨#[]⟩] 43)) := (Below.refl _ _).alloc (Nat.le_refl _) _
  refine (pair_err k ⟨#[104, 97, 110, 100, 115, 104, 97, 107, 101]⟩ c _ h).mono ?_
  rintro e w4 ⟨rfl, b4⟩
  have R5 := R0.kept b4
  have hb4 := b0.trans (b4.mono b0.size)
  have r0 := R5.cell (j := 0) rfl
  have r1 := R5.cell (j := 1) rfl
  have f0 := R5.frozen 0
  have f1 := R5.frozen 1
  have hlt := R5.lt
  clear R0 b0 b4
  go_wp2_with fail
  obtain ⟨R6, hb6⟩ := ret_secret (A := .string ⟨#[]⟩) (B := .string ⟨#[]⟩) (Nat.le_refl _) hb4 R5
  have q0 := R6.cell (j := 0) rfl
  have q1 := R6.cell (j := 1) rfl
  clear r0 r1 f0 f1
  exact bodyPost_ret (v := .tuple #[.agg #[.string ⟨#[]⟩, .string ⟨#[]⟩], .int .i64 50]) (by simp [results, Try.results29, go_sem, q0, q1]) rfl ⟨rfl, hb6⟩

set_option maxRecDepth 100000 in
set_option maxHeartbeats 1000000 in
theorem init_ok (k c : ByteArray) (A B : List UInt8) (w : World) (hk : Hid (k.size = 16)) (hc8 : Hid (c.size = 8))
    (hA : Hid (cliB k.data.toList [105, 110, 105, 116, 105, 97, 108] c.data.toList = A)) (hB : Hid (srvB k.data.toList [105, 110, 105, 116, 105, 97, 108] c.data.toList = B)) :
    Calls Try.prog 25 #[.string k, .string c] w fun e w' => e = .returned (.tuple #[.agg #[.string ⟨A.toArray⟩, .string ⟨B.toArray⟩], .int .i64 0]) ∧ Below w.heap.size w w' := by
  have hc : c.size ≤ 8 := by have := hc8.out; omega
  have hc2 : 8 ≤ c.size := by have := hc8.out; omega
  go_enter Try.func25, Try.ntmps25
  go_wp2_with fail
  have R0 := Blk.new w [.string ⟨#[]⟩, .string ⟨#[]⟩] 43
  have b0 : Below w.heap.size w (w.alloc (.cells #[.string ⟨#[]⟩, .string ⟨#[]⟩] 43)) := (Below.refl _ _).alloc (Nat.le_refl _) _
  refine (pair_h k ⟨#[105, 110, 105, 116, 105, 97, 108]⟩ c A B _ hk (by omega) (by decide) hA hB).mono ?_
  rintro e w4 ⟨rfl, b4⟩
  have R5 := R0.kept b4
  have hb4 := b0.trans (b4.mono b0.size)
  have r0 := R5.cell (j := 0) rfl
  have r1 := R5.cell (j := 1) rfl
  have f0 := R5.frozen 0
  have f1 := R5.frozen 1
  have hlt := R5.lt
  clear R0 b0 b4
  go_wp2_with fail
  obtain ⟨R6, hb6⟩ := ret_secret (A := .string ⟨A.toArray⟩) (B := .string ⟨B.toArray⟩) (Nat.le_refl _) hb4 R5
  have q0 := R6.cell (j := 0) rfl
  have q1 := R6.cell (j := 1) rfl
  clear r0 r1 f0 f1
  exact bodyPost_ret (v := .tuple #[.agg #[.string ⟨A.toArray⟩, .string ⟨B.toArray⟩], .int .i64 0]) (by simp [results, Try.results25, go_sem, q0, q1]) rfl ⟨rfl, hb6⟩

set_option maxRecDepth 100000 in
set_option maxHeartbeats 1000000 in
theorem init_err (k c : ByteArray) (w : World) (hc8 : Hid (c.size = 8)) (h : Hid (¬ k.size = 16 ∨ (k.size = 16 ∧ 8192 < c.size))) :
    Calls Try.prog 25 #[.string k, .string c] w fun e w' => e = .returned (.tuple #[.agg #[.string ⟨#[]⟩, .string ⟨#[]⟩], .int .i64 50]) ∧ Below w.heap.size w w' := by
  have hc : c.size ≤ 8 := by have := hc8.out; omega
  have hc2 : 8 ≤ c.size := by have := hc8.out; omega
  go_enter Try.func25, Try.ntmps25
  go_wp2_with fail
  have R0 := Blk.new w [.string ⟨#[]⟩, .string ⟨#[]⟩] 43
  have b0 : Below w.heap.size w (w.alloc (.cells #[.string ⟨#[]⟩, .string ⟨#[]⟩] 43)) := (Below.refl _ _).alloc (Nat.le_refl _) _
  refine (pair_err k ⟨#[105, 110, 105, 116, 105, 97, 108]⟩ c _ h).mono ?_
  rintro e w4 ⟨rfl, b4⟩
  have R5 := R0.kept b4
  have hb4 := b0.trans (b4.mono b0.size)
  have r0 := R5.cell (j := 0) rfl
  have r1 := R5.cell (j := 1) rfl
  have f0 := R5.frozen 0
  have f1 := R5.frozen 1
  have hlt := R5.lt
  clear R0 b0 b4
  go_wp2_with fail
  obtain ⟨R6, hb6⟩ := ret_secret (A := .string ⟨#[]⟩) (B := .string ⟨#[]⟩) (Nat.le_refl _) hb4 R5
  have q0 := R6.cell (j := 0) rfl
  have q1 := R6.cell (j := 1) rfl
  clear r0 r1 f0 f1
  exact bodyPost_ret (v := .tuple #[.agg #[.string ⟨#[]⟩, .string ⟨#[]⟩], .int .i64 50]) (by simp [results, Try.results25, go_sem, q0, q1]) rfl ⟨rfl, hb6⟩

set_option maxRecDepth 100000 in
set_option maxHeartbeats 1000000 in
theorem early_ok (k c : ByteArray) (R : List UInt8) (w : World) (hk : Hid (k.size = 16)) (hc : c.size ≤ 8192) (hR : Hid (derB k.data.toList [101, 97, 114, 108, 121] c.data.toList = R)) :
    Calls Try.prog 37 #[.string k, .string c] w fun e w' => e = .returned (.tuple #[.string ⟨R.toArray⟩, .int .i64 0]) ∧ Below w.heap.size w w' := by
  go_enter Try.func37, Try.ntmps37
  go_wp2_with fail
  have hb : Below w.heap.size w (w.alloc (.cells #[.string ⟨#[101, 97, 114, 108, 121]⟩] 9)) := (Below.refl _ _).alloc (Nat.le_refl _) _
  have B0 := Blk.new w [.string ⟨#[101, 97, 114, 108, 121]⟩] 9
  refine (kderive_1 k c ⟨#[101, 97, 114, 108, 121]⟩ R _ _ hk hc (by decide) B0 hR).mono ?_
  rintro e w2 ⟨rfl, b2⟩
  go_wp2_with fail
  go_ret2
  exact ⟨rfl, hb.trans (b2.mono hb.size)⟩

set_option maxRecDepth 100000 in
set_option maxHeartbeats 1000000 in
theorem early_err (k c : ByteArray) (w : World) (h : Hid (¬ k.size = 16 ∨ (k.size = 16 ∧ 8192 < c.size))) :
    Calls Try.prog 37 #[.string k, .string c] w fun e w' => e = .returned (.tuple #[.string ⟨#[]⟩, .int .i64 50]) ∧ Below w.heap.size w w' := by
  have herr : Hid (∀ v w, Calls Try.prog 46 #[.string k, .string c, v] w fun e w' => e = .returned (.tuple #[.string ⟨#[]⟩, .int .i64 50]) ∧ Below w.heap.size w w') := by
    rcases h.out with h | ⟨h1, h2⟩
    · exact fun v w => kderive_errk k c v w h
    · exact fun v w => kderive_errc k c v w h1 h2
  go_enter Try.func37, Try.ntmps37
  go_wp2_with fail
  have hb : Below w.heap.size w (w.alloc (.cells #[.string ⟨#[101, 97, 114, 108, 121]⟩] 9)) := (Below.refl _ _).alloc (Nat.le_refl _) _
  refine (herr.out _ _).mono ?_
  rintro e w2 ⟨rfl, b2⟩
  go_wp2_with fail
  go_ret2
  exact ⟨rfl, hb.trans (b2.mono hb.size)⟩

set_option maxRecDepth 100000 in
set_option maxHeartbeats 1000000 in
theorem resum_ok (k c : ByteArray) (R : List UInt8) (w : World) (hk : Hid (k.size = 16)) (hc : c.size ≤ 8192) (hR : Hid (derB k.data.toList [114, 101, 115, 117, 109, 112, 116, 105, 111, 110] c.data.toList = R)) :
    Calls Try.prog 38 #[.string k, .string c] w fun e w' => e = .returned (.tuple #[.string ⟨R.toArray⟩, .int .i64 0]) ∧ Below w.heap.size w w' := by
  go_enter Try.func38, Try.ntmps38
  go_wp2_with fail
  have hb : Below w.heap.size w (w.alloc (.cells #[.string ⟨#[114, 101, 115, 117, 109, 112, 116, 105, 111, 110]⟩] 9)) := (Below.refl _ _).alloc (Nat.le_refl _) _
  have B0 := Blk.new w [.string ⟨#[114, 101, 115, 117, 109, 112, 116, 105, 111, 110]⟩] 9
  refine (kderive_1 k c ⟨#[114, 101, 115, 117, 109, 112, 116, 105, 111, 110]⟩ R _ _ hk hc (by decide) B0 hR).mono ?_
  rintro e w2 ⟨rfl, b2⟩
  go_wp2_with fail
  go_ret2
  exact ⟨rfl, hb.trans (b2.mono hb.size)⟩

set_option maxRecDepth 100000 in
set_option maxHeartbeats 1000000 in
theorem resum_err (k c : ByteArray) (w : World) (h : Hid (¬ k.size = 16 ∨ (k.size = 16 ∧ 8192 < c.size))) :
    Calls Try.prog 38 #[.string k, .string c] w fun e w' => e = .returned (.tuple #[.string ⟨#[]⟩, .int .i64 50]) ∧ Below w.heap.size w w' := by
  have herr : Hid (∀ v w, Calls Try.prog 46 #[.string k, .string c, v] w fun e w' => e = .returned (.tuple #[.string ⟨#[]⟩, .int .i64 50]) ∧ Below w.heap.size w w') := by
    rcases h.out with h | ⟨h1, h2⟩
    · exact fun v w => kderive_errk k c v w h
    · exact fun v w => kderive_errc k c v w h1 h2
  go_enter Try.func38, Try.ntmps38
  go_wp2_with fail
  have hb : Below w.heap.size w (w.alloc (.cells #[.string ⟨#[114, 101, 115, 117, 109, 112, 116, 105, 111, 110]⟩] 9)) := (Below.refl _ _).alloc (Nat.le_refl _) _
  refine (herr.out _ _).mono ?_
  rintro e w2 ⟨rfl, b2⟩
  go_wp2_with fail
  go_ret2
  exact ⟨rfl, hb.trans (b2.mono hb.size)⟩

set_option maxRecDepth 100000 in
set_option maxHeartbeats 1000000 in
theorem next_ok (k : ByteArray) (R : List UInt8) (w : World) (hk : Hid (k.size = 16)) (hR : Hid (derB k.data.toList [110, 101, 120, 116] [] = R)) :
    Calls Try.prog 31 #[.string k] w fun e w' => e = .returned (.tuple #[.string ⟨R.toArray⟩, .int .i64 0]) ∧ Below w.heap.size w w' := by
  go_enter Try.func31, Try.ntmps31
  go_wp2_with fail
  have hb : Below w.heap.size w (w.alloc (.cells #[.string ⟨#[110, 101, 120, 116]⟩] 9)) := (Below.refl _ _).alloc (Nat.le_refl _) _
  have B0 := Blk.new w [.string ⟨#[110, 101, 120, 116]⟩] 9
  refine (kderive_1 k ⟨#[]⟩ ⟨#[110, 101, 120, 116]⟩ R _ _ hk (by decide) (by decide) B0 hR).mono ?_
  rintro e w2 ⟨rfl, b2⟩
  go_wp2_with fail
  go_ret2
  exact ⟨rfl, hb.trans (b2.mono hb.size)⟩

set_option maxRecDepth 100000 in
set_option maxHeartbeats 1000000 in
theorem next_err (k : ByteArray) (w : World) (h : Hid (¬ k.size = 16)) :
    Calls Try.prog 31 #[.string k] w fun e w' => e = .returned (.tuple #[.string ⟨#[]⟩, .int .i64 50]) ∧ Below w.heap.size w w' := by
  have herr : Hid (∀ v w, Calls Try.prog 46 #[.string k, .string ⟨#[]⟩, v] w fun e w' => e = .returned (.tuple #[.string ⟨#[]⟩, .int .i64 50]) ∧ Below w.heap.size w w') := by
    exact fun v w => kderive_errk k _ v w h.out
  go_enter Try.func31, Try.ntmps31
  go_wp2_with fail
  have hb : Below w.heap.size w (w.alloc (.cells #[.string ⟨#[110, 101, 120, 116]⟩] 9)) := (Below.refl _ _).alloc (Nat.le_refl _) _
  refine (herr.out _ _).mono ?_
  rintro e w2 ⟨rfl, b2⟩
  go_wp2_with fail
  go_ret2
  exact ⟨rfl, hb.trans (b2.mono hb.size)⟩

end Go.Proofs.Ytmafbkoneggggaa
