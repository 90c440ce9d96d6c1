/-
  Walks: the reference's derive and pair of chapter 5.
-/
import Derived.Test.YtmafbkoneggggaaF9
import Derived.Test.YtmafbkoneggggaaS1
namespace Go.Proofs.Ytmafbkoneggggaa
open Go.RowKit

set_option maxRecDepth 100000 in
set_option maxHeartbeats 1000000 in
theorem rd_ok (k l c : ByteArray) (R : List UInt8) (w : World) (hk : Hid (k.size = 16)) (hl : l.size ≤ 32) (hc : c.size ≤ 8192) (hR : Hid (derB k.data.toList l.data.toList c.data.toList = R)) :
    Calls Try.prog 48 #[.string k, .string l, .string c, .bool true] w fun e w' => e = .returned (.tuple #[.string ⟨R.toArray⟩, .int .i64 0]) ∧ Below w.heap.size w w' := by
  have hk1 : k.size ≤ 16 := by have := hk.out; omega
  have hk2 : 16 ≤ k.size := by have := hk.out; omega
  go_enter Try.func48, Try.ntmps48
  go_wp2_with fail
  refine (deriveI_h k l c R _ hk hl hc hR).mono ?_
  rintro e w1 ⟨rfl, b1⟩
  go_wp2_with fail
  go_ret2
  exact ⟨rfl, b1⟩

set_option maxRecDepth 100000 in
set_option maxHeartbeats 1000000 in
theorem rd_errk (k l c : ByteArray) (w : World) (hk : Hid (¬ k.size = 16)) :
    Calls Try.prog 48 #[.string k, .string l, .string c, .bool true] w fun e w' => e = .returned (.tuple #[.string ⟨#[]⟩, .int .i64 50]) ∧ Below w.heap.size w w' := by
  have h1 : ((k.size : Int) != 16) = true := by rw [bne_iff_ne]; have := hk.out; omega
  go_enter Try.func48, Try.ntmps48
  go_wp2_with fail
  go_ret2
  exact ⟨rfl, Below.refl _ _⟩

set_option maxRecDepth 100000 in
set_option maxHeartbeats 1000000 in
theorem rd_no (k l c : ByteArray) (w : World) :
    Calls Try.prog 48 #[.string k, .string l, .string c, .bool false] w fun e w' => e = .returned (.tuple #[.string ⟨#[]⟩, .int .i64 50]) ∧ Below w.heap.size w w' := by
  go_enter Try.func48, Try.ntmps48
  go_wp2_with fail
  go_ret2
  exact ⟨rfl, Below.refl _ _⟩

/-- What makes the reference's derive refuse. -/
def Refuses (b : Bool) (k : ByteArray) : Prop := b = false ∨ ¬ k.size = 16

theorem rd_err (k l c : ByteArray) (b : Bool) (w : World) (h : Refuses b k) :
    Calls Try.prog 48 #[.string k, .string l, .string c, .bool b] w fun e w' => e = .returned (.tuple #[.string ⟨#[]⟩, .int .i64 50]) ∧ Below w.heap.size w w' := by
  cases b with
  | false => exact rd_no k l c w
  | true =>
    rcases h with h | h
    · cases h
    · exact rd_errk k l c w (Lib.hid h)

set_option maxRecDepth 100000 in
set_option maxHeartbeats 2000000 in
theorem rpair_ok (k l c : ByteArray) (A B : List UInt8) (w : World) (hk : Hid (k.size = 16)) (hl : l.size ≤ 16) (hc : c.size ≤ 8192)
    (hA : Hid (cliB k.data.toList l.data.toList c.data.toList = A)) (hB : Hid (srvB k.data.toList l.data.toList c.data.toList = B)) :
    Calls Try.prog 49 #[.string k, .string l, .string c, .bool true] w fun e w' => e = .returned (.tuple #[.agg #[.string ⟨A.toArray⟩, .string ⟨B.toArray⟩], .int .i64 0]) ∧ Below w.heap.size w w' := by
  have hA2 : Hid (derB k.data.toList ((⟨#[99, 108, 105, 101, 110, 116, 32]⟩ : ByteArray) ++ l).data.toList c.data.toList = A) := by
    have e : ((⟨#[99, 108, 105, 101, 110, 116, 32]⟩ : ByteArray) ++ l).data.toList = [99, 108, 105, 101, 110, 116] ++ [32] ++ l.data.toList := by simp
    rw [e]; exact hA
  have hB2 : Hid (derB k.data.toList ((⟨#[115, 101, 114, 118, 101, 114, 32]⟩ : ByteArray) ++ l).data.toList c.data.toList = B) := by
    have e : ((⟨#[115, 101, 114, 118, 101, 114, 32]⟩ : ByteArray) ++ l).data.toList = [115, 101, 114, 118, 101, 114] ++ [32] ++ l.data.toList := by simp
    rw [e]; exact hB
  have hs1 : Hid (((⟨#[99, 108, 105, 101, 110, 116, 32]⟩ : ByteArray) ++ l).size ≤ 32) := Lib.hid (by rw [ByteArray.size_append]; have : (⟨#[99, 108, 105, 101, 110, 116, 32]⟩ : ByteArray).size = 7 := rfl; omega)
  have hs2 : Hid (((⟨#[115, 101, 114, 118, 101, 114, 32]⟩ : ByteArray) ++ l).size ≤ 32) := Lib.hid (by rw [ByteArray.size_append]; have : (⟨#[115, 101, 114, 118, 101, 114, 32]⟩ : ByteArray).size = 7 := rfl; omega)
  go_enter Try.func49, Try.ntmps49
  go_wp2_with fail
  have R0 := Blk.new w [.string ⟨#[]⟩, .string ⟨#[]⟩] 43
  have b0 : Below w.heap.size w (w.alloc (.cells #[.string ⟨#[]⟩, .string ⟨#[]⟩] 43)) := (Below.refl _ _).alloc (Nat.le_refl _) _
  refine (rd_ok k _ c A _ hk hs1.out hc hA2).mono ?_
  rintro e w4 ⟨rfl, b4⟩
  have R5 := R0.kept b4
  have d4 := b0.trans (b4.mono b0.size)
  clear R0 b0 b4
  go_wp2_with fail
  refine (rd_ok k _ c B _ hk hs2.out hc hB2).mono ?_
  rintro e w5 ⟨rfl, b5⟩
  have R6 := R5.kept b5
  have d5 := d4.trans (b5.mono d4.size)
  clear R5 d4 b5
  have r0 := R6.cell (j := 0) rfl
  have r1 := R6.cell (j := 1) rfl
  have f0 := R6.frozen 0
  have f1 := R6.frozen 1
  have hlt := R6.lt
  go_wp2_with fail
  obtain ⟨R7, hb7⟩ := ret_secret (A := .string ⟨A.toArray⟩) (B := .string ⟨B.toArray⟩) (Nat.le_refl _) d5 R6
  have q0 := R7.cell (j := 0) rfl
  have q1 := R7.cell (j := 1) rfl
  clear r0 r1 f0 f1
  exact bodyPost_ret (v := .tuple #[.agg #[.string ⟨A.toArray⟩, .string ⟨B.toArray⟩], .int .i64 0]) (by simp [results, Try.results49, go_sem, q0, q1]) rfl ⟨rfl, hb7⟩

set_option maxRecDepth 100000 in
set_option maxHeartbeats 2000000 in
theorem rpair_err (k l c : ByteArray) (b : Bool) (w : World) (hl : l.size ≤ 16) (h : Hid (Refuses b k)) :
    Calls Try.prog 49 #[.string k, .string l, .string c, .bool b] w fun e w' => e = .returned (.tuple #[.agg #[.string ⟨#[]⟩, .string ⟨#[]⟩], .int .i64 50]) ∧ Below w.heap.size w w' := by
  go_enter Try.func49, Try.ntmps49
  go_wp2_with fail
  have R0 := Blk.new w [.string ⟨#[]⟩, .string ⟨#[]⟩] 43
  have b0 : Below w.heap.size w (w.alloc (.cells #[.string ⟨#[]⟩, .string ⟨#[]⟩] 43)) := (Below.refl _ _).alloc (Nat.le_refl _) _
  refine (rd_err k _ c b _ h.out).mono ?_
  rintro e w4 ⟨rfl, b4⟩
  have R5 := R0.kept b4
  have d4 := b0.trans (b4.mono b0.size)
  clear R0 b0 b4
  go_wp2_with fail
  refine (rd_err k _ c b _ h.out).mono ?_
  rintro e w5 ⟨rfl, b5⟩
  have R6 := R5.kept b5
  have d5 := d4.trans (b5.mono d4.size)
  clear R5 d4 b5
  have r0 := R6.cell (j := 0) rfl
  have r1 := R6.cell (j := 1) rfl
  have f0 := R6.frozen 0
  have f1 := R6.frozen 1
  have hlt := R6.lt
  go_wp2_with fail
  obtain ⟨R7, hb7⟩ := ret_secret (A := .string ⟨#[]⟩) (B := .string ⟨#[]⟩) (Nat.le_refl _) d5 R6
  have q0 := R7.cell (j := 0) rfl
  have q1 := R7.cell (j := 1) rfl
  clear r0 r1 f0 f1
  exact bodyPost_ret (v := .tuple #[.agg #[.string ⟨#[]⟩, .string ⟨#[]⟩], .int .i64 50]) (by simp [results, Try.results49, go_sem, q0, q1]) rfl ⟨rfl, hb7⟩

end Go.Proofs.Ytmafbkoneggggaa
