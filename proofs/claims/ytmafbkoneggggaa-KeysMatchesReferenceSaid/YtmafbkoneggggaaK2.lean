/-
  Walks: the key schedule computes the plain functions.
-/
import Derived.Test.YtmafbkoneggggaaK1
namespace Go.Proofs.Ytmafbkoneggggaa
open Go.RowKit

set_option maxRecDepth 100000 in
set_option maxHeartbeats 1000000 in
theorem side_ok (n k c l : ByteArray) (R : List UInt8) (pk pc pl : Nat) (w : World) (hk : Hid (k.size = 16)) (hc : c.size ≤ 8192) (hn : n.size ≤ 8) (hl : l.size ≤ 16)
    (hK : Blk w pk [.string k] 9) (hC : Blk w pc [.string c] 9) (hL : Blk w pl [.string l] 9)
    (hR : Hid (derB k.data.toList (n.data.toList ++ [32] ++ l.data.toList) c.data.toList = R)) :
    Calls Try.prog 57 #[.string n, .pointer (some ⟨pk, 0, none⟩), .pointer (some ⟨pc, 0, none⟩), .pointer (some ⟨pl, 0, none⟩)] w fun e w' => e = .returned (.tuple #[.string ⟨R.toArray⟩, .int .i64 0]) ∧ Below w.heap.size w w' := by
  have c0 := hK.cell (j := 0) rfl
  have c1 := hC.cell (j := 0) rfl
  have c2 := hL.cell (j := 0) rfl
  go_enter Try.func57, Try.ntmps57
  go_wp2_with fail
  have hB := Blk.new w [.string n, .string ⟨#[32]⟩, .string l] 9
  have hb : Below w.heap.size w (w.alloc (.cells #[.string n, .string ⟨#[32]⟩, .string l] 9)) := (Below.refl _ _).alloc (Nat.le_refl _) _
  refine (kderive_3 k c n ⟨#[32]⟩ l R _ _ hk hc hn (by decide) hl hB hR).mono ?_
  rintro e w2 ⟨rfl, b2⟩
  go_wp2_with fail
  go_ret2
  exact ⟨rfl, hb.trans (b2.mono hb.size)⟩

set_option maxRecDepth 100000 in
set_option maxHeartbeats 1000000 in
theorem side_err (n k c l : ByteArray) (pk pc pl : Nat) (w : World) (h : Hid (¬ k.size = 16 ∨ (k.size = 16 ∧ 8192 < c.size)))
    (hK : Blk w pk [.string k] 9) (hC : Blk w pc [.string c] 9) (hL : Blk w pl [.string l] 9) :
    Calls Try.prog 57 #[.string n, .pointer (some ⟨pk, 0, none⟩), .pointer (some ⟨pc, 0, none⟩), .pointer (some ⟨pl, 0, none⟩)] w fun e w' => e = .returned (.tuple #[.string ⟨#[]⟩, .int .i64 50]) ∧ Below w.heap.size w w' := by
  have c0 := hK.cell (j := 0) rfl
  have c1 := hC.cell (j := 0) rfl
  have c2 := hL.cell (j := 0) rfl
  have herr : Hid (∀ v w, Calls Try.prog 46 #[.string k, .string c, v] w fun e w' => e = .returned (.tuple #[.string ⟨#[]⟩, .int .i64 50]) ∧ Below w.heap.size w w') := by
    rcases h.out with h | ⟨h1, h2⟩
    · exact fun v w => kderive_errk k c v w h
    · exact fun v w => kderive_errc k c v w h1 h2
  go_enter Try.func57, Try.ntmps57
  go_wp2_with fail
  have hb : Below w.heap.size w (w.alloc (.cells #[.string n, .string ⟨#[32]⟩, .string l] 9)) := (Below.refl _ _).alloc (Nat.le_refl _) _
  refine (herr.out _ _).mono ?_
  rintro e w2 ⟨rfl, b2⟩
  go_wp2_with fail
  go_ret2
  exact ⟨rfl, hb.trans (b2.mono hb.size)⟩

/-- The two secrets of a level. -/
def cliB (k l c : List UInt8) : List UInt8 := derB k ([99, 108, 105, 101, 110, 116] ++ [32] ++ l) c
def srvB (k l c : List UInt8) : List UInt8 := derB k ([115, 101, 114, 118, 101, 114] ++ [32] ++ l) c

set_option maxRecDepth 100000 in
set_option maxHeartbeats 1000000 in
theorem pair_ok (k l c : ByteArray) (w : World) (hk : Hid (k.size = 16)) (hc : c.size ≤ 8192) (hl : l.size ≤ 16) :
    Calls Try.prog 44 #[.string k, .string l, .string c] w fun e w' => e = .returned (.tuple #[.agg #[.string ⟨(cliB k.data.toList l.data.toList c.data.toList).toArray⟩, .string ⟨(srvB k.data.toList l.data.toList c.data.toList).toArray⟩], .int .i64 0]) ∧ Below w.heap.size w w' := by
  obtain ⟨A, hA⟩ : ∃ A, cliB k.data.toList l.data.toList c.data.toList = A := ⟨_, rfl⟩
  obtain ⟨B, hB⟩ : ∃ B, srvB k.data.toList l.data.toList c.data.toList = B := ⟨_, rfl⟩
  rw [hA, hB]
  have HA : Hid (derB k.data.toList ((⟨#[99, 108, 105, 101, 110, 116]⟩ : ByteArray).data.toList ++ [32] ++ l.data.toList) c.data.toList = A) := hA
  have HB : Hid (derB k.data.toList ((⟨#[115, 101, 114, 118, 101, 114]⟩ : ByteArray).data.toList ++ [32] ++ l.data.toList) c.data.toList = B) := hB
  clear hA hB
  go_enter Try.func44, Try.ntmps44
  go_wp2_with fail
  obtain ⟨W3, hW3⟩ : ∃ W3, (((w.alloc (.cells #[.string k] 9)).alloc (.cells #[.string l] 9)).alloc (.cells #[.string c] 9)).alloc (.cells #[.string ⟨#[]⟩, .string ⟨#[]⟩] 43) = W3 := ⟨_, rfl⟩
  have hb3 : Below w.heap.size w W3 := by rw [← hW3]; exact ((((Below.refl _ _).alloc (Nat.le_refl _) _).alloc (by simp) _).alloc (by simp; omega) _).alloc (by simp; omega) _
  have K3 : Blk W3 w.heap.size [.string k] 9 := by rw [← hW3]; exact (((Blk.new w [.string k] 9).alloc _).alloc _).alloc _
  have L3 : Blk W3 (w.heap.size + 1) [.string l] 9 := by rw [← hW3]; exact ((Blk.newAt _ [.string l] 9 (by simp)).alloc _).alloc _
  have C3 : Blk W3 (w.heap.size + 1 + 1) [.string c] 9 := by rw [← hW3]; exact (Blk.newAt _ [.string c] 9 (by simp)).alloc _
  have R3 : Blk W3 (w.heap.size + 1 + 1 + 1) [.string ⟨#[]⟩, .string ⟨#[]⟩] 43 := by rw [← hW3]; exact Blk.newAt _ [.string ⟨#[]⟩, .string ⟨#[]⟩] 43 (by simp)
  rw [hW3]
  clear hW3
  refine (side_ok ⟨#[99, 108, 105, 101, 110, 116]⟩ k c l A _ _ _ _ hk hc (by decide) hl K3 C3 L3 HA).mono ?_
  rintro e w4 ⟨rfl, b4⟩
  have K4 := K3.kept b4
  have L4 := L3.kept b4
  have C4 := C3.kept b4
  have R4 := R3.kept b4
  have hb4 := hb3.trans (b4.mono hb3.size)
  clear K3 L3 C3 R3 b4 hb3
  go_wp2_with fail
  refine (side_ok ⟨#[115, 101, 114, 118, 101, 114]⟩ k c l B _ _ _ _ hk hc (by decide) hl K4 C4 L4 HB).mono ?_
  rintro e w5 ⟨rfl, b5⟩
  have R5 := R4.kept b5
  have hb5 := hb4.trans (b5.mono hb4.size)
  have r0 := R5.cell (j := 0) rfl
  have r1 := R5.cell (j := 1) rfl
  have f0 := R5.frozen 0
  have f1 := R5.frozen 1
  have hlt := R5.lt
  clear K4 L4 C4 R4 b5 hb4
  go_wp2_with fail
  have R6 := (R5.set 0 (.string ⟨A.toArray⟩)).set 1 (.string ⟨B.toArray⟩)
  have q0 := R6.cell (j := 0) rfl
  have q1 := R6.cell (j := 1) rfl
  clear r0 r1 f0 f1
  refine bodyPost_ret (v := .tuple #[.agg #[.string ⟨A.toArray⟩, .string ⟨B.toArray⟩], .int .i64 0]) (by simp [results, Try.results44, go_sem, q0, q1]) rfl ⟨rfl, ?_⟩
  exact (hb5.setCell (by simp; omega) _).setCell (by simp; omega) _

end Go.Proofs.Ytmafbkoneggggaa
