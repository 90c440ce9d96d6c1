/-
  Walks: the functions of package keys compute the plain functions, where their arguments are in order and where they are not.
-/
import Derived.Test.YtmafbkoneggggaaK4
namespace Go.Proofs.Ytmafbkoneggggaa
open Go.RowKit

set_option maxRecDepth 100000 in
set_option maxHeartbeats 1000000 in
theorem init_size (k c : ByteArray) (w : World) (h : ¬ c.size = 8) :
    Calls Try.prog 25 #[.string k, .string c] w fun e w' => e = .returned (.tuple #[.agg #[.string ⟨#[]⟩, .string ⟨#[]⟩], .int .i64 50]) ∧ Below w.heap.size w w' := by
  have h1 : ((c.size : Int) != 8) = true := by rw [bne_iff_ne]; omega
  go_enter Try.func25, Try.ntmps25
  go_wp2_with fail
  exact bodyPost_ret (v := .tuple #[.agg #[.string ⟨#[]⟩, .string ⟨#[]⟩], .int .i64 50]) (by simp [results, Try.results25, go_sem]) rfl ⟨rfl, (Below.refl _ _).alloc (Nat.le_refl _) _⟩

/-- The tag of a transcript. -/
def finB (k c : List UInt8) : List UInt8 := tagB (derB k [102, 105, 110, 105, 115, 104, 101, 100] []) c

set_option maxRecDepth 100000 in
set_option maxHeartbeats 1000000 in
theorem fin_ok (k c : ByteArray) (R : List UInt8) (w : World) (hk : Hid (k.size = 16)) (hc : c.size ≤ 8192) (hR : Hid (finB k.data.toList c.data.toList = R)) :
    Calls Try.prog 36 #[.string k, .string c] w fun e w' => e = .returned (.tuple #[.string ⟨R.toArray⟩, .int .i64 0]) ∧ Below w.heap.size w w' := by
  obtain ⟨A, hA⟩ : ∃ A, derB k.data.toList [102, 105, 110, 105, 115, 104, 101, 100] [] = A := ⟨_, rfl⟩
  have hAl : Hid ((⟨A.toArray⟩ : ByteArray).size = 16) := by show A.length = 16; rw [← hA]; exact derB_length _ _ _
  have hR2 : Hid (tagB (⟨A.toArray⟩ : ByteArray).data.toList c.data.toList = R) := by
    show tagB A c.data.toList = R
    rw [← hA]; exact hR
  have HA := Lib.hid hA
  clear hA
  go_enter Try.func36, Try.ntmps36
  go_wp2_with fail
  have hb : Below w.heap.size w (w.alloc (.cells #[.string ⟨#[102, 105, 110, 105, 115, 104, 101, 100]⟩] 9)) := (Below.refl _ _).alloc (Nat.le_refl _) _
  have B0 := Blk.new w [.string ⟨#[102, 105, 110, 105, 115, 104, 101, 100]⟩] 9
  refine (kderive_1 k ⟨#[]⟩ ⟨#[102, 105, 110, 105, 115, 104, 101, 100]⟩ A _ _ hk (by decide) (by decide) B0 HA).mono ?_
  rintro e w2 ⟨rfl, b2⟩
  go_wp2_with fail
  refine (tag_h _ c R _ hAl (by omega) hR2).mono ?_
  rintro e w3 ⟨rfl, b3⟩
  go_wp2_with fail
  go_ret2
  have c2 := hb.trans (b2.mono hb.size)
  exact ⟨rfl, c2.trans (b3.mono c2.size)⟩

set_option maxRecDepth 100000 in
set_option maxHeartbeats 1000000 in
theorem fin_err (k c : ByteArray) (w : World) (h : Hid (¬ k.size = 16 ∨ (k.size = 16 ∧ 8192 < c.size))) :
    Calls Try.prog 36 #[.string k, .string c] w fun e w' => e = .returned (.tuple #[.string ⟨#[]⟩, .int .i64 50]) ∧ Below w.heap.size w w' := by
  by_cases hc : 8192 < c.size
  · go_enter Try.func36, Try.ntmps36
    go_wp2_with fail
    go_ret2
    exact ⟨rfl, Below.refl _ _⟩
  · have hk : Hid (¬ k.size = 16) := by
      rcases h.out with h | ⟨h1, h2⟩
      · exact h
      · exact absurd h2 hc
    go_enter Try.func36, Try.ntmps36
    go_wp2_with fail
    have hb : Below w.heap.size w (w.alloc (.cells #[.string ⟨#[102, 105, 110, 105, 115, 104, 101, 100]⟩] 9)) := (Below.refl _ _).alloc (Nat.le_refl _) _
    refine (kderive_errk k _ _ _ hk.out).mono ?_
    rintro e w2 ⟨rfl, b2⟩
    go_wp2_with fail
    go_ret2
    exact ⟨rfl, hb.trans (b2.mono hb.size)⟩

set_option maxRecDepth 100000 in
set_option maxHeartbeats 1000000 in
theorem part_ok (k l : ByteArray) (R : List UInt8) (pk pf : Nat) (w : World) (hk : Hid (k.size = 16)) (hl : l.size ≤ 32) (hK : Blk w pk [.string k] 9)
    (hR : Hid (derB k.data.toList l.data.toList [] = R)) :
    Calls Try.prog 45 #[.string l, .pointer (some ⟨pk, 0, none⟩), .pointer (some ⟨pf, 0, none⟩)] w fun e w' => e = .returned (.string ⟨R.toArray⟩) ∧ Below w.heap.size w w' := by
  have c0 := hK.cell (j := 0) rfl
  go_enter Try.func45, Try.ntmps45
  go_wp2_with fail
  have hb : Below w.heap.size w (w.alloc (.cells #[.string l] 9)) := (Below.refl _ _).alloc (Nat.le_refl _) _
  have B0 := Blk.new w [.string l] 9
  refine (kderive_1 k ⟨#[]⟩ l R _ _ hk (by decide) hl B0 hR).mono ?_
  rintro e w2 ⟨rfl, b2⟩
  go_wp2_with fail
  go_ret
  exact ⟨rfl, hb.trans (b2.mono hb.size)⟩

set_option maxRecDepth 100000 in
set_option maxHeartbeats 1000000 in
theorem part_err (k l : ByteArray) (pk pf : Nat) (v : Value) (w : World) (hk : Hid (¬ k.size = 16)) (hK : Blk w pk [.string k] 9) (hF : Blk w pf [v] 24) :
    Calls Try.prog 45 #[.string l, .pointer (some ⟨pk, 0, none⟩), .pointer (some ⟨pf, 0, none⟩)] w fun e w' => (e = .returned (.string ⟨#[]⟩) ∧ Blk w' pf [.int .i64 50] 24) ∧ But w w' pf := by
  have c0 := hK.cell (j := 0) rfl
  go_enter Try.func45, Try.ntmps45
  go_wp2_with fail
  have hb : Below w.heap.size w (w.alloc (.cells #[.string l] 9)) := (Below.refl _ _).alloc (Nat.le_refl _) _
  refine (kderive_errk k _ _ _ hk.out).mono ?_
  rintro e w2 ⟨rfl, b2⟩
  have hb2 := hb.trans (b2.mono hb.size)
  have F2 := hF.kept hb2
  have f0 := F2.cell (j := 0) rfl
  have f1 := F2.frozen 0
  clear hb b2
  go_wp2_with fail
  have G := F2.set 0 (.int .i64 50)
  clear f0 f1
  go_ret
  exact ⟨⟨rfl, G⟩, (But.of_below hb2).trans (But.setCell _ _ _ _)⟩

end Go.Proofs.Ytmafbkoneggggaa
