/-
  Walks: the key schedule computes the plain functions.
-/
import Derived.Test.YtmafbkoneggggaaM3
namespace Go.Proofs.Ytmafbkoneggggaa
open Go.RowKit

theorem emptySize : (⟨#[]⟩ : ByteArray).size = 0 := rfl

set_option maxRecDepth 100000 in
set_option maxHeartbeats 1000000 in
theorem kderive_1 (k c l : ByteArray) (R : List UInt8) (b : Nat) (w : World) (hk : Hid (k.size = 16)) (hc : c.size ≤ 8192) (hl : l.size ≤ 32) (hB : Blk w b [.string l] 9)
    (hR : Hid (derB k.data.toList l.data.toList c.data.toList = R)) :
    Calls Try.prog 46 #[.string k, .string c, .slice (some ⟨b, 0, none⟩) 1 1] w fun e w' => e = .returned (.tuple #[.string ⟨R.toArray⟩, .int .i64 0]) ∧ Below w.heap.size w w' := by
  have hk1 : k.size ≤ 16 := by have := hk.out; omega
  have hk2 : 16 ≤ k.size := by have := hk.out; omega
  have c0 := hB.cell (j := 0) rfl
  go_enter Try.func46, Try.ntmps46
  go_wp2_with fail
  refine wp_loop_rounds 2 ?_
  rw [rounds_succ]
  go_wp2_with fail
  rw [rounds_succ]
  go_wp2_with fail
  have HR2 : Hid (derB k.data.toList ((⟨#[]⟩ : ByteArray) ++ l).data.toList c.data.toList = R) := by
    have e : ((⟨#[]⟩ : ByteArray) ++ l).data.toList = l.data.toList := by simp
    rw [e]; exact hR
  have hs : ((⟨#[]⟩ : ByteArray) ++ l).size ≤ 32 := by
    have : ((⟨#[]⟩ : ByteArray) ++ l).size = l.size := by simp [ByteArray.size_append, emptySize]
    omega
  have Hs := Lib.hid hs
  clear hs
  refine (derive_h k _ c R _ hk Hs.out hc HR2).mono ?_
  rintro e w2 ⟨rfl, b2⟩
  go_wp2_with fail
  go_ret2
  exact ⟨rfl, b2⟩

set_option maxRecDepth 100000 in
set_option maxHeartbeats 1000000 in
theorem kderive_3 (k c l m n : ByteArray) (R : List UInt8) (b : Nat) (w : World) (hk : Hid (k.size = 16)) (hc : c.size ≤ 8192) (hl : l.size ≤ 8) (hm : m.size ≤ 8) (hn : n.size ≤ 16) (hB : Blk w b [.string l, .string m, .string n] 9)
    (hR : Hid (derB k.data.toList (l.data.toList ++ m.data.toList ++ n.data.toList) c.data.toList = R)) :
    Calls Try.prog 46 #[.string k, .string c, .slice (some ⟨b, 0, none⟩) 3 3] w fun e w' => e = .returned (.tuple #[.string ⟨R.toArray⟩, .int .i64 0]) ∧ Below w.heap.size w w' := by
  have hk1 : k.size ≤ 16 := by have := hk.out; omega
  have hk2 : 16 ≤ k.size := by have := hk.out; omega
  have c0 := hB.cell (j := 0) rfl
  have c1 := hB.cell (j := 1) rfl
  have c2 := hB.cell (j := 2) rfl
  go_enter Try.func46, Try.ntmps46
  go_wp2_with fail
  refine wp_loop_rounds 4 ?_
  rw [rounds_succ]
  go_wp2_with fail
  rw [rounds_succ]
  go_wp2_with fail
  rw [rounds_succ]
  go_wp2_with fail
  rw [rounds_succ]
  go_wp2_with fail
  have HR2 : Hid (derB k.data.toList ((⟨#[]⟩ : ByteArray) ++ l ++ m ++ n).data.toList c.data.toList = R) := by
    have e : ((⟨#[]⟩ : ByteArray) ++ l ++ m ++ n).data.toList = l.data.toList ++ m.data.toList ++ n.data.toList := by simp
    rw [e]; exact hR
  have hs : ((⟨#[]⟩ : ByteArray) ++ l ++ m ++ n).size ≤ 32 := by
    have : ((⟨#[]⟩ : ByteArray) ++ l ++ m ++ n).size = l.size + m.size + n.size := by simp [ByteArray.size_append, emptySize]
    omega
  have Hs := Lib.hid hs
  clear hs
  refine (derive_h k _ c R _ hk Hs.out hc HR2).mono ?_
  rintro e w2 ⟨rfl, b2⟩
  go_wp2_with fail
  go_ret2
  exact ⟨rfl, b2⟩

set_option maxHeartbeats 400000 in
theorem kderive_errk (k c : ByteArray) (v : Value) (w : World) (hk : ¬ k.size = 16) :
    Calls Try.prog 46 #[.string k, .string c, v] w fun e w' => e = .returned (.tuple #[.string ⟨#[]⟩, .int .i64 50]) ∧ Below w.heap.size w w' := by
  have h1 : ((k.size : Int) != 16) = true := by rw [bne_iff_ne]; omega
  go_enter Try.func46, Try.ntmps46
  go_wp2_with fail
  go_ret2
  exact ⟨rfl, Below.refl _ _⟩

set_option maxHeartbeats 400000 in
theorem kderive_errc (k c : ByteArray) (v : Value) (w : World) (hk : k.size = 16) (hc : 8192 < c.size) :
    Calls Try.prog 46 #[.string k, .string c, v] w fun e w' => e = .returned (.tuple #[.string ⟨#[]⟩, .int .i64 50]) ∧ Below w.heap.size w w' := by
  have hk1 : k.size ≤ 16 := by omega
  have hk2 : 16 ≤ k.size := by omega
  clear hk
  go_enter Try.func46, Try.ntmps46
  go_wp2_with fail
  go_ret2
  exact ⟨rfl, Below.refl _ _⟩

end Go.Proofs.Ytmafbkoneggggaa
