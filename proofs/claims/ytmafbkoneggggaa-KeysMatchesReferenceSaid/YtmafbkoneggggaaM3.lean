/-
  Walks: key derivation computes the plain function.
-/
import Derived.Test.YtmafbkoneggggaaM2
namespace Go.Proofs.Ytmafbkoneggggaa
open Go.RowKit

theorem uint1 (n : Int) (w : World) (h0 : 0 ≤ n) (h : n < 256) :
    Calls Try.prog 20 #[.int .i64 n, .int .i64 1] w fun e w' => (∃ X, e = .returned (.tuple #[.string ⟨X.toArray⟩, .int .i64 0]) ∧ X.length ≤ 1 ∧ Hid (X = beB n.toNat 1)) ∧ Below w.heap.size w w' :=
  (uint_ok n 1 w h0 (by omega) (by decide) (by decide) (by
    have e : 256 ^ (Int.toNat 1) = 256 := by decide +kernel
    rw [e]; omega)).mono fun _ _ ⟨h, b⟩ => ⟨⟨_, h, by simp [beB_length], rfl⟩, b⟩

theorem tag_h (key s : ByteArray) (R : List UInt8) (w : World) (hk : Hid (key.size = 16)) (hs : s.size ≤ 65536) (hR : Hid (tagB key.data.toList s.data.toList = R)) :
    Calls Try.prog 47 #[.string key, .string s] w fun e w' => e = .returned (.tuple #[.string ⟨R.toArray⟩, .int .i64 0]) ∧ Below w.heap.size w w' :=
  (tag_any key s w hk.out hs).mono fun _ _ ⟨h, b⟩ => ⟨by rw [h, hR.out], b⟩

set_option maxRecDepth 100000 in
set_option maxHeartbeats 2000000 in
theorem derive_any (k l c : ByteArray) (w : World) (hk : Hid (k.size = 16)) (hl : l.size ≤ 32) (hc : c.size ≤ 8192) :
    Calls Try.prog 27 #[.string k, .string l, .string c] w fun e w' => e = .returned (.tuple #[.string ⟨(derB k.data.toList l.data.toList c.data.toList).toArray⟩, .int .i64 0]) ∧ Below w.heap.size w w' := by
  have hk1 : k.size ≤ 16 := by have := hk.out; omega
  have hk2 : 16 ≤ k.size := by have := hk.out; omega
  obtain ⟨R, hR⟩ : ∃ R, R = derB k.data.toList l.data.toList c.data.toList := ⟨_, rfl⟩
  rw [← hR]
  have HR := Lib.hid hR
  clear hR
  go_enter Try.func27, Try.ntmps27
  go_wp2_with fail
  refine (uint1 _ _ (by omega) (by omega)).mono ?_
  rintro e w1 ⟨⟨X, rfl, hX1, HX⟩, b1⟩
  go_wp2_with fail
  have hd1 : ((⟨#[1]⟩ : ByteArray) ++ ((⟨X.toArray⟩ : ByteArray) ++ l ++ c)).data.toList = 1 :: (X ++ l.data.toList ++ c.data.toList) := by simp
  have hd2 : ((⟨#[2]⟩ : ByteArray) ++ ((⟨X.toArray⟩ : ByteArray) ++ l ++ c)).data.toList = 2 :: (X ++ l.data.toList ++ c.data.toList) := by simp
  have hz1 : ((⟨#[1]⟩ : ByteArray) ++ ((⟨X.toArray⟩ : ByteArray) ++ l ++ c)).size ≤ 65536 := by
    have : ((⟨#[1]⟩ : ByteArray) ++ ((⟨X.toArray⟩ : ByteArray) ++ l ++ c)).size = 1 + (X.length + l.size + c.size) := by simp [ByteArray.size_append]; rfl
    omega
  have hz2 : ((⟨#[2]⟩ : ByteArray) ++ ((⟨X.toArray⟩ : ByteArray) ++ l ++ c)).size ≤ 65536 := by
    have : ((⟨#[2]⟩ : ByteArray) ++ ((⟨X.toArray⟩ : ByteArray) ++ l ++ c)).size = 1 + (X.length + l.size + c.size) := by simp [ByteArray.size_append]; rfl
    omega
  obtain ⟨A, hA⟩ : ∃ A, tagB k.data.toList ((⟨#[1]⟩ : ByteArray) ++ ((⟨X.toArray⟩ : ByteArray) ++ l ++ c)).data.toList = A := ⟨_, rfl⟩
  obtain ⟨B, hB⟩ : ∃ B, tagB k.data.toList ((⟨#[2]⟩ : ByteArray) ++ ((⟨X.toArray⟩ : ByteArray) ++ l ++ c)).data.toList = B := ⟨_, rfl⟩
  have hAl : A.length ≤ 8 := by rw [← hA, tagB_length]; omega
  have hBl : B.length ≤ 8 := by rw [← hB, tagB_length]; omega
  have hAB : R = A ++ B := by
    have e : (Int.toNat (l.size : Int)) = l.data.toList.length := by simp
    rw [HR.out, ← hA, ← hB, hd1, hd2, HX.out, e]; rfl
  have HA := Lib.hid hA
  have HB := Lib.hid hB
  have HAB := Lib.hid hAB
  have Hz1 := Lib.hid hz1
  have Hz2 := Lib.hid hz2
  clear hA hB hAB hd1 hd2 hz1 hz2
  refine (tag_h k _ A _ hk Hz1.out HA).mono ?_
  rintro e w2 ⟨rfl, b2⟩
  go_wp2_with fail
  refine (tag_h k _ B _ hk Hz2.out HB).mono ?_
  rintro e w3 ⟨rfl, b3⟩
  go_wp2_with fail
  go_ret2
  have c2 := b1.trans (b2.mono b1.size)
  exact ⟨by rw [HAB.out, ← ByteArray.mk_append_mk]; rfl, c2.trans (b3.mono c2.size)⟩

/-- .. and of what keys asks of the arguments. -/
theorem derive_h (k l c : ByteArray) (R : List UInt8) (w : World) (hk : Hid (k.size = 16)) (hl : l.size ≤ 32) (hc : c.size ≤ 8192) (hR : Hid (derB k.data.toList l.data.toList c.data.toList = R)) :
    Calls Try.prog 27 #[.string k, .string l, .string c] w fun e w' => e = .returned (.tuple #[.string ⟨R.toArray⟩, .int .i64 0]) ∧ Below w.heap.size w w' :=
  (derive_any k l c w hk hl hc).mono fun _ _ ⟨h, b⟩ => ⟨by rw [h, hR.out], b⟩

end Go.Proofs.Ytmafbkoneggggaa
