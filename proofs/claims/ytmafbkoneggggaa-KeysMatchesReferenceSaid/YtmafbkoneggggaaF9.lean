/-
  Walks: the reference's Derive computes the plain function.
-/
import Derived.Test.YtmafbkoneggggaaF8
namespace Go.Proofs.Ytmafbkoneggggaa
open Go.RowKit

theorem tagI_h (key s : ByteArray) (R : List UInt8) (w : World) (hk : Hid (key.size = 16)) (hs : s.size ≤ 65536) (hR : Hid (tagB key.data.toList s.data.toList = R)) :
    Calls Try.prog 60 #[.string key, .string s] w fun e w' => e = .returned (.tuple #[.string ⟨R.toArray⟩, .int .i64 0]) ∧ Below w.heap.size w w' :=
  (tagI key s w hk hs).mono fun _ _ ⟨h, b⟩ => ⟨by rw [h, hR.out], b⟩

theorem uintI1_h (n : Nat) (w : World) (h : n < 256) :
    Calls Try.prog 63 #[.int .i64 n, .int .i64 1] w fun e w' => (∃ X, e = .returned (.tuple #[.string ⟨X.toArray⟩, .int .i64 0]) ∧ X.length ≤ 1 ∧ Hid (X = beB n 1)) ∧ Below w.heap.size w w' :=
  (uintI1 n w h).mono fun _ _ ⟨h, b⟩ => ⟨⟨_, h, by simp [beB_length], rfl⟩, b⟩

set_option maxRecDepth 100000 in
set_option maxHeartbeats 2000000 in
theorem deriveI (k l c : ByteArray) (w : World) (hk : Hid (k.size = 16)) (hl : l.size ≤ 32) (hc : c.size ≤ 8192) :
    Calls Try.prog 59 #[.string k, .string l, .string c] w fun e w' => e = .returned (.tuple #[.string ⟨(derB k.data.toList l.data.toList c.data.toList).toArray⟩, .int .i64 0]) ∧ Below w.heap.size w w' := by
  have hk1 : k.size ≤ 16 := by have := hk.out; omega
  have hk2 : 16 ≤ k.size := by have := hk.out; omega
  obtain ⟨R, hR⟩ : ∃ R, R = derB k.data.toList l.data.toList c.data.toList := ⟨_, rfl⟩
  rw [← hR]
  have HR := Lib.hid hR
  clear hR
  go_enter Try.func59, Try.ntmps59
  go_wp2_with fail
  refine (uintI1_h _ _ (by omega)).mono ?_
  rintro e w1 ⟨⟨X, rfl, hX1, HX⟩, b1⟩
  go_wp2_with fail
  have hd1 : ((⟨#[1]⟩ : ByteArray) ++ ((⟨X.toArray⟩ : ByteArray) ++ l ++ c)).data.toList = 1 :: (X ++ l.data.toList ++ c.data.toList) := by simp
  have hd2 : ((⟨#[2]⟩ : ByteArray) ++ ((⟨X.toArray⟩ : ByteArray) ++ l ++ c)).data.toList = 2 :: (X ++ l.data.toList ++ c.data.toList) := by simp
  have hz1 : ((⟨#[1]⟩ : ByteArray) ++ ((⟨X.toArray⟩ : ByteArray) ++ l ++ c)).size ≤ 65536 := by
    have : ((⟨#[1]⟩ : ByteArray) ++ ((⟨X.toArray⟩ : ByteArray) ++ l ++ c)).size = 1 + (X.length + l.size + c.size) := by simp [ByteArray.size_append]; rfl
    omega
  have hz2 : ((⟨#[2]⟩ : ByteArray) ++ ((⟨X.toArray⟩ : ByteArray) ++ l ++ c)).size ≤ 65536 := by
    have : ((⟨#[2]⟩ : ByteArray) ++ ((⟨X.toArray⟩ : ByteArray) ++ l ++ c)).size = 1 + (X.length + l.size + c.size) := by simp [ByteArray.size_append]; rfl
    omega
  obtain ⟨A, hA⟩ : ∃ A, tagB k.data.toList ((⟨#[1]⟩ : ByteArray) ++ ((⟨X.toArray⟩ : ByteArray) ++ l ++ c)).data.toList = A := ⟨_, rfl⟩
  obtain ⟨B, hB⟩ : ∃ B, tagB k.data.toList ((⟨#[2]⟩ : ByteArray) ++ ((⟨X.toArray⟩ : ByteArray) ++ l ++ c)).data.toList = B := ⟨_, rfl⟩
  have hAl : A.length ≤ 8 := by rw [← hA, tagB_length]; omega
  have hBl : B.length ≤ 8 := by rw [← hB, tagB_length]; omega
  have hAB : R = A ++ B := by
    have e : l.size = l.data.toList.length := by simp
    rw [HR.out, ← hA, ← hB, hd1, hd2, HX.out, e]; rfl
  have HA := Lib.hid hA
  have HB := Lib.hid hB
  have HAB := Lib.hid hAB
  have Hz1 := Lib.hid hz1
  have Hz2 := Lib.hid hz2
  clear hA hB hAB hd1 hd2 hz1 hz2
  refine (tagI_h k _ A _ hk Hz1.out HA).mono ?_
  rintro e w2 ⟨rfl, b2⟩
  go_wp2_with fail
  refine (tagI_h k _ B _ hk Hz2.out HB).mono ?_
  rintro e w3 ⟨rfl, b3⟩
  go_wp2_with fail
  go_ret2
  have c2 := b1.trans (b2.mono b1.size)
  exact ⟨by rw [HAB.out, ← ByteArray.mk_append_mk]; rfl, c2.trans (b3.mono c2.size)⟩

theorem deriveI_h (k l c : ByteArray) (R : List UInt8) (w : World) (hk : Hid (k.size = 16)) (hl : l.size ≤ 32) (hc : c.size ≤ 8192) (hR : Hid (derB k.data.toList l.data.toList c.data.toList = R)) :
    Calls Try.prog 59 #[.string k, .string l, .string c] w fun e w' => e = .returned (.tuple #[.string ⟨R.toArray⟩, .int .i64 0]) ∧ Below w.heap.size w w' :=
  (deriveI k l c w hk hl hc).mono fun _ _ ⟨h, b⟩ => ⟨by rw [h, hR.out], b⟩

end Go.Proofs.Ytmafbkoneggggaa
