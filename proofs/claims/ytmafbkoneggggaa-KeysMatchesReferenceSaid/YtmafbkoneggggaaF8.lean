/-
  Walks: the reference's Tag computes the plain function.
-/
import Derived.Test.YtmafbkoneggggaaF7
namespace Go.Proofs.Ytmafbkoneggggaa
open Go.RowKit

theorem xor_zeros {b : List UInt8} (h : b.length = 8) : xorB zeros8 b = b := by
  obtain ⟨a, b, c, d, e, f, g, i, rfl⟩ := list8 b h
  simp [xorB, zeros8]

theorem encI_l (key : ByteArray) (X Y : List UInt8) (w : World) (hk : Hid (key.size = 16)) (hX : Hid (X.length = 8)) (hY : Hid (encB key.data.toList X = Y)) :
    Calls Try.prog 64 #[.string key, .string ⟨X.toArray⟩] w fun e w' => e = .returned (.tuple #[.string ⟨Y.toArray⟩, .int .i64 0]) ∧ Below w.heap.size w w' :=
  (encI key ⟨X.toArray⟩ w hk (Lib.hid (by show X.toArray.size = 8; simpa using hX.out))).mono fun _ _ ⟨h1, h2⟩ => ⟨by rw [h1, ← hY.out], h2⟩

theorem xorI_l (C X : List UInt8) (s : ByteArray) (a : Nat) (w : World) (hc : Hid (C.length = 8)) (hs : s.size ≤ 65536) (ha : a ≤ s.size) (hX : Hid (xorB C (padB (s.data.toList.drop a)) = X)) :
    Calls Try.prog 65 #[.string ⟨C.toArray⟩, .string s, .int .i64 a] w fun e w' => e = .returned (.string ⟨X.toArray⟩) ∧ Below w.heap.size w w' :=
  (xorI ⟨C.toArray⟩ s a w (by show C.toArray.size = 8; simpa using hc.out) hs ha).mono fun _ _ ⟨h1, h2⟩ => ⟨by rw [h1, ← hX.out], h2⟩

set_option maxRecDepth 100000 in
set_option maxHeartbeats 2000000 in
theorem tagI (key s : ByteArray) (w : World) (hk : Hid (key.size = 16)) (hs : s.size ≤ 65536) :
    Calls Try.prog 60 #[.string key, .string s] w fun e w' => e = .returned (.tuple #[.string ⟨(tagB key.data.toList s.data.toList).toArray⟩, .int .i64 0]) ∧ Below w.heap.size w w' := by
  have hk1 : key.size ≤ 16 := Nat.le_of_eq hk.out
  have hk2 : 16 ≤ key.size := Nat.le_of_eq hk.out.symm
  have ek : ((key.size : Int) != 16) = false := by rw [hk.out]; rfl
  have hd6 : decide (65536 < (s.size : Int)) = false := by rw [decide_eq_false_iff_not]; omega
  have hLl : s.data.toList.length = s.size := by simp
  have hfirst : Hid (encB key.data.toList (beB s.size 8) = stepB key.data.toList zeros8 (beB s.size 8)) := Lib.hid (by unfold stepB; rw [xor_zeros (beB_length _ _)])
  have hR : tagFrom key.data.toList (s.data.toList.drop 0).length (stepB key.data.toList zeros8 (beB s.size 8)) (s.data.toList.drop 0) = tagB key.data.toList s.data.toList := by
    unfold tagB
    rw [List.drop_zero, hLl]
  have hCl := stepB_length key.data.toList zeros8 (beB s.size 8)
  obtain ⟨R, hRR⟩ : ∃ R, tagB key.data.toList s.data.toList = R := ⟨_, rfl⟩
  obtain ⟨C0, hC0⟩ : ∃ C, stepB key.data.toList zeros8 (beB s.size 8) = C := ⟨_, rfl⟩
  rw [hRR] at hR ⊢
  rw [hC0] at hR hfirst hCl
  have HR := Lib.hid hR
  have HCl := Lib.hid hCl
  have HLl := Lib.hid hLl
  clear hR hCl hRR hC0 hLl
  go_enter Try.func60, Try.ntmps60
  go_wp2_with fail
  refine (uintI8 s.size _ (by omega)).mono ?_
  rintro e w1 ⟨rfl, b1⟩
  go_wp2_with fail
  refine (encI_l key _ _ _ hk (Lib.hid (beB_length _ _)) hfirst).mono ?_
  rintro e w2 ⟨rfl, b2⟩
  have d2 := b1.trans (b2.mono b1.size)
  clear b1 b2
  go_wp2_with fail
  go_loopw [8, 10] (fun c i wr => ∃ (a : Nat) (C : List UInt8), a ≤ s.size + 8 ∧ i = .int .i64 a ∧ c = .string ⟨C.toArray⟩ ∧ Hid (C.length = 8) ∧ Hid (tagFrom key.data.toList (s.data.toList.drop a).length C (s.data.toList.drop a) = R) ∧ Below w.heap.size w wr) (fun _ i _ => s.size + 8 - (intOf i).toNat)
  case atStart => exact ⟨0, C0, by omega, rfl, rfl, HCl, HR, d2⟩
  case round =>
    obtain ⟨a, C, ha, rfl, rfl, hC, hr, hd⟩ := hrel
    clear d2
    by_cases hlt : a < s.size
    · obtain ⟨X, hX⟩ : ∃ X, xorB C (padB (s.data.toList.drop a)) = X := ⟨_, rfl⟩
      obtain ⟨Y, hY⟩ : ∃ Y, encB key.data.toList X = Y := ⟨_, rfl⟩
      have hXl : X.length = 8 := by rw [← hX]; exact xorB_length hC.out (padB_length _)
      have hYl : Y.length = 8 := by rw [← hY]; exact encB_length _ _
      have hne : s.data.toList.drop a ≠ [] := by
        intro h
        have := congrArg List.length h
        rw [List.length_drop, HLl.out] at this
        simp at this; omega
      have hst := tag_round key.data.toList C _ hne
      rw [hr.out, List.drop_drop] at hst
      unfold stepB at hst
      rw [hX, hY] at hst
      have HX := Lib.hid hX
      have HY := Lib.hid hY
      have HXl := Lib.hid hXl
      have HYl := Lib.hid hYl
      have Hst := Lib.hid hst
      clear hX hY hXl hYl hst hne
      go_wp2_with fail
      refine (xorI_l C X s a _ hC hs (by omega) HX).mono ?_
      rintro e w3 ⟨rfl, b3⟩
      go_wp2_with fail
      refine (encI_l key X Y _ hk HXl HY).mono ?_
      rintro e w4 ⟨rfl, b4⟩
      have d3 := hd.trans (b3.mono hd.size)
      have d4 := d3.trans (b4.mono d3.size)
      clear hd b3 b4 d3
      go_wp2_with fail
      go_roundw
      case rel => exact ⟨a + 8, Y, by omega, by go_num, rfl, HYl, Lib.hid Hst.out.symm, d4⟩
      case measure => simp [intOf]; omega
    · have hnil : s.data.toList.drop a = [] := List.drop_eq_nil_of_le (by rw [HLl.out]; omega)
      have hrr := hr.out
      rw [hnil] at hrr
      have hrr2 : C = R := hrr
      have Hrr := Lib.hid hrr2
      clear hnil hrr hrr2
      go_wp2_with fail
      go_ret2
      exact ⟨by rw [Hrr.out]; rfl, hd⟩

end Go.Proofs.Ytmafbkoneggggaa
