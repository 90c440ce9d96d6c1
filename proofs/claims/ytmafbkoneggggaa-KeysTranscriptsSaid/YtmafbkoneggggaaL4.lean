/-
  Walk: Changed.
-/
import Derived.Test.YtmafbkoneggggaaL3
import Derived.Test.YtmafbkoneggggaaW8
namespace Go.Proofs.Ytmafbkoneggggaa
open Go.RowKit

theorem splice_list (s : ByteArray) (k : Nat) (x : UInt8) (hk : k < s.size) : (s.extract 0 k ++ ⟨#[x]⟩ ++ s.extract (k + 1) s.size).data.toList = s.data.toList.set k x := by
  have hl : s.data.toList.length = s.size := by simp
  rw [List.set_eq_take_append_cons_drop, if_pos (by rw [hl]; exact hk)]
  have h2 : (s.data.toList.drop (k + 1)).take (s.size - (k + 1)) = s.data.toList.drop (k + 1) := List.take_of_length_le (by rw [List.length_drop, hl]; omega)
  simp [ByteArray.data_append, ByteArray.data_extract, Array.toList_extract, h2]

set_option maxRecDepth 100000 in
set_option maxHeartbeats 4000000 in
theorem changed_any (s : ByteArray) (c v : Int) (w : World) (h1 : 1 ≤ s.size) (hs : s.size ≤ 300) (hc : -9223372036854775808 ≤ c) (hc' : c ≤ 9223372036854775807) (hv : 0 ≤ v) (hv' : v ≤ 255) :
    Calls Try.prog 39 #[.string s, .int .i64 c, .int .u8 v] w fun e w' => (∃ y : ByteArray, e = .returned (.string y) ∧ Hid (∃ i x, i < s.size ∧ s.data.toList[i]? ≠ some x ∧ y.data.toList = s.data.toList.set i x)) ∧ Below w.heap.size w w' := by
  have hne : (s.toList == []) = false := by
    rw [beq_eq_false_iff_ne, Go.ByteArray.toList_eq]
    intro e
    have := congrArg List.length e
    simp at this
    rw [ByteArray.size_eq_zero_iff.2 (by cases s; simpa using this)] at h1
    omega
  have p1 : 0 ≤ pickI c s.size := by unfold pickI; split <;> exact Int.emod_nonneg _ (by omega)
  have p2 : pickI c s.size < s.size := by unfold pickI; split <;> exact Int.emod_lt_of_pos _ (by omega)
  obtain ⟨k, hk⟩ := Int.eq_ofNat_of_zero_le p1
  have hk2 : k < s.size := by omega
  have HK := Lib.hid hk
  clear hk p1 p2
  obtain ⟨u, hu⟩ : ∃ u : UInt8, 1 + v % 255 = (u.toNat : Int) := ⟨_, u8_as (1 + v % 255) (by omega) (by omega)⟩
  have hu0 : u ≠ 0 := by
    rintro rfl
    have : (0 : UInt8).toNat = 0 := rfl
    omega
  have hx : bits .xor .u8 (s[k].toNat : Int) (1 + v % 255) = ((s[k] ^^^ u).toNat : Int) := by rw [hu]; exact xor_byte _ _
  have hcv : (convert 30 9 (.slice (some ⟨w.heap.size, 0, none⟩) 1 1)).run Try.prog ((w.alloc (.cells #[.int .u8 (bits .xor .u8 (s[k].toNat : Int) (1 + v % 255))] 5)).drew) = .ok (.string ⟨#[s[k] ^^^ u]⟩) ((w.alloc (.cells #[.int .u8 (bits .xor .u8 (s[k].toNat : Int) (1 + v % 255))] 5)).drew) := by
    rw [hx]
    exact conv_len (l := [s[k] ^^^ u]) (Blk.new w [.int .u8 (s[k] ^^^ u).toNat] 5).drew rfl
  have hxs : Hid (s.data.toList[k]? ≠ some (s[k] ^^^ u)) := Lib.hid (by
    have e : s.data.toList[k]? = some s[k] := by
      rw [List.getElem?_eq_getElem (by simpa using hk2)]; rfl
    rw [e]
    intro h
    have h2 : s[k] = s[k] ^^^ u := by injection h
    exact hu0 (by have h3 := congrArg (fun z => s[k] ^^^ z) h2; simpa [← UInt8.xor_assoc] using h3.symm))
  obtain ⟨x, hx2⟩ : ∃ x, s[k] ^^^ u = x := ⟨_, rfl⟩
  rw [hx2] at hcv hxs
  clear hx hx2 hu hu0
  go_enter Try.func39, Try.ntmps39
  go_wp2_with fail
  refine (pick5_any c s.size _ hc hc' (by omega) (by omega)).mono ?_
  rintro e w1 ⟨rfl, rfl⟩
  rw [HK.out]
  go_wp2_with fail
  go_region
  go_wp2_with fail
  go_ret
  exact ⟨⟨_, rfl, Lib.hid ⟨k, x, hk2, hxs.out, splice_list s k x hk2⟩⟩, ((Below.refl _ _).alloc (Nat.le_refl _) _).drew⟩

end Go.Proofs.Ytmafbkoneggggaa
