/-
  Walks: class, Len, pick, read and ReadUint compute the plain functions, for arguments in the bounds that each theorem names.
-/
import Derived.Test.YtmafbkoneggggaaRows
import Derived.Test.YtmafbkoneggggaaP2
import Derived.WalkKit
import Derived.Lib.Hide
import Derived.WalkSpells
import Derived.WalkLawsBesides
import Derived.Deep.QuietTactic
import Derived.BigQuiet
namespace Go.Proofs.Ytmafbkoneggggaa
open Go.RowKit

set_option maxHeartbeats 400000 in
theorem class_any (n : Int) (w : World) :
    Calls Try.prog 40 #[.int .i64 n] w fun e w' => e = .returned (.int .i64 (classOf n)) ∧ Below w.heap.size w w' := by
  have i0 : ∀ x0 x1 x2 x3 w, (Instr.index 70 (.agg #[x0, x1, x2, x3]) (.int .i64 0)).run Try.prog w = .ok x0 w := fun _ _ _ _ _ => by kernel_rfl
  have i1 : ∀ x0 x1 x2 x3 w, (Instr.index 70 (.agg #[x0, x1, x2, x3]) (.int .i64 1)).run Try.prog w = .ok x1 w := fun _ _ _ _ _ => by kernel_rfl
  have i2 : ∀ x0 x1 x2 x3 w, (Instr.index 70 (.agg #[x0, x1, x2, x3]) (.int .i64 2)).run Try.prog w = .ok x2 w := fun _ _ _ _ _ => by kernel_rfl
  have i3 : ∀ x0 x1 x2 x3 w, (Instr.index 70 (.agg #[x0, x1, x2, x3]) (.int .i64 3)).run Try.prog w = .ok x3 w := fun _ _ _ _ _ => by kernel_rfl
  have hB : ∀ o, Below w.heap.size w (w.alloc o) := fun o => (Below.refl _ _).alloc (Nat.le_refl _) o
  by_cases h0 : n < 0
  · have hf : classOf n = -1 := by unfold classOf; rw [if_pos h0]
    have Hf := Lib.hid hf; clear hf
    go_enter Try.func40, Try.ntmps40
    go_wp2
    go_ret
    exact ⟨by rw [Hf.out]; rfl, hB _⟩
  by_cases h1 : n ≤ 63
  · have hf : classOf n = 0 := by unfold classOf; rw [if_neg h0, if_pos h1]
    have Hf := Lib.hid hf; clear hf
    go_enter Try.func40, Try.ntmps40
    go_wp2
    refine wp_loop_rounds 1 ?_
    rw [rounds_succ]
    go_wp2
    go_ret
    exact ⟨by rw [Hf.out]; rfl, hB _⟩
  by_cases h2 : n ≤ 16383
  · have hf : classOf n = 1 := by unfold classOf; rw [if_neg h0, if_neg h1, if_pos h2]
    have Hf := Lib.hid hf; clear hf
    go_enter Try.func40, Try.ntmps40
    go_wp2
    refine wp_loop_rounds 2 ?_
    iterate 2 (rw [rounds_succ]; go_wp2)
    go_ret
    exact ⟨by rw [Hf.out]; rfl, hB _⟩
  by_cases h3 : n ≤ 1073741823
  · have hf : classOf n = 2 := by unfold classOf; rw [if_neg h0, if_neg h1, if_neg h2, if_pos h3]
    have Hf := Lib.hid hf; clear hf
    go_enter Try.func40, Try.ntmps40
    go_wp2
    refine wp_loop_rounds 3 ?_
    iterate 3 (rw [rounds_succ]; go_wp2)
    go_ret
    exact ⟨by rw [Hf.out]; rfl, hB _⟩
  by_cases h4 : n ≤ 4611686018427387903
  · have hf : classOf n = 3 := by unfold classOf; rw [if_neg h0, if_neg h1, if_neg h2, if_neg h3, if_pos h4]
    have Hf := Lib.hid hf; clear hf
    go_enter Try.func40, Try.ntmps40
    go_wp2
    refine wp_loop_rounds 4 ?_
    iterate 4 (rw [rounds_succ]; go_wp2)
    go_ret
    exact ⟨by rw [Hf.out]; rfl, hB _⟩
  · have hf : classOf n = -1 := by unfold classOf; rw [if_neg h0, if_neg h1, if_neg h2, if_neg h3, if_neg h4]
    have Hf := Lib.hid hf; clear hf
    go_enter Try.func40, Try.ntmps40
    go_wp2
    refine wp_loop_rounds 5 ?_
    iterate 5 (rw [rounds_succ]; go_wp2)
    go_ret
    exact ⟨by rw [Hf.out]; rfl, hB _⟩

set_option maxHeartbeats 400000 in
theorem len_any (n : Int) (w : World) :
    Calls Try.prog 18 #[.int .i64 n] w fun e w' => e = .returned (.int .i64 (lenOf n)) ∧ Below w.heap.size w w' := by
  have hl : lenOf n = if classOf n < 0 then 0 else 2 ^ (classOf n).toNat := rfl
  rcases classOf_cases n with hc | hc | hc | hc | hc
  all_goals
    rw [hc] at hl
    have Hl := Lib.hid hl
    have Hc := Lib.hid hc
    clear hl hc
    go_enter Try.func18, Try.ntmps18
    go_wp2_with (go_at_call 40; refine (class_any _ _).mono ?_; rintro e w' ⟨rfl, hb⟩; rw [Hc.out])
    go_ret
    exact ⟨by rw [Hl.out]; rfl, hb⟩


/-! ### read -/
theorem read_step (l : List UInt8) (b : UInt8) (h : l.length ≤ 7) :
    bits .or .u64 (IntKind.u64.wrap (((beNat l : Nat) : Int) * 256)) (IntKind.u64.wrap ((b.toNat : Nat) : Int)) = ((beNat (l ++ [b]) : Nat) : Int) := by
  have hl := beNat_lt l
  have hp : 256 ^ l.length ≤ 256 ^ 7 := Nat.pow_le_pow_right (by decide) h
  have hp' : (256 : Nat) ^ 7 = 72057594037927936 := by decide
  have hb := b.toNat_lt
  have e1 : IntKind.u64.wrap (((beNat l : Nat) : Int) * 256) = ((beNat l * 256 : Nat) : Int) := by rw [IntKind.wrap_u64]; omega
  have e2 : IntKind.u64.wrap ((b.toNat : Nat) : Int) = ((b.toNat : Nat) : Int) := by rw [IntKind.wrap_u64]; omega
  rw [e1, e2, u64_or_nat _ _ (by omega) (by omega), nat_join 8 _ _ (by omega) (by omega), beNat_snoc]

set_option maxHeartbeats 400000 in
theorem read_any (s : ByteArray) (a width : Int) (w : World) (hs : s.size ≤ maxLen) (h0 : 0 ≤ a) (hw0 : 0 ≤ width) (hw : width ≤ 8) (h : a + width ≤ s.size) :
    Calls Try.prog 43 #[.string s, .int .i64 a, .int .i64 width] w fun e w' => e = .returned (.int .u64 (beNat ((s.data.toList.drop a.toNat).take width.toNat))) ∧ w = w' := by
  unfold maxLen at hs
  obtain ⟨at_, rfl⟩ := Int.eq_ofNat_of_zero_le h0
  obtain ⟨width, rfl⟩ := Int.eq_ofNat_of_zero_le hw0
  rw [Int.toNat_natCast, Int.toNat_natCast]
  go_enter Try.func43, Try.ntmps43
  go_wp2
  go_loop [7, 10] (fun n i => ∃ k : Nat, k ≤ width ∧ i = .int .i64 k ∧ n = .int .u64 (beNat ((s.data.toList.drop at_).take k))) (fun _ i => width - (intOf i).toNat)
  case atStart => exact ⟨0, Nat.zero_le _, rfl, rfl⟩
  case round =>
    obtain ⟨k, hk, rfl, rfl⟩ := hrel
    by_cases hlt : k < width
    · have hts := take_drop_snoc s.data.toList at_ k (by have : s.data.toList.length = s.size := by simp
                                                         omega)
      have hst := read_step ((s.data.toList.drop at_).take k) s[at_ + k] (by have := List.length_take_le k (s.data.toList.drop at_); omega)
      have HS : Hid (bits .or .u64 (IntKind.u64.wrap (((beNat ((s.data.toList.drop at_).take k) : Nat) : Int) * 256)) (IntKind.u64.wrap ((s[at_ + k].toNat : Nat) : Int)) = ((beNat ((s.data.toList.drop at_).take (k + 1)) : Nat) : Int)) := by rw [hts]; exact hst
      clear hts hst
      go_wp2
      go_round
      case rel => exact ⟨k + 1, by omega, by go_num, congrArg (Value.int .u64) HS.out⟩
      case measure => simp [intOf]; omega
    · obtain rfl : k = width := by omega
      go_wp2
      go_ret
      exact ⟨rfl, rfl⟩

def pickI (c n : Int) : Int := (if c < 0 then -(c + 1) else c) % n

set_option maxHeartbeats 400000 in
theorem pick_any (c n : Int) (w : World) (hc : -9223372036854775808 ≤ c) (hc' : c ≤ 9223372036854775807) (hn : 1 ≤ n) (hn' : n ≤ 9223372036854775807) :
    Calls Try.prog 19 #[.int .i64 c, .int .i64 n] w fun e w' => e = .returned (.int .i64 (pickI c n)) ∧ w = w' := by
  by_cases h0 : c < 0
  · have hf : -((c + 1).tmod n) = pickI c n := by unfold pickI; rw [if_pos h0, ← Int.neg_tmod, Int.tmod_eq_emod_of_nonneg (by omega)]
    have Hf := Lib.hid hf; clear hf
    go_enter Try.func19, Try.ntmps19
    go_wp2
    go_ret
    exact ⟨by rw [← Hf.out]; rfl, rfl⟩
  · have hf : pickI c n = c % n := by unfold pickI; rw [if_neg h0]
    have Hf := Lib.hid hf; clear hf
    go_enter Try.func19, Try.ntmps19
    go_wp2
    go_ret
    exact ⟨by rw [Hf.out]; rfl, rfl⟩

set_option maxHeartbeats 400000 in
theorem pick5_any (c n : Int) (w : World) (hc : -9223372036854775808 ≤ c) (hc' : c ≤ 9223372036854775807) (hn : 1 ≤ n) (hn' : n ≤ 9223372036854775807) :
    Calls Try.prog 55 #[.int .i64 c, .int .i64 n] w fun e w' => e = .returned (.int .i64 (pickI c n)) ∧ w = w' := by
  by_cases h0 : c < 0
  · have hf : -((c + 1).tmod n) = pickI c n := by unfold pickI; rw [if_pos h0, ← Int.neg_tmod, Int.tmod_eq_emod_of_nonneg (by omega)]
    have Hf := Lib.hid hf; clear hf
    go_enter Try.func55, Try.ntmps55
    go_wp2
    go_ret
    exact ⟨by rw [← Hf.out]; rfl, rfl⟩
  · have hf : pickI c n = c % n := by unfold pickI; rw [if_neg h0]
    have Hf := Lib.hid hf; clear hf
    go_enter Try.func55, Try.ntmps55
    go_wp2
    go_ret
    exact ⟨by rw [Hf.out]; rfl, rfl⟩

/-! ### ReadUint -/
set_option maxHeartbeats 400000 in
theorem readUint_ok (s : ByteArray) (a width : Int) (w : World) (hs : s.size ≤ maxLen) (h0 : 0 ≤ a) (hw0 : 1 ≤ width) (hw : width ≤ 8) (h : a + width ≤ s.size)
    (hv : beNat ((s.data.toList.drop a.toNat).take width.toNat) ≤ 9223372036854775807) :
    Calls Try.prog 21 #[.string s, .int .i64 a, .int .i64 width] w fun e w' => e = .returned (.tuple #[.int .i64 (beNat ((s.data.toList.drop a.toNat).take width.toNat)), .int .i64 0]) ∧ w = w' := by
  have hs' := hs
  unfold maxLen at hs'
  generalize hx : beNat ((s.data.toList.drop a.toNat).take width.toNat) = x at *
  have Hx := Lib.hid hx; clear hx
  go_enter Try.func21, Try.ntmps21
  go_wp2_with (go_at_call 43; refine (read_any _ _ _ _ hs h0 (by omega) hw h).mono ?_; rintro e w' ⟨rfl, rfl⟩; rw [Hx.out])
  go_ret2
  exact ⟨rfl, rfl⟩

set_option maxHeartbeats 400000 in
theorem readUint_big (s : ByteArray) (a width : Int) (w : World) (hs : s.size ≤ maxLen) (h0 : 0 ≤ a) (hw0 : 1 ≤ width) (hw : width ≤ 8) (h : a + width ≤ s.size)
    (hv : 9223372036854775807 < beNat ((s.data.toList.drop a.toNat).take width.toNat)) :
    Calls Try.prog 21 #[.string s, .int .i64 a, .int .i64 width] w fun e w' => e = .returned (.tuple #[.int .i64 0, .int .i64 10]) ∧ w = w' := by
  have hs' := hs
  unfold maxLen at hs'
  generalize hx : beNat ((s.data.toList.drop a.toNat).take width.toNat) = x at *
  have Hx := Lib.hid hx; clear hx
  go_enter Try.func21, Try.ntmps21
  go_wp2_with (go_at_call 43; refine (read_any _ _ _ _ hs h0 (by omega) hw h).mono ?_; rintro e w' ⟨rfl, rfl⟩; rw [Hx.out])
  go_ret2
  exact ⟨rfl, rfl⟩

end Go.Proofs.Ytmafbkoneggggaa
