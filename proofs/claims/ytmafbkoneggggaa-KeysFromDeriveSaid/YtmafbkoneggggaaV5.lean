/-
  Walk: KeysFromDerive.
-/
import Derived.Test.YtmafbkoneggggaaL3
import Derived.Test.YtmafbkoneggggaaW8
import Derived.BigQuiet
namespace Go.Proofs.Ytmafbkoneggggaa
open Go.RowKit

theorem derive_s (k l c : ByteArray) (w : World) (hk : Hid (k.size = 16)) (hl : l.size ≤ 32) (hc : c.size ≤ 8192) :
    Calls Try.prog 27 #[.string k, .string l, .string c] w fun e w' => (∃ a : ByteArray, e = .returned (.tuple #[.string a, .int .i64 0]) ∧ Hid (a = derS k l.data.toList c)) ∧ Below w.heap.size w w' :=
  (derive_any k l c w hk hl hc).mono fun _ _ h => ⟨⟨_, h.1, Lib.hid rfl⟩, h.2⟩

set_option maxRecDepth 100000 in
set_option maxHeartbeats 8000000 in
theorem fromDerive_walk (s t : ByteArray) (w : World) (hs : s.size ≤ maxLen) (ht : t.size ≤ maxLen) :
    Calls Try.prog 9 #[.string s, .string t] w fun e w' => e = .returned (.bool true) ∧ Below w.heap.size w w' := by
  unfold maxLen at hs ht
  have hS := extract_le s 30
  have hT := extract_le t 200
  by_cases hs1 : 30 < s.size <;> by_cases ht1 : 200 < t.size
  all_goals
    go_enter Try.func9, Try.ntmps9
    go_wp2_with fail
    refine (sane5 _).mono ?_
    rintro e w1 ⟨rfl, b1⟩
    go_wp2_with fail
    refine (secret_any _ _ (by unfold maxLen; omega)).mono ?_
    rintro e w2 ⟨⟨k, rfl, sk⟩, b2⟩
    have d2 := (b1.trans (b2.mono b1.size))
    clear b1 b2
    go_wp2_with fail
    refine (expand_s k _ sk).mono ?_
    rintro e w3 ⟨⟨ek, ei, em, ep, rfl, hk, hi, hm, hp⟩, b3⟩
    have d3 := (d2.trans (b3.mono d2.size))
    clear b3 d2
    go_wp2_with fail
    refine (derive_s k ⟨#[107, 101, 121]⟩ ⟨#[]⟩ _ sk (by decide) (by decide)).mono ?_
    rintro e w4 ⟨⟨xk, rfl, hxk⟩, b4⟩
    obtain rfl : ek = xk := by rw [hk.out, hxk.out]; rfl
    have d3 := d3.alloc d3.size (.cells #[.string ek, .string ei, .string em, .string ep] 48)
    have B4 := (Blk.new w3 [.string ek, .string ei, .string em, .string ep] 48).kept b4
    have d4 := (d3.trans (b4.mono d3.size))
    clear b4 d3 hk hxk
    go_wp2_with fail
    refine (derive_s k ⟨#[105, 118]⟩ ⟨#[]⟩ _ sk (by decide) (by decide)).mono ?_
    rintro e w5 ⟨⟨xi, rfl, hxi⟩, b5⟩
    have hxi8 : 8 ≤ xi.size := by rw [hxi.out, derS_size]; decide
    obtain rfl : ei = xi.extract 0 8 := by rw [hi.out.1, hxi.out]; rfl
    have B5 := B4.kept b5
    have d5 := (d4.trans (b5.mono d4.size))
    clear b5 d4 hi hxi B4
    go_wp2_with fail
    refine (derive_s k ⟨#[109, 97, 99]⟩ ⟨#[]⟩ _ sk (by decide) (by decide)).mono ?_
    rintro e w6 ⟨⟨xm, rfl, hxm⟩, b6⟩
    obtain rfl : em = xm := by rw [hm.out, hxm.out]; rfl
    have B6 := B5.kept b6
    have d6 := (d5.trans (b6.mono d5.size))
    clear b6 d5 hm hxm B5
    go_wp2_with fail
    refine (derive_s k ⟨#[104, 112]⟩ ⟨#[]⟩ _ sk (by decide) (by decide)).mono ?_
    rintro e w7 ⟨⟨xp, rfl, hxp⟩, b7⟩
    obtain rfl : ep = xp := by rw [hp.out, hxp.out]; rfl
    have B7 := B6.kept b7
    have d7 := (d6.trans (b7.mono d6.size))
    clear b7 d6 hp hxp B6
    go_wp2_with fail
    refine (app_s k _ _ sk (by omega)).mono ?_
    rintro e w8 ⟨⟨a, b, rfl, ha, hb⟩, b8⟩
    have d8 := d7.trans (b8.mono d7.size)
    have d8 := d8.alloc d8.size (.cells #[.string a, .string b] 43)
    have B8 := (B7.kept b8).alloc (.cells #[.string a, .string b] 43)
    have C8 := Blk.new w8 [.string a, .string b] 43
    clear b8 d7 B7
    go_wp2_with fail
    refine (derive_s k ⟨#[99, 108, 105, 101, 110, 116, 32, 97, 112, 112]⟩ _ _ sk (by decide) (by omega)).mono ?_
    rintro e w9 ⟨⟨xa, rfl, hxa⟩, b9⟩
    obtain rfl : a = xa := by rw [ha.out, hxa.out]; rfl
    have B9 := B8.kept b9
    have C9 := C8.kept b9
    have d9 := (d8.trans (b9.mono d8.size))
    clear b9 d8 ha hxa B8 C8
    go_wp2_with fail
    refine (derive_s k ⟨#[115, 101, 114, 118, 101, 114, 32, 97, 112, 112]⟩ _ _ sk (by decide) (by omega)).mono ?_
    rintro e wA ⟨⟨xb, rfl, hxb⟩, bA⟩
    obtain rfl : b = xb := by rw [hb.out, hxb.out]; rfl
    have BA := B9.kept bA
    have CA := C9.kept bA
    have dA := (d9.trans (bA.mono d9.size))
    clear bA d9 hb hxb B9 C9
    have c0 := BA.cell (j := 0) rfl
    have c1 := BA.cell (j := 1) rfl
    have c2 := BA.cell (j := 2) rfl
    have c3 := BA.cell (j := 3) rfl
    have c4 := CA.cell (j := 0) rfl
    have c5 := CA.cell (j := 1) rfl
    go_wp2_with fail
    go_quiet (fail)
    go_wp2_with fail
    go_ret
    first
      | exact ⟨rfl, dA.os, dA.tape, dA.output, dA.size, dA.block⟩
      | exact ⟨rfl, ⟨dA.os, dA.tape, dA.output, dA.size, dA.block⟩⟩

end Go.Proofs.Ytmafbkoneggggaa
