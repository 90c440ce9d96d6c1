/-
  Walk: KeysDirections.
-/
import Derived.Test.YtmafbkoneggggaaL3
import Derived.Test.YtmafbkoneggggaaW8
namespace Go.Proofs.Ytmafbkoneggggaa
open Go.RowKit

set_option maxRecDepth 100000 in
set_option maxHeartbeats 4000000 in
theorem directions_walk (s t : ByteArray) (w : World) (hs : s.size ≤ maxLen) (ht : t.size ≤ maxLen) :
    Calls Try.prog 10 #[.string s, .string t] w fun e w' => e = .returned (.bool true) ∧ Below w.heap.size w w' := by
  unfold maxLen at hs ht
  have hS := extract_le s 30
  have hT := extract_le t 200
  by_cases hs1 : 30 < s.size <;> by_cases ht1 : 200 < t.size
  all_goals
    go_enter Try.func10, Try.ntmps10
    go_wp2_with fail
    refine (sane5 _).mono ?_
    rintro e w1 ⟨rfl, b1⟩
    go_wp2_with fail
    refine (secret_any _ _ (by unfold maxLen; omega)).mono ?_
    rintro e w2 ⟨⟨k, rfl, sk⟩, b2⟩
    go_wp2_with fail
    refine (stretch8 _ _ (by unfold maxLen; omega)).mono ?_
    rintro e w3 ⟨⟨d, rfl, sd⟩, b3⟩
    have d3 := (b1.trans (b2.mono b1.size))
    have d3 := (d3.trans (b3.mono d3.size))
    clear b1 b2 b3
    go_wp2_with fail
    refine (init_s k d _ sk sd).mono ?_
    rintro e w4 ⟨⟨a, b, rfl, ha, hb⟩, b4⟩
    have hab : Hid (a ≠ b) := Lib.hid (by rw [ha.out, hb.out]; exact cliS_ne _ _ _)
    have d4 := d3.trans (b4.mono d3.size)
    have A4 := Blk.new w4 [.string a, .string b] 43
    have d4 := d4.alloc d4.size (.cells #[.string a, .string b] 43)
    clear d3 b4 ha hb
    go_wp2_with fail
    refine (hs_s k _ _ sk (by omega)).mono ?_
    rintro e w5 ⟨⟨a1, b1, rfl, ha1, hb1⟩, b5⟩
    have hab1 : Hid (a1 ≠ b1) := Lib.hid (by rw [ha1.out, hb1.out]; exact cliS_ne _ _ _)
    have d5 := d4.trans (b5.mono d4.size)
    have A5 := (A4.kept b5).alloc (.cells #[.string a1, .string b1] 43)
    have C5 := Blk.new w5 [.string a1, .string b1] 43
    have d5 := d5.alloc d5.size (.cells #[.string a1, .string b1] 43)
    clear d4 b5 ha1 hb1 A4
    go_wp2_with fail
    refine (app_s k _ _ sk (by omega)).mono ?_
    rintro e w6 ⟨⟨a2, b2, rfl, ha2, hb2⟩, b6⟩
    have hab2 : Hid (a2 ≠ b2) := Lib.hid (by rw [ha2.out, hb2.out]; exact cliS_ne _ _ _)
    have d6 := d5.trans (b6.mono d5.size)
    have A6 := (A5.kept b6).alloc (.cells #[.string a2, .string b2] 43)
    have C6 := (C5.kept b6).alloc (.cells #[.string a2, .string b2] 43)
    have E6 := Blk.new w6 [.string a2, .string b2] 43
    have d6 := d6.alloc d6.size (.cells #[.string a2, .string b2] 43)
    clear d5 b6 ha2 hb2 A5 C5
    have c0 := A6.cell (j := 0) rfl
    have f0 := A6.frozen 0
    have c1 := A6.cell (j := 1) rfl
    have f1 := A6.frozen 1
    have c2 := C6.cell (j := 0) rfl
    have f2 := C6.frozen 0
    have c3 := C6.cell (j := 1) rfl
    have f3 := C6.frozen 1
    have c4 := E6.cell (j := 0) rfl
    have f4 := E6.frozen 0
    have c5 := E6.cell (j := 1) rfl
    have f5 := E6.frozen 1
    have eab := ne_list hab.out
    have eab1 := ne_list hab1.out
    have eab2 := ne_list hab2.out
    go_wp2_with fail
    go_ret
    exact ⟨rfl, d6⟩

end Go.Proofs.Ytmafbkoneggggaa
