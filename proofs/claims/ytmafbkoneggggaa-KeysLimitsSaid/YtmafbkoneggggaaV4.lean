/-
  Walk: KeysLimits.
-/
import Derived.Test.YtmafbkoneggggaaL3
import Derived.Test.YtmafbkoneggggaaL5
import Derived.Test.YtmafbkoneggggaaW8
namespace Go.Proofs.Ytmafbkoneggggaa
open Go.RowKit

theorem conv_one (w : World) (u : UInt8) : (convert 30 9 (.slice (some ⟨w.heap.size, 0, none⟩) 1 1)).run Try.prog (w.alloc (.cells #[.int .u8 u.toNat] 5)) = .ok (.string ⟨#[u]⟩) (w.alloc (.cells #[.int .u8 u.toNat] 5)) :=
  conv_len (l := [u]) (Blk.new w [.int .u8 u.toNat] 5) rfl

theorem stretchMax (s : ByteArray) (w : World) (hs : s.size ≤ maxLen) :
    Calls Try.prog 24 #[.string s, .int .i64 8192] w fun e w' => (∃ x : ByteArray, e = .returned (.string x) ∧ Hid (x.size = 8192)) ∧ Below w.heap.size w w' :=
  (stretch_any s 8192 w hs (by omega) (by omega) (mk_any 8192 (Nat.le_refl _))).mono fun e w' ⟨⟨X, h1, h2⟩, h3⟩ => ⟨⟨⟨X.toArray⟩, h1, Lib.hid (by show X.toArray.size = 8192; simpa using h2)⟩, h3⟩

set_option maxRecDepth 100000 in
set_option maxHeartbeats 4000000 in
theorem limits_walk (s : ByteArray) (v : Int) (w : World) (hs : s.size ≤ maxLen) (hv : 0 ≤ v) (hv' : v ≤ 255) :
    Calls Try.prog 12 #[.string s, .int .u8 v] w fun e w' => e = .returned (.bool true) ∧ Below w.heap.size w w' := by
  unfold maxLen at hs
  have hS := extract_le s 30
  obtain ⟨u, rfl⟩ : ∃ u : UInt8, v = u.toNat := ⟨_, u8_as v hv hv'⟩
  clear hv hv'
  by_cases hs1 : 30 < s.size
  all_goals
    go_enter Try.func12, Try.ntmps12
    go_wp2_with fail
    refine (sane5 _).mono ?_
    rintro e w1 ⟨rfl, b1⟩
    go_wp2_with fail
    refine (secret_any _ _ (by unfold maxLen; omega)).mono ?_
    rintro e w2 ⟨⟨k, rfl, sk⟩, b2⟩
    have d2 := (b1.trans (b2.mono b1.size))
    have d2 := d2.alloc d2.size (.cells #[.int .u8 u.toNat] 5)
    have hcv := conv_one w2 u
    clear b1 b2 hs hS hs1
    go_wp2_with fail
    refine (stretchMax _ _ (by show (1 : Nat) ≤ _; unfold maxLen; omega)).mono ?_
    rintro e w3 ⟨⟨x, rfl, sx⟩, b3⟩
    have d3 := (d2.trans (b3.mono d2.size))
    clear b3 d2 hcv
    have hx1 : x.size ≤ 8192 := Nat.le_of_eq sx.out
    have hy : Hid (¬ k.size = 16 ∨ (k.size = 16 ∧ 8192 < (x ++ ⟨#[97]⟩ : ByteArray).size)) := Lib.hid (Or.inr ⟨sk.out, by rw [ByteArray.size_append, sx.out]; decide⟩)
    go_wp2_with fail
    refine (hs_s k x _ sk (Nat.le_of_eq sx.out)).mono ?_
    rintro e w4 ⟨⟨a, b, rfl, ha, hb⟩, b4⟩
    have d4 := d3.trans (b4.mono d3.size)
    have d4 := d4.alloc d4.size (.cells #[.string a, .string b] 43)
    clear d3 b4 ha hb
    go_wp2_with fail
    refine (fin_s k x _ sk (Nat.le_of_eq sx.out)).mono ?_
    rintro e w5 ⟨⟨f, rfl, hf⟩, b5⟩
    have d5 := d4.trans (b5.mono d4.size)
    clear d4 b5 hf
    go_wp2_with fail
    refine (hs_err k _ _ hy).mono ?_
    rintro e w6 ⟨rfl, b6⟩
    have d6 := d5.trans (b6.mono d5.size)
    have d6 := d6.alloc d6.size (.cells #[.string ⟨#[]⟩, .string ⟨#[]⟩] 43)
    clear d5 b6
    go_wp2_with fail
    refine (app_err k _ _ hy).mono ?_
    rintro e w7 ⟨rfl, b7⟩
    have d7 := d6.trans (b7.mono d6.size)
    have d7 := d7.alloc d7.size (.cells #[.string ⟨#[]⟩, .string ⟨#[]⟩] 43)
    clear d6 b7
    go_wp2_with fail
    refine (early_err k _ _ hy).mono ?_
    rintro e w8 ⟨rfl, b8⟩
    have d8 := d7.trans (b8.mono d7.size)
    clear d7 b8
    go_wp2_with fail
    refine (resum_err k _ _ hy).mono ?_
    rintro e w9 ⟨rfl, b9⟩
    have d9 := d8.trans (b9.mono d8.size)
    clear d8 b9
    go_wp2_with fail
    refine (fin_err k _ _ hy).mono ?_
    rintro e wA ⟨rfl, bA⟩
    have dA := d9.trans (bA.mono d9.size)
    clear d9 bA
    go_wp2_with fail
    go_ret
    exact ⟨rfl, dA⟩

end Go.Proofs.Ytmafbkoneggggaa
