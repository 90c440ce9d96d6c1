/-
  Walk: KeysMatchesReference.
-/
import Derived.Test.YtmafbkoneggggaaV6
import Derived.Test.YtmafbkoneggggaaL3
import Derived.Test.YtmafbkoneggggaaW8
namespace Go.Proofs.Ytmafbkoneggggaa
open Go.RowKit

theorem pick2 (a b : ByteArray) (n : Nat) (h : n < 2) : ∃ k : ByteArray, [Value.string a, Value.string b][n]? = some (.string k) := by
  have : n = 0 ∨ n = 1 := by omega
  rcases this with rfl | rfl
  · exact ⟨a, rfl⟩
  · exact ⟨b, rfl⟩

set_option maxRecDepth 100000 in
set_option maxHeartbeats 8000000 in
theorem reference_walk (s t : ByteArray) (w : World) (hs : s.size ≤ maxLen) (ht : t.size ≤ maxLen) :
    Calls Try.prog 11 #[.string s, .string t] w fun e w' => e = .returned (.bool true) ∧ Below w.heap.size w w' := by
  unfold maxLen at hs ht
  have hS := extract_le s 100
  have hT := extract_le t 100
  by_cases hs1 : 100 < s.size <;> by_cases ht1 : 100 < t.size
  all_goals
    go_enter Try.func11, Try.ntmps11
    go_wp2_with fail
    refine (sane5 _).mono ?_
    rintro e w1 ⟨rfl, b1⟩
    go_wp2_with fail
    refine (secret_any _ _ (by unfold maxLen; omega)).mono ?_
    rintro e w2 ⟨⟨sec, rfl, ssec⟩, b2⟩
    have d2 := (b1.trans (b2.mono b1.size))
    clear b1 b2 ssec
    go_wp2_with fail
    first
      | (have hx : s.size ≤ 100 := by omega
         clear hS hs1 hs
         obtain ⟨F, rfl⟩ : ∃ F : ByteArray, F = s := ⟨_, rfl⟩
         have hF : F.size ≤ 100 := hx
         clear hx)
      | (clear hs1 hs
         generalize s.extract 0 100 = F at hS ⊢
         have hF : F.size ≤ 100 := hS
         clear hS)
    first
      | (have hx : t.size ≤ 100 := by omega
         clear hT ht1 ht
         obtain ⟨G, rfl⟩ : ∃ G : ByteArray, G = t := ⟨_, rfl⟩
         have hG : G.size ≤ 100 := hx
         clear hx)
      | (clear ht1 ht
         generalize t.extract 0 100 = G at hT ⊢
         have hG : G.size ≤ 100 := hT
         clear hT)
    have S2 := Blk.new w2 [.string F, .string sec] 9
    have d2 := d2.alloc d2.size (.cells #[.string F, .string sec] 9)
    obtain ⟨bs, hbs⟩ : ∃ bs, bs = w2.heap.size := ⟨_, rfl⟩
    obtain ⟨W2, hW2⟩ : ∃ W2, w2.alloc (.cells #[.string F, .string sec] 9) = W2 := ⟨_, rfl⟩
    have S3 : Blk W2 bs [.string F, .string sec] 9 := by rw [← hW2, hbs]; exact S2
    have d3 : Below w.heap.size w W2 := by rw [← hW2]; exact d2
    rw [hW2, ← hbs]
    clear hW2 hbs S2 d2
    go_loopw [40] (fun i wr => ∃ n : Nat, n ≤ 2 ∧ i = .int .i64 n ∧ Blk wr bs [.string F, .string sec] 9 ∧ Below w.heap.size w wr) (fun i _ => 2 - (intOf i).toNat)
    case atStart => exact ⟨0, by omega, rfl, S3, d3⟩
    case round =>
      obtain ⟨n, hn, rfl, S, d⟩ := hrel
      clear S3 d3
      by_cases hlt : n < 2
      · obtain ⟨k, hk⟩ := pick2 F sec n hlt
        have c0 := S.cell hk
        have HK := Lib.hid hk
        clear hk
        go_wp2_with fail
        refine (expand_u k _).mono ?_
        rintro e w3 ⟨⟨a1, a2, a3, a4, z, rfl, ha1, ha2, ha3, ha4, hz⟩, b3⟩
        have S4 := (S.kept b3).alloc (.cells #[.string a1, .string a2, .string a3, .string a4] 48)
        have A4 := Blk.new w3 [.string a1, .string a2, .string a3, .string a4] 48
        have d4 := d.trans (b3.mono d.size)
        have d4 := d4.alloc d4.size (.cells #[.string a1, .string a2, .string a3, .string a4] 48)
        clear b3 S d c0
        go_wp2_with fail
        refine (rexpand_u k _).mono ?_
        rintro e w5 ⟨⟨e1, e2, e3, e4, y, rfl, he1, he2, he3, he4, hy⟩, b5⟩
        obtain rfl : a1 = e1 := by rw [ha1.out, he1.out]
        obtain rfl : a2 = e2 := by rw [ha2.out, he2.out]
        obtain rfl : a3 = e3 := by rw [ha3.out, he3.out]
        obtain rfl : a4 = e4 := by rw [ha4.out, he4.out]
        obtain rfl : z = y := by rw [hz.out, hy.out]
        have S5 := (S4.kept b5).alloc (.cells #[.string a1, .string a2, .string a3, .string a4] 48)
        have A5 := (A4.kept b5).alloc (.cells #[.string a1, .string a2, .string a3, .string a4] 48)
        have E5 := Blk.new w5 [.string a1, .string a2, .string a3, .string a4] 48
        have d5 := d4.trans (b5.mono d4.size)
        have d5 := d5.alloc d5.size (.cells #[.string a1, .string a2, .string a3, .string a4] 48)
        clear b5 S4 A4 d4 ha1 ha2 ha3 ha4 he1 he2 he3 he4 hz hy
        go_wp2_with fail
        refine (next_u k _).mono ?_
        rintro e w6 ⟨⟨p, x, rfl, hp, hx⟩, b6⟩
        have S6 := S5.kept b6
        have A6 := A5.kept b6
        have E6 := E5.kept b6
        have d6 := d5.trans (b6.mono d5.size)
        clear b6 S5 A5 E5 d5
        go_wp2_with fail
        refine (rnext_u k _).mono ?_
        rintro e w7 ⟨⟨p', x', rfl, hp', hx'⟩, b7⟩
        obtain rfl : p = p' := by rw [hp.out, hp'.out]
        obtain rfl : x = x' := by rw [hx.out, hx'.out]
        have S7 := S6.kept b7
        have A7 := A6.kept b7
        have E7 := E6.kept b7
        have d7 := d6.trans (b7.mono d6.size)
        clear b7 S6 A6 E6 d6 hp hx hp' hx'
        have q1 := A7.cell (j := 0) rfl
        have q2 := A7.cell (j := 1) rfl
        have q3 := A7.cell (j := 2) rfl
        have q4 := A7.cell (j := 3) rfl
        have q5 := E7.cell (j := 0) rfl
        have q6 := E7.cell (j := 1) rfl
        have q7 := E7.cell (j := 2) rfl
        have q8 := E7.cell (j := 3) rfl
        go_wp2_with fail
        refine (stretch8 G _ (by unfold maxLen; omega)).mono ?_
        rintro e w8 ⟨⟨id8, rfl, hid8⟩, b8⟩
        have S8 := (S7.kept b8).alloc (.cells #[.string G, .string id8] 9)
        have T8 := Blk.new w8 [.string G, .string id8] 9
        have d8 := d7.trans (b8.mono d7.size)
        have d8 := d8.alloc d8.size (.cells #[.string G, .string id8] 9)
        clear b8 S7 A7 E7 d7 q1 q2 q3 q4 q5 q6 q7 q8 hid8
        go_wp2_with fail
        obtain ⟨bt, hbt⟩ : ∃ bt, bt = w8.heap.size := ⟨_, rfl⟩
        obtain ⟨W8, hW8⟩ : ∃ W8, w8.alloc (.cells #[.string G, .string id8] 9) = W8 := ⟨_, rfl⟩
        have S9 : Blk W8 bs [.string F, .string sec] 9 := by rw [← hW8]; exact S8
        have T9 : Blk W8 bt [.string G, .string id8] 9 := by rw [← hW8, hbt]; exact T8
        have d9 : Below w.heap.size w W8 := by rw [← hW8]; exact d8
        rw [hW8, ← hbt]
        clear hW8 hbt S8 T8 d8
        obtain ⟨wo, rfl⟩ : ∃ wo : World, wo = wr := ⟨_, rfl⟩
        go_loopw [87] (fun i wr => ∃ m : Nat, m ≤ 2 ∧ i = .int .i64 m ∧ Blk wr bs [.string F, .string sec] 9 ∧ Blk wr bt [.string G, .string id8] 9 ∧ Below w.heap.size w wr) (fun i _ => 2 - (intOf i).toNat)
        case atStart => exact ⟨0, by omega, rfl, S9, T9, d9⟩
        case round =>
          obtain ⟨m, hm, rfl, S, T, d⟩ := hrel
          clear S9 T9 d9
          by_cases hml : m < 2
          · obtain ⟨c, hc⟩ := pick2 G id8 m hml
            have c0 := T.cell hc
            clear hc
            go_wp2_with fail
            refine (init_u k c _).mono ?_
            rintro e v3 ⟨⟨a, b, z, rfl, ha, hb, hz⟩, b3⟩
            have S1 := (S.kept b3).alloc (.cells #[.string a, .string b] 43)
            have T1 := (T.kept b3).alloc (.cells #[.string a, .string b] 43)
            have A1 := Blk.new v3 [.string a, .string b] 43
            have d1 := d.trans (b3.mono d.size)
            have d1 := d1.alloc d1.size (.cells #[.string a, .string b] 43)
            clear b3 S T d c0
            go_wp2_with fail
            refine (rinit_u k c _).mono ?_
            rintro e v4 ⟨⟨a', b', z', rfl, ha', hb', hz'⟩, b4⟩
            obtain rfl : a = a' := by rw [ha.out, ha'.out]
            obtain rfl : b = b' := by rw [hb.out, hb'.out]
            obtain rfl : z = z' := by rw [hz.out, hz'.out]
            have S2 := (S1.kept b4).alloc (.cells #[.string a, .string b] 43)
            have T2 := (T1.kept b4).alloc (.cells #[.string a, .string b] 43)
            have A2 := (A1.kept b4).alloc (.cells #[.string a, .string b] 43)
            have E2 := Blk.new v4 [.string a, .string b] 43
            have d2 := d1.trans (b4.mono d1.size)
            have d2 := d2.alloc d2.size (.cells #[.string a, .string b] 43)
            clear b4 S1 T1 A1 d1 ha hb hz ha' hb' hz'
            have q1 := A2.cell (j := 0) rfl
            have q2 := A2.cell (j := 1) rfl
            have q3 := E2.cell (j := 0) rfl
            have q4 := E2.cell (j := 1) rfl
            go_wp2_with fail
            clear q1 q2 q3 q4
            go_roundw
            case rel => exact ⟨m + 1, by omega, by go_num, S2, T2, d2⟩
            case measure => simp [intOf]; omega
          · obtain rfl : m = 2 := by omega
            go_wp2_with fail
            refine (sameSecrets_any k G _ (by omega)).mono ?_
            rintro e v3 ⟨rfl, b3⟩
            go_wp2_with fail
            refine (sameStrings_any k G _ (by omega)).mono ?_
            rintro e v4 ⟨rfl, b4⟩
            have S1 := (S.kept b3).kept b4
            have d1 := d.trans (b3.mono d.size)
            have d2 := d1.trans (b4.mono d1.size)
            clear b3 b4 d d1 S T
            go_wp2_with fail
            go_roundw
            case rel => exact ⟨n + 1, by omega, by go_num, S1, d2⟩
            case measure => simp [intOf]; omega
      · obtain rfl : n = 2 := by omega
        go_wp2_with fail
        go_ret
        exact ⟨rfl, d⟩


end Go.Proofs.Ytmafbkoneggggaa
