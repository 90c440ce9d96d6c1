/-
  Walk: KeysTranscripts.
-/
import Derived.Test.YtmafbkoneggggaaL4
namespace Go.Proofs.Ytmafbkoneggggaa
open Go.RowKit

def Ch (s y : ByteArray) : Prop := ∃ i x, i < s.size ∧ s.data.toList[i]? ≠ some x ∧ y.data.toList = s.data.toList.set i x

theorem Ch.size {s y : ByteArray} (h : Ch s y) : y.size = s.size := by
  obtain ⟨i, x, _, _, h3⟩ := h
  have := congrArg List.length h3
  rw [List.length_set] at this
  simpa using this
theorem Ch.derB {s y : ByteArray} (h : Ch s y) (k l : List UInt8) : derB k l s.data.toList ≠ derB k l y.data.toList := by
  obtain ⟨i, x, h1, h2, h3⟩ := h
  rw [h3]
  intro e
  exact h2 (derB_set k l _ i x (by simpa using h1) e)
theorem Ch.der {s y : ByteArray} (h : Ch s y) (k : ByteArray) (l : List UInt8) : derS k l s ≠ derS k l y := fun e => h.derB _ _ (toBytes_inj e)
theorem Ch.cli {s y : ByteArray} (h : Ch s y) (k : ByteArray) (l : List UInt8) : cliS k l s ≠ cliS k l y := fun e => h.derB _ _ (toBytes_inj e)
theorem Ch.srv {s y : ByteArray} (h : Ch s y) (k : ByteArray) (l : List UInt8) : srvS k l s ≠ srvS k l y := fun e => h.derB _ _ (toBytes_inj e)
theorem Ch.fin {s y : ByteArray} (h : Ch s y) (k : ByteArray) : finS k s ≠ finS k y := fun e => by
  obtain ⟨i, x, h1, h2, h3⟩ := h
  have e1 := toBytes_inj e
  unfold finB at e1
  rw [h3] at e1
  exact h2 (tagB_set _ _ i x (by simpa using h1) e1)

set_option maxRecDepth 100000 in
set_option maxHeartbeats 8000000 in
theorem transcripts_walk (s t : ByteArray) (c v : Int) (w : World) (hs : s.size ≤ maxLen) (ht : t.size ≤ maxLen) (hc : -9223372036854775808 ≤ c) (hc' : c ≤ 9223372036854775807) (hv : 0 ≤ v) (hv' : v ≤ 255) :
    Calls Try.prog 13 #[.string s, .string t, .int .i64 c, .int .u8 v] w fun e w' => e = .returned (.bool true) ∧ Below w.heap.size w w' := by
  unfold maxLen at hs ht
  have hS := extract_le s 30
  have hT := extract_le t 200
  by_cases hs1 : 30 < s.size <;> by_cases ht1 : 200 < t.size
  all_goals
    go_enter Try.func13, Try.ntmps13
    go_wp2_with fail
    refine (sane5 _).mono ?_
    rintro e w1 ⟨rfl, b1⟩
    go_wp2_with fail
    refine (secret_any _ _ (by unfold maxLen; omega)).mono ?_
    rintro e w2 ⟨⟨k, rfl, sk⟩, b2⟩
    have d2 := (b1.trans (b2.mono b1.size))
    clear b1 b2
    go_wp2_with fail
    refine (changed_any _ c v _ (by rw [ByteArray.size_append]; show 1 ≤ _ + 1; omega) (by rw [ByteArray.size_append]; show _ + 1 ≤ 300; omega) hc hc' hv hv').mono ?_
    rintro e w3 ⟨⟨y, rfl, hy⟩, b3⟩
    have hch : Hid (Ch _ y) := hy
    have d3 := d2.trans (b3.mono d2.size)
    have sy : y.size ≤ 8192 := by rw [hch.out.size, ByteArray.size_append]; show _ + 1 ≤ 8192; omega
    clear b3 d2 hy
    go_wp2_with fail
    refine (hs_s k _ _ sk (by rw [ByteArray.size_append]; show _ + 1 ≤ 8192; omega)).mono ?_
    rintro e w4 ⟨⟨p0, p1, rfl, hp0, hp1⟩, b4⟩
    have d4 := d3.trans (b4.mono d3.size)
    have d4 := d4.alloc d4.size (.cells #[.string p0, .string p1] 43)
    have B0 := Blk.new w4 [.string p0, .string p1] 43
    clear b4 d3
    go_wp2_with fail
    refine (hs_s k y _ sk sy).mono ?_
    rintro e w5 ⟨⟨q0, q1, rfl, hq0, hq1⟩, b5⟩
    have d5 := d4.trans (b5.mono d4.size)
    have d5 := d5.alloc d5.size (.cells #[.string q0, .string q1] 43)
    have B0 := (B0.kept b5).alloc (.cells #[.string q0, .string q1] 43)
    have B1 := Blk.new w5 [.string q0, .string q1] 43
    clear b5 d4
    have n0 : Hid (p0 ≠ q0) := Lib.hid (by rw [hp0.out, hq0.out]; exact hch.out.cli _ _)
    have n1 : Hid (p1 ≠ q1) := Lib.hid (by rw [hp1.out, hq1.out]; exact hch.out.srv _ _)
    clear hp0 hp1 hq0 hq1
    go_wp2_with fail
    refine (app_s k _ _ sk (by rw [ByteArray.size_append]; show _ + 1 ≤ 8192; omega)).mono ?_
    rintro e w6 ⟨⟨p2, p3, rfl, hp2, hp3⟩, b6⟩
    have d6 := d5.trans (b6.mono d5.size)
    have d6 := d6.alloc d6.size (.cells #[.string p2, .string p3] 43)
    have B0 := (B0.kept b6).alloc (.cells #[.string p2, .string p3] 43)
    have B1 := (B1.kept b6).alloc (.cells #[.string p2, .string p3] 43)
    have B2 := Blk.new w6 [.string p2, .string p3] 43
    clear b6 d5
    go_wp2_with fail
    refine (app_s k y _ sk sy).mono ?_
    rintro e w7 ⟨⟨q2, q3, rfl, hq2, hq3⟩, b7⟩
    have d7 := d6.trans (b7.mono d6.size)
    have d7 := d7.alloc d7.size (.cells #[.string q2, .string q3] 43)
    have B0 := (B0.kept b7).alloc (.cells #[.string q2, .string q3] 43)
    have B1 := (B1.kept b7).alloc (.cells #[.string q2, .string q3] 43)
    have B2 := (B2.kept b7).alloc (.cells #[.string q2, .string q3] 43)
    have B3 := Blk.new w7 [.string q2, .string q3] 43
    clear b7 d6
    have n2 : Hid (p2 ≠ q2) := Lib.hid (by rw [hp2.out, hq2.out]; exact hch.out.cli _ _)
    have n3 : Hid (p3 ≠ q3) := Lib.hid (by rw [hp3.out, hq3.out]; exact hch.out.srv _ _)
    clear hp2 hp3 hq2 hq3
    have c00 := B0.cell (j := 0) rfl
    have f00 := B0.frozen 0
    have c01 := B0.cell (j := 1) rfl
    have f01 := B0.frozen 1
    have e0 := ne_list n0.out
    have c10 := B1.cell (j := 0) rfl
    have f10 := B1.frozen 0
    have c11 := B1.cell (j := 1) rfl
    have f11 := B1.frozen 1
    have e1 := ne_list n1.out
    have c20 := B2.cell (j := 0) rfl
    have f20 := B2.frozen 0
    have c21 := B2.cell (j := 1) rfl
    have f21 := B2.frozen 1
    have e2 := ne_list n2.out
    have c30 := B3.cell (j := 0) rfl
    have f30 := B3.frozen 0
    have c31 := B3.cell (j := 1) rfl
    have f31 := B3.frozen 1
    have e3 := ne_list n3.out
    go_wp2_with fail
    clear c00 f00 c01 f01 e0 n0 B0 c10 f10 c11 f11 e1 n1 B1 c20 f20 c21 f21 e2 n2 B2 c30 f30 c31 f31 e3 n3 B3
    refine (resum_s k _ _ sk (by rw [ByteArray.size_append]; show _ + 1 ≤ 8192; omega)).mono ?_
    rintro e w8 ⟨⟨x0, rfl, hx0⟩, b8⟩
    have d8 := d7.trans (b8.mono d7.size)
    clear b8 d7
    go_wp2_with fail
    refine (resum_s k y _ sk sy).mono ?_
    rintro e w9 ⟨⟨y0, rfl, hy0⟩, b9⟩
    have d9 := d8.trans (b9.mono d8.size)
    clear b9 d8
    have m0 : Hid (x0 ≠ y0) := Lib.hid (by rw [hx0.out, hy0.out]; exact hch.out.der _ _)
    clear hx0 hy0
    go_wp2_with fail
    refine (early_s k _ _ sk (by rw [ByteArray.size_append]; show _ + 1 ≤ 8192; omega)).mono ?_
    rintro e w10 ⟨⟨x1, rfl, hx1⟩, b10⟩
    have d10 := d9.trans (b10.mono d9.size)
    clear b10 d9
    go_wp2_with fail
    refine (early_s k y _ sk sy).mono ?_
    rintro e w11 ⟨⟨y1, rfl, hy1⟩, b11⟩
    have d11 := d10.trans (b11.mono d10.size)
    clear b11 d10
    have m1 : Hid (x1 ≠ y1) := Lib.hid (by rw [hx1.out, hy1.out]; exact hch.out.der _ _)
    clear hx1 hy1
    go_wp2_with fail
    refine (fin_s k _ _ sk (by rw [ByteArray.size_append]; show _ + 1 ≤ 8192; omega)).mono ?_
    rintro e w12 ⟨⟨x2, rfl, hx2⟩, b12⟩
    have d12 := d11.trans (b12.mono d11.size)
    clear b12 d11
    go_wp2_with fail
    refine (fin_s k y _ sk sy).mono ?_
    rintro e w13 ⟨⟨y2, rfl, hy2⟩, b13⟩
    have d13 := d12.trans (b13.mono d12.size)
    clear b13 d12
    have m2 : Hid (x2 ≠ y2) := Lib.hid (by rw [hx2.out, hy2.out]; exact hch.out.fin _)
    clear hx2 hy2
    have g0 := ne_list m0.out
    have g1 := ne_list m1.out
    have g2 := ne_list m2.out
    go_wp2_with fail
    go_ret
    exact ⟨rfl, d13⟩

end Go.Proofs.Ytmafbkoneggggaa
