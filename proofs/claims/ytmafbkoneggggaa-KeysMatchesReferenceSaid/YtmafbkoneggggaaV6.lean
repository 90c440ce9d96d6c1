/-
  Walks: the helpers of KeysMatchesReference.
-/
import Derived.Test.YtmafbkoneggggaaS2
namespace Go.Proofs.Ytmafbkoneggggaa
open Go.RowKit

set_option maxRecDepth 100000 in
set_option maxHeartbeats 4000000 in
theorem sameSecrets_any (k c : ByteArray) (w : World) (hc : c.size ≤ 8192) :
    Calls Try.prog 34 #[.string k, .string c] w fun e w' => e = .returned (.bool true) ∧ Below w.heap.size w w' := by
  go_enter Try.func34, Try.ntmps34
  go_wp2_with fail
  refine (hs_u k c _ hc).mono ?_
  rintro e w1 ⟨⟨a, b, z, rfl, ha, hb, hz⟩, b1⟩
  have B1 := Blk.new w1 [.string a, .string b] 43
  have d1 := b1.alloc b1.size (.cells #[.string a, .string b] 43)
  clear b1
  go_wp2_with fail
  refine (rhs_u k c _ hc).mono ?_
  rintro e w2 ⟨⟨a', b', z', rfl, ha', hb', hz'⟩, b2⟩
  obtain rfl : a = a' := by rw [ha.out, ha'.out]
  obtain rfl : b = b' := by rw [hb.out, hb'.out]
  obtain rfl : z = z' := by rw [hz.out, hz'.out]
  have B2 := (B1.kept b2).alloc (.cells #[.string a, .string b] 43)
  have C2 := Blk.new w2 [.string a, .string b] 43
  have d2 := d1.trans (b2.mono d1.size)
  have d2 := d2.alloc d2.size (.cells #[.string a, .string b] 43)
  clear B1 b2 d1 ha hb hz ha' hb' hz'
  go_wp2_with fail
  refine (app_u k c _ hc).mono ?_
  rintro e w3 ⟨⟨p, q, y, rfl, hp, hq, hy⟩, b3⟩
  have B3 := (B2.kept b3).alloc (.cells #[.string p, .string q] 43)
  have C3 := (C2.kept b3).alloc (.cells #[.string p, .string q] 43)
  have D3 := Blk.new w3 [.string p, .string q] 43
  have d3 := d2.trans (b3.mono d2.size)
  have d3 := d3.alloc d3.size (.cells #[.string p, .string q] 43)
  clear B2 C2 b3 d2
  go_wp2_with fail
  refine (rapp_u k c _ hc).mono ?_
  rintro e w4 ⟨⟨p', q', y', rfl, hp', hq', hy'⟩, b4⟩
  obtain rfl : p = p' := by rw [hp.out, hp'.out]
  obtain rfl : q = q' := by rw [hq.out, hq'.out]
  obtain rfl : y = y' := by rw [hy.out, hy'.out]
  have B4 := (B3.kept b4).alloc (.cells #[.string p, .string q] 43)
  have C4 := (C3.kept b4).alloc (.cells #[.string p, .string q] 43)
  have D4 := (D3.kept b4).alloc (.cells #[.string p, .string q] 43)
  have E4 := Blk.new w4 [.string p, .string q] 43
  have d4 := d3.trans (b4.mono d3.size)
  have d4 := d4.alloc d4.size (.cells #[.string p, .string q] 43)
  clear B3 C3 D3 b4 d3 hp hq hy hp' hq' hy'
  have c0 := B4.cell (j := 0) rfl
  have c1 := B4.cell (j := 1) rfl
  have c2 := C4.cell (j := 0) rfl
  have c3 := C4.cell (j := 1) rfl
  have c4 := D4.cell (j := 0) rfl
  have c5 := D4.cell (j := 1) rfl
  have c6 := E4.cell (j := 0) rfl
  have c7 := E4.cell (j := 1) rfl
  go_wp2_with fail
  go_ret
  exact ⟨rfl, d4⟩

set_option maxRecDepth 100000 in
set_option maxHeartbeats 4000000 in
theorem sameStrings_any (k c : ByteArray) (w : World) (hc : c.size ≤ 8192) :
    Calls Try.prog 35 #[.string k, .string c] w fun e w' => e = .returned (.bool true) ∧ Below w.heap.size w w' := by
  go_enter Try.func35, Try.ntmps35
  go_wp2_with fail
  refine (early_u k c _ hc).mono ?_
  rintro e w1 ⟨⟨a, z, rfl, ha, hz⟩, b1⟩
  go_wp2_with fail
  refine (rearly_u k c _ hc).mono ?_
  rintro e w2 ⟨⟨a', z', rfl, ha', hz'⟩, b2⟩
  obtain rfl : a = a' := by rw [ha.out, ha'.out]
  obtain rfl : z = z' := by rw [hz.out, hz'.out]
  have d2 := b1.trans (b2.mono b1.size)
  clear b1 b2 ha hz ha' hz'
  go_wp2_with fail
  refine (resum_u k c _ hc).mono ?_
  rintro e w3 ⟨⟨p, y, rfl, hp, hy⟩, b3⟩
  have d3 := d2.trans (b3.mono d2.size)
  clear b3 d2
  go_wp2_with fail
  refine (rresum_u k c _ hc).mono ?_
  rintro e w4 ⟨⟨p', y', rfl, hp', hy'⟩, b4⟩
  obtain rfl : p = p' := by rw [hp.out, hp'.out]
  obtain rfl : y = y' := by rw [hy.out, hy'.out]
  have d4 := d3.trans (b4.mono d3.size)
  clear b4 d3 hp hy hp' hy'
  go_wp2_with fail
  refine (fin_u k c _ hc).mono ?_
  rintro e w5 ⟨⟨q, x, rfl, hq, hx⟩, b5⟩
  have d5 := d4.trans (b5.mono d4.size)
  clear b5 d4
  go_wp2_with fail
  refine (rfin_u k c _ hc).mono ?_
  rintro e w6 ⟨⟨q', x', rfl, hq', hx'⟩, b6⟩
  obtain rfl : q = q' := by rw [hq.out, hq'.out]
  obtain rfl : x = x' := by rw [hx.out, hx'.out]
  have d6 := d5.trans (b6.mono d5.size)
  clear b6 d5 hq hx hq' hx'
  go_wp2_with fail
  go_ret
  exact ⟨rfl, d6⟩

end Go.Proofs.Ytmafbkoneggggaa
