/-
  Walk: KeysConnectionIDs.
-/
import Derived.Test.YtmafbkoneggggaaL3
import Derived.Test.YtmafbkoneggggaaW8
namespace Go.Proofs.Ytmafbkoneggggaa
open Go.RowKit

theorem cliS_id {k x y : ByteArray} (hx : x.size = 8) (hy : y.size = 8) : cliS k lInit x = cliS k lInit y ↔ x = y :=
  ⟨fun h => bytes_ext (cli_id _ _ _ hx hy (toBytes_inj h)), fun h => h ▸ rfl⟩
theorem srvS_id {k x y : ByteArray} (hx : x.size = 8) (hy : y.size = 8) : srvS k lInit x = srvS k lInit y ↔ x = y :=
  ⟨fun h => bytes_ext (srv_id _ _ _ hx hy (toBytes_inj h)), fun h => h ▸ rfl⟩
theorem beq_same {a b x y : ByteArray} (h : a = b ↔ x = y) : ((a.toList == b.toList) == (x.toList == y.toList)) = true := by
  by_cases e : x = y
  · rw [eq_list (h.2 e), eq_list e]; rfl
  · rw [ne_list (fun f => e (h.1 f)), ne_list e]; rfl

set_option maxRecDepth 100000 in
set_option maxHeartbeats 4000000 in
theorem ids_walk (s p q : ByteArray) (w : World) (hs : s.size ≤ maxLen) (hp : p.size ≤ maxLen) (hq : q.size ≤ maxLen) :
    Calls Try.prog 8 #[.string s, .string p, .string q] w fun e w' => e = .returned (.bool true) ∧ Below w.heap.size w w' := by
  unfold maxLen at hs hp hq
  have hS := extract_le s 30
  have hP := extract_le p 20
  have hQ := extract_le q 20
  by_cases hs1 : 30 < s.size <;> by_cases hp1 : 20 < p.size <;> by_cases hq1 : 20 < q.size
  all_goals
    go_enter Try.func8, Try.ntmps8
    go_wp2_with fail
    refine (sane5 _).mono ?_
    rintro e w1 ⟨rfl, b1⟩
    go_wp2_with fail
    refine (secret_any _ _ (by unfold maxLen; omega)).mono ?_
    rintro e w2 ⟨⟨k, rfl, sk⟩, b2⟩
    have d2 := (b1.trans (b2.mono b1.size))
    go_wp2_with fail
    refine (stretch8 _ _ (by unfold maxLen; omega)).mono ?_
    rintro e w3 ⟨⟨x, rfl, sx⟩, b3⟩
    have d3 := (d2.trans (b3.mono d2.size))
    clear b1 b2 b3 d2
    go_wp2_with fail
    refine (stretch8 _ _ (by unfold maxLen; omega)).mono ?_
    rintro e w4 ⟨⟨y, rfl, sy⟩, b4⟩
    have d4 := (d3.trans (b4.mono d3.size))
    clear b4 d3 hs hp hq hS hP hQ hs1 hp1 hq1
    go_wp2_with fail
    refine (init_s k x _ sk sx).mono ?_
    rintro e w5 ⟨⟨a, b, rfl, ha, hb⟩, b5⟩
    have d5 := d4.trans (b5.mono d4.size)
    have A5 := Blk.new w5 [.string a, .string b] 43
    have d5 := d5.alloc d5.size (.cells #[.string a, .string b] 43)
    clear d4 b5
    go_wp2_with fail
    refine (init_s k y _ sk sy).mono ?_
    rintro e w6 ⟨⟨c, d, rfl, hc, hd⟩, b6⟩
    have h1 : Hid (((a.toList == c.toList) == (x.toList == y.toList)) = true) := Lib.hid (by rw [ha.out, hc.out]; exact beq_same (cliS_id sx.out sy.out))
    have h2 : Hid (((b.toList == d.toList) == (x.toList == y.toList)) = true) := Lib.hid (by rw [hb.out, hd.out]; exact beq_same (srvS_id sx.out sy.out))
    have d6 := d5.trans (b6.mono d5.size)
    have A6 := (A5.kept b6).alloc (.cells #[.string c, .string d] 43)
    have C6 := Blk.new w6 [.string c, .string d] 43
    have d6 := d6.alloc d6.size (.cells #[.string c, .string d] 43)
    clear d5 b6 ha hb hc hd A5
    have c0 := A6.cell (j := 0) rfl
    have f0 := A6.frozen 0
    have c1 := A6.cell (j := 1) rfl
    have f1 := A6.frozen 1
    have c2 := C6.cell (j := 0) rfl
    have f2 := C6.frozen 0
    have c3 := C6.cell (j := 1) rfl
    have f3 := C6.frozen 1
    have e1 := h1.out
    have e2 := h2.out
    go_wp2_with fail
    go_ret
    exact ⟨rfl, d6⟩

end Go.Proofs.Ytmafbkoneggggaa
