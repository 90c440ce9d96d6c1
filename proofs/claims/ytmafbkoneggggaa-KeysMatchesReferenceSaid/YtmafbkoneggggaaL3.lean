/-
  Walk: sane of chapter 5.
-/
import Derived.Test.YtmafbkoneggggaaS1
namespace Go.Proofs.Ytmafbkoneggggaa
open Go.RowKit

set_option maxRecDepth 100000 in
set_option maxHeartbeats 2000000 in
theorem sane5 (w : World) : Calls Try.prog 22 #[] w fun e w' => e = .returned (.bool true) ∧ Below w.heap.size w w' := by
  go_enter Try.func22, Try.ntmps22
  go_wp2_with fail
  refine (init_s ⟨#[48, 49, 50, 51, 52, 53, 54, 55, 56, 57, 97, 98, 99, 100, 101, 102]⟩ ⟨#[49, 50, 51, 52, 53, 54, 55, 56]⟩ _ (Lib.hid (by decide)) (Lib.hid (by decide))).mono ?_
  rintro e w1 ⟨⟨a, b, rfl, ha, hb⟩, b1⟩
  have sa : Hid (a.size = 16) := Lib.hid (by rw [ha.out]; exact cliS_size _ _ _)
  have sb : Hid (b.size = 16) := Lib.hid (by rw [hb.out]; exact srvS_size _ _ _)
  have hab : Hid (a ≠ b) := Lib.hid (by rw [ha.out, hb.out]; exact cliS_ne _ _ _)
  clear ha hb
  go_wp2_with fail
  have A1 := Blk.new w1 [.string a, .string b] 43
  have d1 := b1.alloc b1.size (.cells #[.string a, .string b] 43)
  refine (expand_s a _ sa).mono ?_
  rintro e w2 ⟨⟨k, i, m, p, rfl, hk, hi, hm, hp⟩, b2⟩
  have sk : Hid (k.size = 16) := Lib.hid (by rw [hk.out]; exact derS_size _ _ _)
  have si : Hid (i.size = 8) := Lib.hid hi.out.2
  have sm : Hid (m.size = 16) := Lib.hid (by rw [hm.out]; exact derS_size _ _ _)
  have sp : Hid (p.size = 16) := Lib.hid (by rw [hp.out]; exact derS_size _ _ _)
  clear hk hi hm hp
  have A2 := A1.kept b2
  have d2 := d1.trans (b2.mono d1.size)
  clear A1 d1 b1 b2
  go_wp2_with fail
  have K3 := Blk.new w2 [.string k, .string i, .string m, .string p] 48
  have A3 := A2.alloc (.cells #[.string k, .string i, .string m, .string p] 48)
  have d3 := d2.alloc d2.size (.cells #[.string k, .string i, .string m, .string p] 48)
  refine (expand_err ⟨#[115, 104, 111, 114, 116]⟩ _ (Lib.hid (by decide))).mono ?_
  rintro e w4 ⟨rfl, b4⟩
  have A4 := (A3.kept b4).alloc (.cells #[.string ⟨#[]⟩, .string ⟨#[]⟩, .string ⟨#[]⟩, .string ⟨#[]⟩] 48)
  have K4 := (K3.kept b4).alloc (.cells #[.string ⟨#[]⟩, .string ⟨#[]⟩, .string ⟨#[]⟩, .string ⟨#[]⟩] 48)
  have d4 := d3.trans (b4.mono d3.size)
  have d4 := d4.alloc d4.size (.cells #[.string ⟨#[]⟩, .string ⟨#[]⟩, .string ⟨#[]⟩, .string ⟨#[]⟩] 48)
  clear A2 A3 K3 d2 d3 b4
  have c1 := A4.cell (j := 1) rfl
  have f1 := A4.frozen 1
  go_wp2_with fail
  refine (fin_s b ⟨#[]⟩ _ sb (by decide)).mono ?_
  rintro e w5 ⟨⟨t, rfl, ht⟩, b5⟩
  have st : Hid (t.size = 8) := Lib.hid (by rw [ht.out]; exact finS_size _ _)
  have A5 := A4.kept b5
  have K5 := K4.kept b5
  have d5 := d4.trans (b5.mono d4.size)
  clear A4 K4 d4 b5 c1 f1 ht
  have c1 := A5.cell (j := 0) rfl
  have f1 := A5.frozen 0
  go_wp2_with fail
  refine (next_s a _ sa).mono ?_
  rintro e w6 ⟨⟨n, rfl, hn⟩, b6⟩
  have sn : Hid (n.size = 16) := Lib.hid (by rw [hn.out]; exact derS_size _ _ _)
  have A6 := A5.kept b6
  have K6 := K5.kept b6
  have d6 := d5.trans (b6.mono d5.size)
  clear A5 K5 d5 b6 c1 f1 hn
  go_wp2_with fail
  refine (init_size ⟨#[48, 49, 50, 51, 52, 53, 54, 55, 56, 57, 97, 98, 99, 100, 101, 102]⟩ ⟨#[49, 50, 51, 52, 53, 54, 55]⟩ _ (by decide)).mono ?_
  rintro e w7 ⟨rfl, b7⟩
  have A7 := (A6.kept b7).alloc (.cells #[.string ⟨#[]⟩, .string ⟨#[]⟩] 43)
  have K7 := (K6.kept b7).alloc (.cells #[.string ⟨#[]⟩, .string ⟨#[]⟩] 43)
  have d7 := d6.trans (b7.mono d6.size)
  have d7 := d7.alloc d7.size (.cells #[.string ⟨#[]⟩, .string ⟨#[]⟩] 43)
  clear A6 K6 d6 b7
  have c0 := A7.cell (j := 0) rfl
  have f0 := A7.frozen 0
  have c1 := A7.cell (j := 1) rfl
  have f1 := A7.frozen 1
  have k0 := K7.cell (j := 0) rfl
  have kf0 := K7.frozen 0
  have k1 := K7.cell (j := 1) rfl
  have kf1 := K7.frozen 1
  have k2 := K7.cell (j := 2) rfl
  have kf2 := K7.frozen 2
  have k3 := K7.cell (j := 3) rfl
  have kf3 := K7.frozen 3
  have ea : ((a.size : Int) == 16) = true := size_is sa.out
  have eb : ((b.size : Int) == 16) = true := size_is sb.out
  have ek : ((k.size : Int) == 16) = true := size_is sk.out
  have ei : ((i.size : Int) == 8) = true := size_is si.out
  have em : ((m.size : Int) == 16) = true := size_is sm.out
  have ep : ((p.size : Int) == 16) = true := size_is sp.out
  have et : ((t.size : Int) == 8) = true := size_is st.out
  have en : ((n.size : Int) == 16) = true := size_is sn.out
  have eab : (a.toList == b.toList) = false := ne_list hab.out
  go_wp2_with fail
  go_ret
  exact ⟨rfl, d7⟩

end Go.Proofs.Ytmafbkoneggggaa
