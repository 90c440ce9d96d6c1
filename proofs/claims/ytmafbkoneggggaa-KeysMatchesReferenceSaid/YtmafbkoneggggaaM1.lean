/-
  Walks: the authentication code computes the plain function.
-/
import Derived.Test.YtmafbkoneggggaaB3
import Derived.Test.YtmafbkoneggggaaC2
import Derived.Test.YtmafbkoneggggaaD6
namespace Go.Proofs.Ytmafbkoneggggaa
open Go.RowKit

/-- After k bytes. -/
def xorTo (c b : List UInt8) (k : Nat) : List UInt8 := (xorB c b).take k ++ c.drop k

theorem xorTo_length {c b : List UInt8} (hc : c.length = 8) (hb : b.length = 8) (k : Nat) : (xorTo c b k).length = 8 := by
  have := xorB_length hc hb
  unfold xorTo
  rw [List.length_append, List.length_take, List.length_drop]; omega
theorem xorTo_zero (c b : List UInt8) : xorTo c b 0 = c := by simp [xorTo]
theorem xorTo_all {c b : List UInt8} (hc : c.length = 8) (hb : b.length = 8) : xorTo c b 8 = xorB c b := by
  unfold xorTo
  rw [List.take_of_length_le (by rw [xorB_length hc hb]; omega), List.drop_eq_nil_of_le (by omega), List.append_nil]
theorem xorTo_nth {c b : List UInt8} (hc : c.length = 8) (hb : b.length = 8) (k : Nat) (hk : k < 8) : nth (xorTo c b k) k = nth c k := by
  unfold nth xorTo
  rw [List.getD_eq_getElem?_getD, List.getElem?_append_right (by rw [List.length_take]; omega), List.length_take, xorB_length hc hb, Nat.min_eq_left (by omega), Nat.sub_self, List.getElem?_drop, List.getD_eq_getElem?_getD]
  rfl
theorem xorTo_set {c b : List UInt8} (hc : c.length = 8) (hb : b.length = 8) (k : Nat) (hk : k < 8) : (xorTo c b k).set k (nth c k ^^^ nth b k) = xorTo c b (k + 1) := by
  have hx := xorB_length hc hb
  unfold xorTo
  rw [List.set_append_right _ _ (by rw [List.length_take]; omega), List.length_take, hx, Nat.min_eq_left (by omega), Nat.sub_self]
  rw [List.take_succ_eq_append_getElem (by omega), List.append_assoc]
  congr 1
  have hd : c.drop k = nth c k :: c.drop (k + 1) := by
    rw [List.drop_eq_getElem_cons (by omega)]
    congr 1
    unfold nth; rw [List.getD_eq_getElem?_getD, List.getElem?_eq_getElem (by omega)]; rfl
  rw [hd, List.set_cons_zero]
  simp only [List.singleton_append, List.cons.injEq, and_true]
  unfold nth xorB
  rw [List.getElem_zipWith, List.getD_eq_getElem?_getD, List.getD_eq_getElem?_getD, List.getElem?_eq_getElem (by omega), List.getElem?_eq_getElem (by omega)]
  rfl

theorem xor_byte (a b : UInt8) : bits .xor .u8 (a.toNat : Int) (b.toNat : Int) = ((a ^^^ b).toNat : Int) := by
  rw [u8_xor_nat _ _ a.toNat_lt b.toNat_lt, UInt8.toNat_xor]

/-- Eight bytes as a value. -/
def arrV (l : List UInt8) : Value := .agg #[.int .u8 (nth l 0).toNat, .int .u8 (nth l 1).toNat, .int .u8 (nth l 2).toNat, .int .u8 (nth l 3).toNat, .int .u8 (nth l 4).toNat, .int .u8 (nth l 5).toNat, .int .u8 (nth l 6).toNat, .int .u8 (nth l 7).toNat]

theorem conv_arr {W : World} {g : Nat} {l : List UInt8} {u : TypeId} (h : Blk W g (byteCells l) u) (hl : l.length = 8) :
    (convert 30 9 (.slice (some ⟨g, 0, none⟩) 8 8)).run Try.prog W = .ok (.string ⟨l.toArray⟩) W := by
  have := run_convert_bytes_back (P := Try.prog) W 30 9 5 ⟨g, 0, none⟩ 8 l Try.underlying30 Try.underlying5 Try.underlying9 (fun j hj => by
    have e : (⟨g, 0, none⟩ : Addr).add j = ⟨g, j, none⟩ := by unfold Addr.add; split <;> simp_all
    rw [e]
    exact h.cell (by unfold byteCells; simp [List.getElem?_eq_getElem hj]))
  rw [hl] at this
  exact this

set_option maxRecDepth 100000 in
set_option maxHeartbeats 2000000 in
theorem next_any (key : ByteArray) (cb kb : Nat) (c b : List UInt8) (w : World) (hk : key.size = 16) (hc : c.length = 8) (hb : b.length = 8) (hne : cb ≠ kb)
    (hC : Blk w cb (byteCells c) 75) (hK : Blk w kb [.string key] 9) :
    Calls Try.prog 61 #[arrV b, .pointer (some ⟨cb, 0, none⟩), .pointer (some ⟨kb, 0, none⟩)] w fun e w' => e = .returned (arrV (stepB key.data.toList c b)) ∧ Blk w' cb (byteCells (stepB key.data.toList c b)) 75 ∧ But w w' cb := by
  have hlt1 := hC.lt
  have hlt2 := hK.lt
  have HKs := Lib.hid hk
  have Hc := Lib.hid hc
  have Hb := Lib.hid hb
  clear hk hc hb
  have hX := stepB_length key.data.toList c b
  obtain ⟨X, hXe⟩ : ∃ X, X = stepB key.data.toList c b := ⟨_, rfl⟩
  rw [← hXe] at hX ⊢
  have HXe := Lib.hid hXe
  have HX := Lib.hid hX
  clear hX hXe
  unfold arrV
  go_enter Try.func61, Try.ntmps61
  go_wp2_with fail
  obtain ⟨n3, hn3⟩ : ∃ n, n = w.heap.size := ⟨_, rfl⟩
  obtain ⟨W2, hW2⟩ : ∃ W2, (w.alloc (.cells #[.int .u8 (nth b 0).toNat, .int .u8 (nth b 1).toNat, .int .u8 (nth b 2).toNat, .int .u8 (nth b 3).toNat, .int .u8 (nth b 4).toNat, .int .u8 (nth b 5).toNat, .int .u8 (nth b 6).toNat, .int .u8 (nth b 7).toNat] 75)).alloc (.cells #[.int .u8 0, .int .u8 0, .int .u8 0, .int .u8 0, .int .u8 0, .int .u8 0, .int .u8 0, .int .u8 0] 75) = W2 := ⟨_, rfl⟩
  have B3 : Blk W2 n3 (byteCells b) 75 := by rw [← hW2, hn3, arrC_eq b Hb.out]; exact (Blk.new w (arrC b) 75).alloc _
  have B4 : Blk W2 (n3 + 1) (byteCells zeros8) 75 := by rw [← hW2, hn3]; exact Blk.newAt _ (byteCells zeros8) 75 (by simp)
  have hb2 : Below w.heap.size w W2 := by rw [← hW2]; exact ((Below.refl _ _).alloc (Nat.le_refl _) _).alloc (by simp) _
  have BC : Blk W2 cb (byteCells (xorTo c b 0)) 75 := by rw [xorTo_zero]; exact hC.kept hb2
  have BK : Blk W2 kb [.string key] 9 := hK.kept hb2
  have hbut : But w W2 cb := But.of_below hb2
  rw [hW2, ← hn3]
  rw [← hn3] at hlt1 hlt2
  have hle : w.heap.size ≤ n3 := by omega
  clear hW2 hb2 hC hK hn3
  go_loopw [8] (fun i wr => ∃ k : Nat, k ≤ 8 ∧ i = .int .i64 k ∧ Blk wr cb (byteCells (xorTo c b k)) 75 ∧ Blk wr n3 (byteCells b) 75 ∧ Blk wr (n3 + 1) (byteCells zeros8) 75 ∧ Blk wr kb [.string key] 9 ∧ But w wr cb) (fun i _ => 8 - (intOf i).toNat)
  case atStart => exact ⟨0, by omega, rfl, BC, B3, B4, BK, hbut⟩
  case round =>
    clear BC B3 B4 BK hbut
    obtain ⟨k, hk, rfl, CC, C3, C4, CK, hB⟩ := hrel
    by_cases hlt : k < 8
    · have f1 := CC.cell (byteCells_at _ k (by rw [xorTo_length Hc.out Hb.out]; omega))
      rw [xorTo_nth Hc.out Hb.out k hlt] at f1
      have f2 := C3.cell (byteCells_at b k (by rw [Hb.out]; omega))
      have f3 := CC.frozen k
      have hx := xor_byte (nth c k) (nth b k)
      have Hx := Lib.hid hx
      clear hx
      go_wp2_with fail
      go_region
      have D := CC.set k (.int .u8 ((nth c k ^^^ nth b k).toNat))
      rw [byteCells_set, xorTo_set Hc.out Hb.out k hlt] at D
      have D3 := C3.other (a := cb) (by omega) k (.int .u8 ((nth c k ^^^ nth b k).toNat))
      have D4 := C4.other (a := cb) (by omega) k (.int .u8 ((nth c k ^^^ nth b k).toNat))
      have DK := CK.other (a := cb) (by omega) k (.int .u8 ((nth c k ^^^ nth b k).toNat))
      have hB2 := (hB.trans (But.setCell wr cb k (.int .u8 ((nth c k ^^^ nth b k).toNat)))).trans (But.drew _ cb)
      rw [Hx.out]
      clear f1 f2 f3
      go_wp2_with fail
      go_roundw
      case rel => exact ⟨k + 1, by omega, by go_num, D, D3, D4, DK, hB2⟩
      case measure => simp [intOf]; omega
    · obtain rfl : 8 = k := by omega
      rw [xorTo_all Hc.out Hb.out] at CC
      have hcv := conv_arr CC.drew (xorB_length Hc.out Hb.out)
      have fk := CK.cell (j := 0) rfl
      have henc := Lib.hid (fun w => encrypt_any key ⟨(xorB c b).toArray⟩ w HKs.out (xorB_length Hc.out Hb.out))
      go_wp2_with fail
      go_region_with (go_at_call 62; (with_reducible refine (henc.out _).mono ?_); rintro e w4 ⟨rfl, hb4⟩)
      all_goals
        have C1 := CC.drew.kept hb4
        have Z1 := C4.drew.kept hb4
        have hBa := (hB.trans (But.drew wr cb)).trans (But.of_below hb4)
        have hX := HX.out
        have hXe := HXe.out
        obtain ⟨W5, hcp, hC5, hon⟩ := copy_bytes (⟨X.toArray⟩ : ByteArray) C1 (xorB_length Hc.out Hb.out)
        have hl5 : (⟨X.toArray⟩ : ByteArray).data.toList.take 8 ++ (xorB c b).drop ((⟨X.toArray⟩ : ByteArray).data.toList.take 8).length = X := by
          have := xorB_length Hc.out Hb.out
          simp [hX, List.take_of_length_le, this]
        rw [hl5, arrC_eq X hX] at hC5
        have D5 : Blk W5 cb (arrC X) 75 := hC5
        have D4 := hon.blk (by omega) Z1
        have hBb := hBa.trans (But.of_only hon)
        have hcp' : (Builtin.copy_ #[30, 9] 3 #[.slice (some ⟨cb, 0, none⟩) 8 8, .string ⟨(encB key.data.toList (xorB c b)).toArray⟩]).run Try.prog w4 = .ok (.int .i64 8) W5 := by
          have e : encB key.data.toList (xorB c b) = X := hXe.symm
          have hm : min (⟨X.toArray⟩ : ByteArray).size 8 = 8 := by
            have : (⟨X.toArray⟩ : ByteArray).size = X.length := rfl
            omega
          rw [e, hcp, hm]; rfl
        clear hX hXe hl5 hon hcp hC5 C1 Z1 hBa hcv fk CC C3 C4 CK hb4
        have e0 := D5.cell (j := 0) rfl
        have z0 := D4.cell (j := 0) rfl
        have f0 := D4.frozen 0
        have e1 := D5.cell (j := 1) rfl
        have z1 := D4.cell (j := 1) rfl
        have f1 := D4.frozen 1
        have e2 := D5.cell (j := 2) rfl
        have z2 := D4.cell (j := 2) rfl
        have f2 := D4.frozen 2
        have e3 := D5.cell (j := 3) rfl
        have z3 := D4.cell (j := 3) rfl
        have f3 := D4.frozen 3
        have e4 := D5.cell (j := 4) rfl
        have z4 := D4.cell (j := 4) rfl
        have f4 := D4.frozen 4
        have e5 := D5.cell (j := 5) rfl
        have z5 := D4.cell (j := 5) rfl
        have f5 := D4.frozen 5
        have e6 := D5.cell (j := 6) rfl
        have z6 := D4.cell (j := 6) rfl
        have f6 := D4.frozen 6
        have e7 := D5.cell (j := 7) rfl
        have z7 := D4.cell (j := 7) rfl
        have f7 := D4.frozen 7
        have hbs : n3 + 1 < W5.heap.size := D4.lt
        go_wp2_with fail
        have G4 := ((((((((D4.set 0 (.int .u8 (nth X 0).toNat)).set 1 (.int .u8 (nth X 1).toNat)).set 2 (.int .u8 (nth X 2).toNat)).set 3 (.int .u8 (nth X 3).toNat)).set 4 (.int .u8 (nth X 4).toNat)).set 5 (.int .u8 (nth X 5).toNat)).set 6 (.int .u8 (nth X 6).toNat)).set 7 (.int .u8 (nth X 7).toNat))
        have G5 := ((((((((D5.other (a := n3 + 1) (by omega) 0 (.int .u8 (nth X 0).toNat)).other (a := n3 + 1) (by omega) 1 (.int .u8 (nth X 1).toNat)).other (a := n3 + 1) (by omega) 2 (.int .u8 (nth X 2).toNat)).other (a := n3 + 1) (by omega) 3 (.int .u8 (nth X 3).toNat)).other (a := n3 + 1) (by omega) 4 (.int .u8 (nth X 4).toNat)).other (a := n3 + 1) (by omega) 5 (.int .u8 (nth X 5).toNat)).other (a := n3 + 1) (by omega) 6 (.int .u8 (nth X 6).toNat)).other (a := n3 + 1) (by omega) 7 (.int .u8 (nth X 7).toNat))
        have q0 := G4.cell (j := 0) rfl
        have q1 := G4.cell (j := 1) rfl
        have q2 := G4.cell (j := 2) rfl
        have q3 := G4.cell (j := 3) rfl
        have q4 := G4.cell (j := 4) rfl
        have q5 := G4.cell (j := 5) rfl
        have q6 := G4.cell (j := 6) rfl
        have q7 := G4.cell (j := 7) rfl
        clear e0 e1 e2 e3 e4 e5 e6 e7 z0 z1 z2 z3 z4 z5 z6 z7 f0 f1 f2 f3 f4 f5 f6 f7
        refine bodyPost_ret (v := .agg #[(.int .u8 (nth X 0).toNat), (.int .u8 (nth X 1).toNat), (.int .u8 (nth X 2).toNat), (.int .u8 (nth X 3).toNat), (.int .u8 (nth X 4).toNat), (.int .u8 (nth X 5).toNat), (.int .u8 (nth X 6).toNat), (.int .u8 (nth X 7).toNat)]) (by simp [results, Try.results61, go_sem, q0, q1, q2, q3, q4, q5, q6, q7]) rfl ⟨rfl, ?_, ?_⟩
        · rw [arrC_eq X HX.out]; exact G5
        · exact ((((((((hBb.fresh (a := n3 + 1) (Nat.le_succ_of_le hle) 0 (.int .u8 (nth X 0).toNat)).fresh (a := n3 + 1) (Nat.le_succ_of_le hle) 1 (.int .u8 (nth X 1).toNat)).fresh (a := n3 + 1) (Nat.le_succ_of_le hle) 2 (.int .u8 (nth X 2).toNat)).fresh (a := n3 + 1) (Nat.le_succ_of_le hle) 3 (.int .u8 (nth X 3).toNat)).fresh (a := n3 + 1) (Nat.le_succ_of_le hle) 4 (.int .u8 (nth X 4).toNat)).fresh (a := n3 + 1) (Nat.le_succ_of_le hle) 5 (.int .u8 (nth X 5).toNat)).fresh (a := n3 + 1) (Nat.le_succ_of_le hle) 6 (.int .u8 (nth X 6).toNat)).fresh (a := n3 + 1) (Nat.le_succ_of_le hle) 7 (.int .u8 (nth X 7).toNat))

end Go.Proofs.Ytmafbkoneggggaa
