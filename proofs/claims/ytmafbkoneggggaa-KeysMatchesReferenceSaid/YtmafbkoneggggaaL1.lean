/-
  Walks: the helpers of the laws of chapter 5.
-/
import Derived.Test.YtmafbkoneggggaaK7
namespace Go.Proofs.Ytmafbkoneggggaa
open Go.RowKit

theorem u8_as (z : Int) (h0 : 0 ≤ z) (h1 : z ≤ 255) : z = ((UInt8.ofNat z.toNat).toNat : Int) := by rw [u8_toNat_ofNat]; omega

theorem set_byte {W : World} {b : Nat} {L : List UInt8} (h : Blk W b (byteCells L) 5) (k : Nat) (z : Int) (h0 : 0 ≤ z) (h1 : z ≤ 255) :
    Blk (W.setCell ⟨b, k, none⟩ (.int .u8 z)) b (byteCells (L.set k (UInt8.ofNat z.toNat))) 5 := by
  rw [← byteCells_set, ← u8_as z h0 h1]
  exact h.set k _

theorem conv_len {W : World} {g n c : Nat} {l : List UInt8} {u : TypeId} (h : Blk W g (byteCells l) u) (hl : l.length = n) :
    (convert 30 9 (.slice (some ⟨g, 0, none⟩) n c)).run Try.prog W = .ok (.string ⟨l.toArray⟩) W := by
  have := run_convert_bytes_back (P := Try.prog) W 30 9 5 ⟨g, 0, none⟩ c l Try.underlying30 Try.underlying5 Try.underlying9 (fun j hj => by
    have e : (⟨g, 0, none⟩ : Addr).add j = ⟨g, j, none⟩ := by unfold Addr.add; split <;> simp_all
    rw [e]
    exact h.cell (by unfold byteCells; simp [List.getElem?_eq_getElem hj]))
  rw [hl] at this
  exact this

set_option maxRecDepth 100000 in
set_option maxHeartbeats 1000000 in
theorem stretch_any (s : ByteArray) (n : Nat) (w : World) (hs : s.size ≤ maxLen) (hn : n ≤ 8192) (hn1 : 1 ≤ n)
    (hmk : ∀ w, (Instr.makeSlice 30 (.int .i64 n) (.int .i64 n)).run Try.prog w = .ok (.slice (some ⟨w.heap.size, 0, none⟩) n n) (w.alloc (.cells (byteCells (List.replicate n 0)).toArray 5))) :
    Calls Try.prog 24 #[.string s, .int .i64 n] w fun e w' => (∃ X : List UInt8, e = .returned (.string ⟨X.toArray⟩) ∧ X.length = n) ∧ Below w.heap.size w w' := by
  unfold maxLen at hs
  obtain ⟨Z, hZ⟩ : ∃ Z, Z = List.replicate n (0 : UInt8) := ⟨_, rfl⟩
  rw [← hZ] at hmk
  have hZl : Z.length = n := by rw [hZ]; simp
  have HZl := Lib.hid hZl
  clear hZ hZl
  by_cases h0 : s.size = 0
  · have h00 : s.size ≤ 0 := by omega
    clear h0
    go_enter Try.func24, Try.ntmps24
    go_wp2_with fail
    obtain ⟨b, hb⟩ : ∃ b, b = w.heap.size := ⟨_, rfl⟩
    have B0 : Blk (w.alloc (.cells (byteCells Z).toArray 5)) b (byteCells Z) 5 := by rw [hb]; exact Blk.new w (byteCells Z) 5
    have d0 : Below w.heap.size w (w.alloc (.cells (byteCells Z).toArray 5)) := (Below.refl _ _).alloc (Nat.le_refl _) _
    rw [← hb]
    have hle : w.heap.size ≤ b := by omega
    clear hb
    go_loopw [6] (fun i wr => ∃ (k : Nat) (L : List UInt8), k ≤ n ∧ i = .int .i64 k ∧ L.length = n ∧ Blk wr b (byteCells L) 5 ∧ Below w.heap.size w wr) (fun i _ => n - (intOf i).toNat)
    case atStart => exact ⟨0, Z, by omega, rfl, HZl.out, B0, d0⟩
    case round =>
      obtain ⟨k, L, hk, rfl, hL, hB, hd⟩ := hrel
      have HL := Lib.hid hL
      clear hL B0 d0
      by_cases hlt : k < n
      · have c0 := hB.cell (byteCells_at L k (by rw [HL.out]; exact hlt))
        have f0 := hB.frozen k
        go_wp2_with fail
        have B7 := set_byte hB k ((k : Int) * 37 % 256) (by omega) (by omega)
        have d7 := hd.setCell (p := ⟨b, k, none⟩) hle (.int .u8 ((k : Int) * 37 % 256))
        clear c0 f0
        go_roundw
        case rel => exact ⟨k + 1, _, by omega, by go_num, by rw [List.length_set]; exact HL.out, B7, d7⟩
        case measure => simp [intOf]; omega
      · obtain rfl : n = k := by omega
        have hcv := conv_len (c := n) hB HL.out
        go_wp2_with fail
        go_ret
        exact ⟨⟨L, rfl, HL.out⟩, hd⟩
  · have hs0 : 0 < s.size := by omega
    go_enter Try.func24, Try.ntmps24
    go_wp2_with fail
    obtain ⟨b, hb⟩ : ∃ b, b = w.heap.size := ⟨_, rfl⟩
    have B0 : Blk (w.alloc (.cells (byteCells Z).toArray 5)) b (byteCells Z) 5 := by rw [hb]; exact Blk.new w (byteCells Z) 5
    have d0 : Below w.heap.size w (w.alloc (.cells (byteCells Z).toArray 5)) := (Below.refl _ _).alloc (Nat.le_refl _) _
    rw [← hb]
    have hle : w.heap.size ≤ b := by omega
    clear hb
    go_loopw [6] (fun i wr => ∃ (k : Nat) (L : List UInt8), k ≤ n ∧ i = .int .i64 k ∧ L.length = n ∧ Blk wr b (byteCells L) 5 ∧ Below w.heap.size w wr) (fun i _ => n - (intOf i).toNat)
    case atStart => exact ⟨0, Z, by omega, rfl, HZl.out, B0, d0⟩
    case round =>
      obtain ⟨k, L, hk, rfl, hL, hB, hd⟩ := hrel
      have HL := Lib.hid hL
      clear hL B0 d0
      by_cases hlt : k < n
      · have c0 := hB.cell (byteCells_at L k (by rw [HL.out]; exact hlt))
        have f0 := hB.frozen k
        have hr := Nat.mod_lt k hs0
        have e1 : (k : Int).tmod (s.size : Int) = ((k % s.size : Nat) : Int) := by rw [Int.tmod_eq_emod_of_nonneg (by omega)]; simp
        obtain ⟨r, hr0⟩ : ∃ r, r = k % s.size := ⟨_, rfl⟩
        rw [← hr0] at e1 hr
        have e2 : (k : Int).tdiv (s.size : Int) = ((k / s.size : Nat) : Int) := by rw [Int.tdiv_eq_ediv_of_nonneg (by omega)]; simp
        have hq : k / s.size ≤ k := Nat.div_le_self _ _
        obtain ⟨q, hq0⟩ : ∃ q, q = k / s.size := ⟨_, rfl⟩
        rw [← hq0] at e2 hq
        have e3 : IntKind.i64.wrap (q : Int) = q := by rw [IntKind.wrap_i64]; omega
        have hr1 : (0 : Int) ≤ (r : Int) := by omega
        have hr2 : (r : Int) < (s.size : Int) := by omega
        have hne : (s.size : Int) ≠ 0 := by omega
        have E1 := Lib.hid e1
        have E2 := Lib.hid e2
        clear hr0 hq0 e1 e2
        go_wp2_with fail
        obtain ⟨W7, hW7⟩ : ∃ W7, wr.setCell ⟨b, k, none⟩ (.int .u8 ((k : Int) * 37 % 256)) = W7 := ⟨_, rfl⟩
        have B7 : Blk W7 b (byteCells (L.set k (UInt8.ofNat ((k : Int) * 37 % 256).toNat))) 5 := by rw [← hW7]; exact set_byte hB k ((k : Int) * 37 % 256) (by omega) (by omega)
        have d7 : Below w.heap.size w W7 := by rw [← hW7]; exact hd.setCell (p := ⟨b, k, none⟩) hle _
        rw [hW7]
        clear hW7 hB hd c0 f0
        obtain ⟨M, hM⟩ : ∃ M, L.set k (UInt8.ofNat ((k : Int) * 37 % 256).toNat) = M := ⟨_, rfl⟩
        rw [hM] at B7
        have hMl : M.length = n := by rw [← hM, List.length_set]; exact HL.out
        have HM := Lib.hid hMl
        clear hM hMl
        have c0 := B7.cell (byteCells_at M k (by rw [HM.out]; exact hlt))
        have f0 := B7.frozen k
        have e1 := E1.out
        have e2 := E2.out
        go_region
        have B8 := (set_byte B7 k (((s[r].toNat : Int) + (q : Int)) % 256) (by omega) (by omega)).drew
        have d8 := (d7.setCell (p := ⟨b, k, none⟩) hle (.int .u8 (((s[r].toNat : Int) + (q : Int)) % 256))).drew
        clear c0 f0 e1 e2 e3
        go_wp2_with fail
        go_roundw
        case rel => exact ⟨k + 1, _, by omega, by go_num, by rw [List.length_set]; exact HM.out, B8, d8⟩
        case measure => simp [intOf]; omega
      · obtain rfl : n = k := by omega
        have hcv := conv_len (c := n) hB HL.out
        go_wp2_with fail
        go_ret
        exact ⟨⟨L, rfl, HL.out⟩, hd⟩

end Go.Proofs.Ytmafbkoneggggaa
