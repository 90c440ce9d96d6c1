/-
  Walks: the reference cipher's text and Encrypt.
-/
import Derived.Test.YtmafbkoneggggaaF2
import Derived.Test.YtmafbkoneggggaaL1
namespace Go.Proofs.Ytmafbkoneggggaa
open Go.RowKit

theorem cells4 (l : Nat) (hl : l < 4294967296) : byteCells (beB l 4) = [.int .u8 ((l : Int) / 16777216), .int .u8 ((l : Int) / 65536 % 256), .int .u8 ((l : Int) / 256 % 256), .int .u8 ((l : Int) % 256)] := by
  simp only [beB, byteCells, List.nil_append, List.cons_append, List.map_cons, List.map_nil, u8_toNat_ofNat]
  have e1 : ((l / 256 / 256 / 256 % 256 : Nat) : Int) = (l : Int) / 16777216 := by omega
  have e2 : ((l / 256 / 256 % 256 : Nat) : Int) = (l : Int) / 65536 % 256 := by omega
  have e3 : ((l / 256 % 256 : Nat) : Int) = (l : Int) / 256 % 256 := by omega
  have e4 : ((l % 256 : Nat) : Int) = (l : Int) % 256 := by omega
  rw [e1, e2, e3, e4]

set_option maxRecDepth 100000 in
set_option maxHeartbeats 2000000 in
theorem textI (l r : Nat) (hl : l < 4294967296) (hr : r < 4294967296) (w : World) :
    Calls Try.prog 71 #[.int .i64 l, .int .i64 r] w fun e w' => e = .returned (.string ⟨(beB l 4 ++ beB r 4).toArray⟩) ∧ Below w.heap.size w w' := by
  have hC : byteCells (beB l 4 ++ beB r 4) = [.int .u8 ((l : Int) / 16777216), .int .u8 ((l : Int) / 65536 % 256), .int .u8 ((l : Int) / 256 % 256), .int .u8 ((l : Int) % 256),
      .int .u8 ((r : Int) / 16777216), .int .u8 ((r : Int) / 65536 % 256), .int .u8 ((r : Int) / 256 % 256), .int .u8 ((r : Int) % 256)] := by
    have e : byteCells (beB l 4 ++ beB r 4) = byteCells (beB l 4) ++ byteCells (beB r 4) := List.map_append
    rw [e, cells4 l hl, cells4 r hr]; rfl
  have hB := Blk.new w (byteCells (beB l 4 ++ beB r 4)) 5
  have hcv := conv_len (n := 8) (c := 8) hB (by simp [beB_length])
  rw [hC] at hcv
  obtain ⟨X, hX⟩ : ∃ X, X = beB l 4 ++ beB r 4 := ⟨_, rfl⟩
  rw [← hX] at hcv ⊢
  clear hC hB hX
  go_enter Try.func71, Try.ntmps71
  go_wp2_with fail
  go_ret
  exact ⟨rfl, (Below.refl _ _).alloc (Nat.le_refl _) _⟩

end Go.Proofs.Ytmafbkoneggggaa
