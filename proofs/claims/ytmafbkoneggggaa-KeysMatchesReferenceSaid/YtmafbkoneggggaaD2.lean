/-
  Walks: the block cipher computes the plain function, for every key of 16 and every block of 8 bytes.
-/
import Derived.Deep.RegionHeld3
import Derived.Test.YtmafbkoneggggaaB1
import Derived.Test.YtmafbkoneggggaaD1
namespace Go.Proofs.Ytmafbkoneggggaa
open Go.RowKit

theorem bcell {W w1 : World} (hb : Below W.heap.size W w1) : (∀ b o, b < W.heap.size → w1.cell? ⟨b, o, none⟩ = W.cell? ⟨b, o, none⟩) ∧ (∀ b o, b < W.heap.size → w1.frozen? ⟨b, o, none⟩ = W.frozen? ⟨b, o, none⟩) :=
  ⟨fun b o h => hb.cell (p := ⟨b, o, none⟩) h, fun b o h => hb.frozen (p := ⟨b, o, none⟩) h⟩

def stV (s : Nat × Nat) : Value := .agg #[.int .u32 s.1, .int .u32 s.2]

theorem mix_raw (k : Nat → Nat) (hk : ∀ j, k j < 4294967296) (r : Nat) (hr : r < 4294967296) (i : Nat) (hi : i < 8) (w : World) :
    Calls Try.prog 78 #[.agg #[.int .u32 (k 0), .int .u32 (k 1), .int .u32 (k 2), .int .u32 (k 3)], .int .u32 r, .int .i64 i] w fun e w' => e = .returned (.int .u32 (mixN k r i)) ∧ Below w.heap.size w w' := mix_any k hk r hr i hi w

set_option maxRecDepth 100000 in
set_option maxHeartbeats 400000 in
theorem forward_any (k : Nat → Nat) (hk : ∀ j, k j < 4294967296) (l r : Nat) (hl : l < 4294967296) (hr : r < 4294967296) (i : Nat) (hi : i < 8) (w : World) :
    Calls Try.prog 73 #[stV (l, r), schedV k, .int .i64 i] w fun e w' => e = .returned (stV (r, l ^^^ mixN k r i)) ∧ Below w.heap.size w w' := by
  have hm := mixN_lt hk (r := r) (i := i) hr
  have hx := u32_xor_nat l (mixN k r i) hl hm
  have Hx := Lib.hid hx
  clear hx
  unfold stV schedV
  go_enter Try.func73, Try.ntmps73
  go_wp2
  obtain ⟨W3, hW3⟩ : ∃ W3, ((w.alloc (.cells #[.int .u32 l, .int .u32 r] 85)).alloc (.cells #[.int .u32 (k 0), .int .u32 (k 1), .int .u32 (k 2), .int .u32 (k 3)] 83)).alloc (.cells #[.int .u32 0, .int .u32 0] 85) = W3 := ⟨_, rfl⟩
  have hb3 : Below w.heap.size w W3 := by rw [← hW3]; exact (((Below.refl _ _).alloc (Nat.le_refl _) _).alloc (by simp) _).alloc (by simp; omega) _
  have hs3 : w.heap.size + 1 + 1 < W3.heap.size := by rw [← hW3]; simp
  have B0 : Blk W3 w.heap.size [.int .u32 l, .int .u32 r] 85 := by rw [← hW3]; exact ((Blk.new w [.int .u32 l, .int .u32 r] 85).alloc _).alloc _
  have B1 : Blk W3 (w.heap.size + 1) [.int .u32 (k 0), .int .u32 (k 1), .int .u32 (k 2), .int .u32 (k 3)] 83 := by rw [← hW3]; exact (Blk.newAt _ [.int .u32 (k 0), .int .u32 (k 1), .int .u32 (k 2), .int .u32 (k 3)] 83 (by simp)).alloc _
  have B2 : Blk W3 (w.heap.size + 1 + 1) [.int .u32 0, .int .u32 0] 85 := by rw [← hW3]; exact Blk.newAt _ [.int .u32 0, .int .u32 0] 85 (by simp)
  rw [hW3]
  clear hW3
  go_region_held3 (fun w' => Blk w' w.heap.size [.int .u32 l, .int .u32 r] 85 ∧ w'.cell? ⟨w.heap.size, 0, none⟩ = some (.int .u32 l) ∧ w'.cell? ⟨w.heap.size, 1, none⟩ = some (.int .u32 r) ∧
      w'.cell? ⟨w.heap.size + 1, 0, none⟩ = some (.int .u32 (k 0)) ∧ w'.cell? ⟨w.heap.size + 1, 1, none⟩ = some (.int .u32 (k 1)) ∧ w'.cell? ⟨w.heap.size + 1, 2, none⟩ = some (.int .u32 (k 2)) ∧ w'.cell? ⟨w.heap.size + 1, 3, none⟩ = some (.int .u32 (k 3)))
    (first
      | exact ⟨B0, B0.cell rfl, B0.cell rfl, B1.cell rfl, B1.cell rfl, B1.cell rfl, B1.cell rfl⟩
      | exact ⟨D0, D0.cell rfl, D0.cell rfl, D1.cell rfl, D1.cell rfl, D1.cell rfl, D1.cell rfl⟩
      | exact ⟨((D0.other (by omega) _ _).other (by omega) _ _), ((D0.other (by omega) _ _).other (by omega) _ _).cell rfl, ((D0.other (by omega) _ _).other (by omega) _ _).cell rfl, ((D1.other (by omega) _ _).other (by omega) _ _).cell rfl, ((D1.other (by omega) _ _).other (by omega) _ _).cell rfl, ((D1.other (by omega) _ _).other (by omega) _ _).cell rfl, ((D1.other (by omega) _ _).other (by omega) _ _).cell rfl⟩)
    ((go_at_call 78; (with_reducible refine (mix_raw k hk r hr i hi _).mono ?_); rintro e w1 ⟨rfl, hb⟩; have D0 := B0.drew.kept hb; have D1 := B1.drew.kept hb; have D2 := B2.drew.kept hb; have z0 := D2.cell (j := 0) rfl; have z1 := D2.cell (j := 1) rfl; have f0 := D2.frozen 0; have f1 := D2.frozen 1))
  go_wp2
  have E2 := (D2.set 0 (.int .u32 r)).set 1 (.int .u32 (bits .xor .u32 l (mixN k r i)))
  have e0 := E2.cell (j := 0) rfl
  have e1 := E2.cell (j := 1) rfl
  have hbb : Below w.heap.size w w1 := hb3.drew.trans (hb.mono hb3.size)
  refine bodyPost_ret (v := .agg #[.int .u32 r, .int .u32 (bits .xor .u32 l (mixN k r i))]) (by simp [results, Try.results73, go_sem, e0, e1]) rfl ⟨by rw [Hx.out], ?_⟩
  exact (hbb.setCell (by simp; omega) _).setCell (by simp; omega) _

end Go.Proofs.Ytmafbkoneggggaa
