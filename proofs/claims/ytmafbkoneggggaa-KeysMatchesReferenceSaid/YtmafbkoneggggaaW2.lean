/-
  Walks: the closure of bigEndian yields the bytes of an integer, and collect joins them, for widths from 1 to 8.
-/
import Derived.RangeFuncBox
import Derived.RangeFuncLeaves
import Derived.Shelf.Abstract
import Derived.WalkKit
import Derived.OwnWalkIn
import Derived.TacticsInMore
import Derived.LoopNIn
import Derived.LoopIn
import Derived.Maps.AppendAt
import Derived.Test.YtmafbkoneggggaaW1
namespace Go.Proofs.Ytmafbkoneggggaa
open Go.RowKit Go.Shelf

attribute [local go_sem] Oper.semAt_some

theorem byte_form (v r : Nat) : (((UInt8.ofNat (v / 256 ^ r)).toNat : Nat) : Int) = (v : Int) / 2 ^ (8 * r) % 256 := by
  have h : (256 : Nat) ^ r = 2 ^ (8 * r) := by rw [Nat.pow_mul]
  rw [u8_toNat_ofNat, h]
  rw [Int.natCast_emod, Int.natCast_ediv, Int.natCast_pow]; rfl

set_option maxRecDepth 100000 in
set_option maxHeartbeats 1000000 in
theorem be1_in (F : Fence) (n : Nat) (h6 : F.fn 56) (hro : F.round = none) (hn : 1 ≤ n) (l Bw Bn n₀ v width : Nat) (hwid : width ≤ 8) (hBn : Bn < n₀) (J Jx : List UInt8 → World → Prop)
    (hY : ∀ pre x W, J pre W → pre.length < width → YieldAt F (n - 1) Try.prog l #[.int .u8 (x : UInt8).toNat] W fun e W' =>
      (e = .returned (.bool true) ∧ J (pre ++ [x]) W' ∧ Below n₀ W W') ∨ (e = .returned (.bool false) ∧ Jx (pre ++ [x]) W'))
    (W : World) (hw : W.cell? ⟨Bw, 0, none⟩ = some (.int .i64 width)) (hnn : W.cell? ⟨Bn, 0, none⟩ = some (.int .u64 v)) (h0 : J [] W) :
    CallsIn F n Try.prog 56 #[.func (.yield l) #[] #[], .pointer (some ⟨Bw, 0, none⟩), .pointer (some ⟨Bn, 0, none⟩)] W fun e W' => (∃ v, e = .returned v) ∧
      ((∃ ys, ys = beB v width ∧ J ys W') ∨ (∃ pre, pre <+: beB v width ∧ Jx pre W')) := by
  refine callsIn_of_wp Try.func56 rfl h6 ?_ hro
  simp only [Try.ntmps56, List.size_toArray, List.length_cons, List.length_nil, Nat.reduceAdd, Nat.reduceSub, Array.replicate_succ, Array.replicate_zero, List.push_toArray, List.append_toArray, List.nil_append, List.cons_append]
  gi_wp2
  gi_loopw [4] (fun i wr => ∃ (r : Nat), i = .int .i64 ((r : Int) - 1) ∧ r ≤ width ∧ J ((beB v width).take (width - r)) wr ∧ wr.cell? ⟨Bn, 0, none⟩ = some (.int .u64 v))
    (fun i wr => (intOf i + 1).toNat)
  case atStart =>
    exact ⟨width, rfl, Nat.le_refl _, by simpa using h0, hnn⟩
  case round =>
    obtain ⟨r, rfl, hr, hJs, hc⟩ := hrel
    cases r with
    | zero =>
      gi_wp2
      go_end0
      exact ⟨⟨_, rfl⟩, .inl ⟨_, by rw [List.take_of_length_le (by rw [beB_length]; omega)], hJs⟩⟩
    | succ r =>
      have hts := beB_take_snoc v width (width - (r + 1)) (by omega)
      have e1 : width - (r + 1) + 1 = width - r := by omega
      have e2 : width - 1 - (width - (r + 1)) = r := by omega
      rw [e1, e2] at hts
      have Hts := Lib.hid hts
      clear hts e1 e2
      obtain ⟨fn, tmps, assign, body, hy, hR⟩ := hY _ (UInt8.ofNat (v / 256 ^ r)) wr hJs (by rw [List.length_take, beB_length]; omega)
      rw [byte_form] at hy
      gi_wp2
      refine hR.mono ?_
      rintro e W3 (⟨rfl, hJ3, hk3⟩ | ⟨rfl, hJx3⟩)
      · have hc3 : W3.cell? ⟨Bn, 0, none⟩ = some (.int .u64 v) := (hk3.cell (p := ⟨Bn, 0, none⟩) hBn).trans hc
        gi_wp2
        go_roundw
        case rel => exact ⟨r, by simp, by omega, by rw [Hts.out]; exact hJ3, hc3⟩
        case measure => simp [intOf]
      · gi_wp2
        refine bodyPost_ret (results_none rfl _ _ _) rfl ?_
        exact ⟨⟨_, rfl⟩, .inr ⟨_, by rw [← Hts.out]; exact List.take_prefix _ _, hJx3⟩⟩


/-- The closure of bigEndian yields the bytes of v. -/
theorem be_stops (F : Fence) (n : Nat) (h6 : F.fn 56) (hro : F.round = none) (hn : 1 ≤ n) (Bw Bn n₀ v width : Nat) (hwid : width ≤ 8) (hBw : Bw < n₀) (hBn : Bn < n₀) (w : World) (hn₀ : n₀ ≤ w.heap.size)
    (hw : w.cell? ⟨Bw, 0, none⟩ = some (.int .i64 width)) (hnn : w.cell? ⟨Bn, 0, none⟩ = some (.int .u64 v)) :
    SeqStopsK F n Try.prog 56 #[.pointer (some ⟨Bw, 0, none⟩), .pointer (some ⟨Bn, 0, none⟩)] (fun x : UInt8 => #[Value.int .u8 x.toNat]) (Below n₀) (fun ys => ys = beB v width) (fun pre => pre <+: beB v width) width w := fun l J Jx W hW _ _ hY h0 =>
  be1_in F n h6 hro hn l Bw Bn n₀ v width hwid hBn J Jx hY W ((hW.cell (p := ⟨Bw, 0, none⟩) (Nat.lt_of_lt_of_le hBw hn₀)).trans hw) ((hW.cell (p := ⟨Bn, 0, none⟩) (Nat.lt_of_lt_of_le hBn hn₀)).trans hnn) h0

theorem info5 : (Try.prog.info? 5).map (fun i => (i.zero, i.size, i.bytes)) = some (some (.int .u8 0), 1, 1) := by kernel_rfl

def byteCells (l : List UInt8) : List Value := l.map fun b => .int .u8 b.toNat
theorem byteCells_snoc (l : List UInt8) (x : UInt8) : byteCells (l ++ [x]) = byteCells l ++ [.int .u8 x.toNat] := by simp [byteCells]
theorem byteCells_length (l : List UInt8) : (byteCells l).length = l.length := by simp [byteCells]

/-- 'string(b)' of a row of bytes that the call owns. -/
theorem run_string_own {base : Nat} (W : World) (v : Value) (l : List UInt8) (h : 0 < l.length) (hrow : W.ownsRow base 5 1 v l.length (byteCells l)) :
    (convert 30 9 v).run Try.prog W = .ok (.string ⟨l.toArray⟩) W := by
  obtain ⟨g, cap, rfl⟩ : ∃ g cap, v = .slice (some ⟨g, 0, none⟩) l.length cap := by
    obtain ⟨k, hk⟩ : ∃ k, l.length = k + 1 := ⟨l.length - 1, by omega⟩
    rw [hk] at hrow ⊢
    exact ownsRow_succ hrow
  refine run_convert_bytes_back W 30 9 5 ⟨g, 0, none⟩ cap l Try.underlying30 Try.underlying5 Try.underlying9 (fun j hj => ?_)
  refine hrow.cells rfl j _ ?_
  simp [byteCells, List.getElem?_eq_getElem hj]

set_option maxRecDepth 100000 in
set_option maxHeartbeats 1000000 in
theorem collect_in (F : Fence) (n : Nat) (h41 : F.fn 41) (h56 : F.fn 56) (hro : F.round = none) (hn : 3 ≤ n) (Bw Bn n0 width : Nat) (hwid : width ≤ 8) (hw1 : 1 ≤ width) (w : World) (hBw : Bw < w.heap.size) (hBn : Bn < w.heap.size)
    (hw : w.cell? ⟨Bw, 0, none⟩ = some (.int .i64 width)) (hnn : w.cell? ⟨Bn, 0, none⟩ = some (.int .u64 n0)) :
    CallsIn F n Try.prog 41 #[.func (.func 56) #[] #[.pointer (some ⟨Bw, 0, none⟩), .pointer (some ⟨Bn, 0, none⟩)]] w fun e W' => e = .returned (.string ⟨(beB n0 width).toArray⟩) ∧ Below w.heap.size w W' := by
  have h1 : 1 ≤ n := by omega
  obtain ⟨i0, hi, hz0, hz1, hz2⟩ := info_parts info5
  refine callsIn_of_wp_marks Try.func41 rfl h41 ?_ hro
  simp only [Try.ntmps41, List.size_toArray, List.length_cons, List.length_nil, Nat.reduceAdd, Nat.reduceSub, Array.replicate_succ, Array.replicate_zero, List.push_toArray, List.append_toArray, List.nil_append, List.cons_append]
  gi_wp2
  have bO := Boxed.new w 30 (.slice none 0 0)
  have hB0 : Below w.heap.size w (w.alloc (.cells #[.slice none 0 0] 30)) := (Below.refl _ w).alloc (Nat.le_refl _) _
  refine wpIn_rangeFunc_ownG hro h1 (gf := 56) (lb := #[.pointer (some ⟨Bw, 0, none⟩), .pointer (some ⟨Bn, 0, none⟩)]) rfl h56 (enters_of Try.func56 (by kernel_rfl) rfl)
    (be_stops F (n - 1) h56 hro (by omega) Bw Bn w.heap.size n0 width hwid hBw hBn _ (by simp) ((hB0.cell (p := ⟨Bw, 0, none⟩) hBw).trans hw) ((hB0.cell (p := ⟨Bn, 0, none⟩) hBn).trans hnn)) belowK_t (belowK_b (by simp)) (Below.refl _ _) (fun _ => rfl)
    (fun pre W => (∃ v, Boxed W w.heap.size 30 v ∧ W.ownsRow w.heap.size 5 1 v pre.length (byteCells pre) ∧ True) ∧ Below w.heap.size w W)
    (fun _ _ _ => False)
    (OwnFrom.and (Own.from (holdsRow_own w.heap.size w.heap.size 30 5 1 (fun pre : List UInt8 => pre.length) (fun pre => byteCells pre) (fun _ _ => True)) _) (ownFrom_below (Nat.le_refl _) (by simp)))
    (fun _ _ _ _ _ hs _ _ => hs)
    ⟨⟨_, bO, World.ownsRow_nil _ _ _ _, trivial⟩, hB0⟩
    (fun x => { tmps := #[.func (.func 56) #[] #[.pointer (some ⟨Bw, 0, none⟩), .pointer (some ⟨Bn, 0, none⟩)], undef, .string ⟨#[]⟩, .pointer (some ⟨w.heap.size, 0, none⟩), .int .u8 x.toNat, .func (.func 56) #[] #[.pointer (some ⟨Bw, 0, none⟩), .pointer (some ⟨Bn, 0, none⟩)], .int .u8 x.toNat, undef, undef, undef, undef, undef, undef], defers := [] }) ?assign ?body ?done ?stop
  case assign =>
    intro l x W K hK
    gi_wp2
    exact hK
  case body =>
    rintro l pre x W ⟨⟨v, hv, hrow, _⟩, hB⟩ hlt
    have hc := hv.cell
    gi_wp2_with (gi_at_builtin; refine wpListIn_append_own _ rfl _ _ 30 rfl w.heap.size 5 i0 (.int .u8 0) 1 1 Try.underlying30 hi hz0 hz1 hz2 rfl (by decide) _ _ _ rfl (hrow.alloc _) ⟨W.heap.size, 0, none⟩ 1 1 [.int .u8 x.toNat] rfl rfl (cell_one_new _ _ _) (by simp [Value.oneCell']) (by unfold maxLen; omega) (by omega) (by have := hB.size; simp; omega) ?_; intro v' w1 hown' hgrow _; obtain ⟨g', cap', rfl⟩ := ownsRow_succ hown'; obtain ⟨hv1, hv2, hr2, hk2, hb2⟩ := hv.appended (by decide) hrow hB.size (Nat.le_refl _) hown' hgrow; have hc1 := hv1.cell; have hf1 := hv1.frozen)
    exact ⟨hk2.from _, hb2, ⟨_, hv2, by rw [byteCells_snoc]; simpa using hr2, trivial⟩, hB.trans hb2⟩
  case done =>
    rintro D ys W hD rfl ⟨⟨v, hv, hrow, _⟩, hB⟩ hK
    have hc := hv.cell
    have hrun := run_string_own W v (beB n0 width) (by rw [beB_length]; omega) hrow
    gi_wp2
    refine ⟨by simp, .inl ⟨_, _, rfl, run_takeDeferred hK, ?_⟩⟩
    exact ⟨_, results_tmp rfl _ _ _, rfl, hB.trans (belowK_b (w := w) (Nat.le_refl _) W D _ _ (by simp at hD; omega) hK rfl rfl)⟩
  case stop =>
    rintro D c pre W _ _ h _
    exact h.elim

end Go.Proofs.Ytmafbkoneggggaa
