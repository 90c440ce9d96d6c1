/-
  Walks: NumberFrom, at every integer.
-/
import Derived.Deep.RegionWith
import Derived.Test.YtmafbkoneggggaaW5
namespace Go.Proofs.Ytmafbkoneggggaa
open Go.RowKit

theorem pickI_bd (c n : Int) (hn : 1 ≤ n) : 0 ≤ pickI c n ∧ pickI c n < n := by
  unfold pickI
  exact ⟨Int.emod_nonneg _ (by omega), Int.emod_lt_of_pos _ (by omega)⟩

def numLim (k : Int) : Int := if k = 0 then 64 else if k = 1 then 16384 else if k = 2 then 1073741824 else 1152921504606846976
def numFrom (c : Int) : Int := pickI (pickI c 4611686018427387904 / 4) (numLim (pickI c 4))

theorem numFrom_bd (c : Int) : 0 ≤ numFrom c ∧ numFrom c < 1152921504606846976 := by
  unfold numFrom
  have h : 1 ≤ numLim (pickI c 4) ∧ numLim (pickI c 4) ≤ 1152921504606846976 := by unfold numLim; repeat' split
                                                                                   all_goals omega
  have := pickI_bd (pickI c 4611686018427387904 / 4) _ h.1
  omega

theorem pick_h (c n x : Int) (w : World) (hc : -9223372036854775808 ≤ c) (hc' : c ≤ 9223372036854775807) (hn : 1 ≤ n) (hn' : n ≤ 9223372036854775807) (hx : Hid (pickI c n = x)) :
    Calls Try.prog 19 #[.int .i64 c, .int .i64 n] w fun e w' => e = .returned (.int .i64 x) ∧ w = w' :=
  (pick_any c n w hc hc' hn hn').mono fun _ _ ⟨h1, h2⟩ => ⟨by rw [h1, hx.out], h2⟩

theorem quo4 (p : Int) (h0 : 0 ≤ p) (h1 : p < 4611686018427387904) : IntKind.i64.wrap (p.tdiv 4) = p / 4 := by
  rw [IntKind.wrap_i64, Int.tdiv_eq_ediv_of_nonneg h0]; omega

set_option maxHeartbeats 400000 in
theorem numFrom_k0 (c : Int) (w : World) (hc : -9223372036854775808 ≤ c) (hc' : c ≤ 9223372036854775807) (hk : pickI c 4 = 0) :
    Calls Try.prog 15 #[.int .i64 c] w fun e w' => e = .returned (.int .i64 (numFrom c)) ∧ Below w.heap.size w w' := by
  have hP := pickI_bd c 4611686018427387904 (by omega)
  have hf : numFrom c = pickI (pickI c 4611686018427387904 / 4) 64 := by unfold numFrom; rw [hk]; rfl
  generalize hp : pickI c 4611686018427387904 = p at *
  generalize hq : numFrom c = q at *
  have e4 := quo4 p hP.1 hP.2
  rw [← e4] at hf
  have b1 : -9223372036854775808 ≤ IntKind.i64.wrap (p.tdiv 4) := by rw [e4]; omega
  have b2 : IntKind.i64.wrap (p.tdiv 4) ≤ 9223372036854775807 := by rw [e4]; omega
  have Hk := Lib.hid hk
  have Hp := Lib.hid hp
  have Hf := Lib.hid hf.symm
  have B1 := Lib.hid b1
  have B2 := Lib.hid b2
  clear hk hp hq hf e4 b1 b2
  go_enter Try.func15, Try.ntmps15
  go_wp2_with fail
  refine (pick_h _ _ 0 _ hc hc' (by omega) (by omega) Hk).mono ?_
  rintro e w' ⟨rfl, rfl⟩
  go_wp2_with fail
  go_region_with (first
    | (go_at_call_of 19 (Value.int .i64 c); with_reducible refine (pick_h c 4611686018427387904 p _ hc hc' (by omega) (by omega) Hp).mono ?_; rintro e w' ⟨rfl, rfl⟩)
    | (go_at_call 19; with_reducible refine (pick_h (IntKind.i64.wrap (p.tdiv 4)) 64 q _ B1.out B2.out (by omega) (by omega) Hf).mono ?_; rintro e w' ⟨rfl, rfl⟩))
  all_goals
    go_wp2
    go_ret
    exact ⟨rfl, by repeat (first | exact Below.refl _ _ | exact Nat.le_refl _ | refine Below.drew ?_ | refine Below.alloc ?_ ?_ _)⟩

set_option maxHeartbeats 400000 in
theorem numFrom_k1 (c : Int) (w : World) (hc : -9223372036854775808 ≤ c) (hc' : c ≤ 9223372036854775807) (hk : pickI c 4 = 1) :
    Calls Try.prog 15 #[.int .i64 c] w fun e w' => e = .returned (.int .i64 (numFrom c)) ∧ Below w.heap.size w w' := by
  have hP := pickI_bd c 4611686018427387904 (by omega)
  have hf : numFrom c = pickI (pickI c 4611686018427387904 / 4) 16384 := by unfold numFrom; rw [hk]; rfl
  generalize hp : pickI c 4611686018427387904 = p at *
  generalize hq : numFrom c = q at *
  have e4 := quo4 p hP.1 hP.2
  rw [← e4] at hf
  have b1 : -9223372036854775808 ≤ IntKind.i64.wrap (p.tdiv 4) := by rw [e4]; omega
  have b2 : IntKind.i64.wrap (p.tdiv 4) ≤ 9223372036854775807 := by rw [e4]; omega
  have Hk := Lib.hid hk
  have Hp := Lib.hid hp
  have Hf := Lib.hid hf.symm
  have B1 := Lib.hid b1
  have B2 := Lib.hid b2
  clear hk hp hq hf e4 b1 b2
  go_enter Try.func15, Try.ntmps15
  go_wp2_with fail
  refine (pick_h _ _ 1 _ hc hc' (by omega) (by omega) Hk).mono ?_
  rintro e w' ⟨rfl, rfl⟩
  go_wp2_with fail
  go_region_with (first
    | (go_at_call_of 19 (Value.int .i64 c); with_reducible refine (pick_h c 4611686018427387904 p _ hc hc' (by omega) (by omega) Hp).mono ?_; rintro e w' ⟨rfl, rfl⟩)
    | (go_at_call 19; with_reducible refine (pick_h (IntKind.i64.wrap (p.tdiv 4)) 16384 q _ B1.out B2.out (by omega) (by omega) Hf).mono ?_; rintro e w' ⟨rfl, rfl⟩))
  all_goals
    go_wp2
    go_ret
    exact ⟨rfl, by repeat (first | exact Below.refl _ _ | exact Nat.le_refl _ | refine Below.drew ?_ | refine Below.alloc ?_ ?_ _)⟩

set_option maxHeartbeats 400000 in
theorem numFrom_k2 (c : Int) (w : World) (hc : -9223372036854775808 ≤ c) (hc' : c ≤ 9223372036854775807) (hk : pickI c 4 = 2) :
    Calls Try.prog 15 #[.int .i64 c] w fun e w' => e = .returned (.int .i64 (numFrom c)) ∧ Below w.heap.size w w' := by
  have hP := pickI_bd c 4611686018427387904 (by omega)
  have hf : numFrom c = pickI (pickI c 4611686018427387904 / 4) 1073741824 := by unfold numFrom; rw [hk]; rfl
  generalize hp : pickI c 4611686018427387904 = p at *
  generalize hq : numFrom c = q at *
  have e4 := quo4 p hP.1 hP.2
  rw [← e4] at hf
  have b1 : -9223372036854775808 ≤ IntKind.i64.wrap (p.tdiv 4) := by rw [e4]; omega
  have b2 : IntKind.i64.wrap (p.tdiv 4) ≤ 9223372036854775807 := by rw [e4]; omega
  have Hk := Lib.hid hk
  have Hp := Lib.hid hp
  have Hf := Lib.hid hf.symm
  have B1 := Lib.hid b1
  have B2 := Lib.hid b2
  clear hk hp hq hf e4 b1 b2
  go_enter Try.func15, Try.ntmps15
  go_wp2_with fail
  refine (pick_h _ _ 2 _ hc hc' (by omega) (by omega) Hk).mono ?_
  rintro e w' ⟨rfl, rfl⟩
  go_wp2_with fail
  go_region_with (first
    | (go_at_call_of 19 (Value.int .i64 c); with_reducible refine (pick_h c 4611686018427387904 p _ hc hc' (by omega) (by omega) Hp).mono ?_; rintro e w' ⟨rfl, rfl⟩)
    | (go_at_call 19; with_reducible refine (pick_h (IntKind.i64.wrap (p.tdiv 4)) 1073741824 q _ B1.out B2.out (by omega) (by omega) Hf).mono ?_; rintro e w' ⟨rfl, rfl⟩))
  all_goals
    go_wp2
    go_ret
    exact ⟨rfl, by repeat (first | exact Below.refl _ _ | exact Nat.le_refl _ | refine Below.drew ?_ | refine Below.alloc ?_ ?_ _)⟩

set_option maxHeartbeats 400000 in
theorem numFrom_k3 (c : Int) (w : World) (hc : -9223372036854775808 ≤ c) (hc' : c ≤ 9223372036854775807) (hk : pickI c 4 = 3) :
    Calls Try.prog 15 #[.int .i64 c] w fun e w' => e = .returned (.int .i64 (numFrom c)) ∧ Below w.heap.size w w' := by
  have hP := pickI_bd c 4611686018427387904 (by omega)
  have hf : numFrom c = pickI (pickI c 4611686018427387904 / 4) 1152921504606846976 := by unfold numFrom; rw [hk]; rfl
  generalize hp : pickI c 4611686018427387904 = p at *
  generalize hq : numFrom c = q at *
  have e4 := quo4 p hP.1 hP.2
  rw [← e4] at hf
  have b1 : -9223372036854775808 ≤ IntKind.i64.wrap (p.tdiv 4) := by rw [e4]; omega
  have b2 : IntKind.i64.wrap (p.tdiv 4) ≤ 9223372036854775807 := by rw [e4]; omega
  have Hk := Lib.hid hk
  have Hp := Lib.hid hp
  have Hf := Lib.hid hf.symm
  have B1 := Lib.hid b1
  have B2 := Lib.hid b2
  clear hk hp hq hf e4 b1 b2
  go_enter Try.func15, Try.ntmps15
  go_wp2_with fail
  refine (pick_h _ _ 3 _ hc hc' (by omega) (by omega) Hk).mono ?_
  rintro e w' ⟨rfl, rfl⟩
  go_wp2_with fail
  go_region_with (first
    | (go_at_call_of 19 (Value.int .i64 c); with_reducible refine (pick_h c 4611686018427387904 p _ hc hc' (by omega) (by omega) Hp).mono ?_; rintro e w' ⟨rfl, rfl⟩)
    | (go_at_call 19; with_reducible refine (pick_h (IntKind.i64.wrap (p.tdiv 4)) 1152921504606846976 q _ B1.out B2.out (by omega) (by omega) Hf).mono ?_; rintro e w' ⟨rfl, rfl⟩))
  all_goals
    go_wp2
    go_ret
    exact ⟨rfl, by repeat (first | exact Below.refl _ _ | exact Nat.le_refl _ | refine Below.drew ?_ | refine Below.alloc ?_ ?_ _)⟩

theorem numFrom_any (c : Int) (w : World) (hc : -9223372036854775808 ≤ c) (hc' : c ≤ 9223372036854775807) :
    Calls Try.prog 15 #[.int .i64 c] w fun e w' => e = .returned (.int .i64 (numFrom c)) ∧ Below w.heap.size w w' := by
  have := pickI_bd c 4 (by omega)
  rcases (show pickI c 4 = 0 ∨ pickI c 4 = 1 ∨ pickI c 4 = 2 ∨ pickI c 4 = 3 by omega) with e | e | e | e
  · exact numFrom_k0 c w hc hc' e
  · exact numFrom_k1 c w hc hc' e
  · exact numFrom_k2 c w hc hc' e
  · exact numFrom_k3 c w hc hc' e

end Go.Proofs.Ytmafbkoneggggaa
