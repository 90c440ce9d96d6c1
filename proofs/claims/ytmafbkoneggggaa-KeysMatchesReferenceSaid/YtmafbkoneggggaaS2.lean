/-
  The contracts of package keys and of the reference with one and the same value named, whatever the secret's length.
-/
import Derived.Test.YtmafbkoneggggaaFC
namespace Go.Proofs.Ytmafbkoneggggaa
open Go.RowKit

def uZ (k : ByteArray) : Int := if k.size = 16 then 0 else 50
def uS (k x : ByteArray) : ByteArray := if k.size = 16 then x else ⟨#[]⟩
def iZ (k c : ByteArray) : Int := if k.size = 16 ∧ c.size = 8 then 0 else 50
def iS (k c x : ByteArray) : ByteArray := if k.size = 16 ∧ c.size = 8 then x else ⟨#[]⟩

/-- One string and an error. -/
def One (k x : ByteArray) (w : World) (e : Ending) (w' : World) : Prop := (∃ (a : ByteArray) (z : Int), e = .returned (.tuple #[.string a, .int .i64 z]) ∧ Hid (a = uS k x) ∧ Hid (z = uZ k)) ∧ Below w.heap.size w w'
/-- Two strings and an error. -/
def Two (k x y : ByteArray) (w : World) (e : Ending) (w' : World) : Prop := (∃ (a b : ByteArray) (z : Int), e = .returned (.tuple #[.agg #[.string a, .string b], .int .i64 z]) ∧ Hid (a = uS k x) ∧ Hid (b = uS k y) ∧ Hid (z = uZ k)) ∧ Below w.heap.size w w'
def Ini (k c : ByteArray) (w : World) (e : Ending) (w' : World) : Prop := (∃ (a b : ByteArray) (z : Int), e = .returned (.tuple #[.agg #[.string a, .string b], .int .i64 z]) ∧ Hid (a = iS k c (cliS k lInit c)) ∧ Hid (b = iS k c (srvS k lInit c)) ∧ Hid (z = iZ k c)) ∧ Below w.heap.size w w'
def Four (k : ByteArray) (w : World) (e : Ending) (w' : World) : Prop := (∃ (a b c d : ByteArray) (z : Int), e = .returned (.tuple #[.agg #[.string a, .string b, .string c, .string d], .int .i64 z]) ∧ Hid (a = uS k (derS k lKey ⟨#[]⟩)) ∧ Hid (b = uS k ((derS k lIv ⟨#[]⟩).extract 0 8)) ∧ Hid (c = uS k (derS k lMac ⟨#[]⟩)) ∧ Hid (d = uS k (derS k lHp ⟨#[]⟩)) ∧ Hid (z = uZ k)) ∧ Below w.heap.size w w'

theorem uZ_ok {k : ByteArray} (h : k.size = 16) : (0 : Int) = uZ k := (if_pos h).symm
theorem uZ_no {k : ByteArray} (h : ¬ k.size = 16) : (50 : Int) = uZ k := (if_neg h).symm
theorem uS_ok {k : ByteArray} (h : k.size = 16) (x : ByteArray) : x = uS k x := (if_pos h).symm
theorem uS_no {k : ByteArray} (h : ¬ k.size = 16) (x : ByteArray) : (⟨#[]⟩ : ByteArray) = uS k x := (if_neg h).symm
theorem iZ_ok {k c : ByteArray} (h : k.size = 16 ∧ c.size = 8) : (0 : Int) = iZ k c := (if_pos h).symm
theorem iZ_no {k c : ByteArray} (h : ¬ (k.size = 16 ∧ c.size = 8)) : (50 : Int) = iZ k c := (if_neg h).symm
theorem iS_ok {k c : ByteArray} (h : k.size = 16 ∧ c.size = 8) (x : ByteArray) : x = iS k c x := (if_pos h).symm
theorem iS_no {k c : ByteArray} (h : ¬ (k.size = 16 ∧ c.size = 8)) (x : ByteArray) : (⟨#[]⟩ : ByteArray) = iS k c x := (if_neg h).symm

theorem one_of {f : FuncId} {A : Array Value} {k x : ByteArray} {w : World}
    (ok : Hid (k.size = 16) → Calls Try.prog f A w fun e w' => e = .returned (.tuple #[.string x, .int .i64 0]) ∧ Below w.heap.size w w')
    (er : Hid (¬ k.size = 16) → Calls Try.prog f A w fun e w' => e = .returned (.tuple #[.string ⟨#[]⟩, .int .i64 50]) ∧ Below w.heap.size w w') :
    Calls Try.prog f A w (One k x w) := by
  by_cases h : k.size = 16
  · exact (ok (Lib.hid h)).mono fun _ _ ⟨h1, h2⟩ => ⟨⟨_, _, h1, Lib.hid (uS_ok h _), Lib.hid (uZ_ok h)⟩, h2⟩
  · exact (er (Lib.hid h)).mono fun _ _ ⟨h1, h2⟩ => ⟨⟨_, _, h1, Lib.hid (uS_no h _), Lib.hid (uZ_no h)⟩, h2⟩

theorem two_of {f : FuncId} {A : Array Value} {k x y : ByteArray} {w : World}
    (ok : Hid (k.size = 16) → Calls Try.prog f A w fun e w' => e = .returned (.tuple #[.agg #[.string x, .string y], .int .i64 0]) ∧ Below w.heap.size w w')
    (er : Hid (¬ k.size = 16) → Calls Try.prog f A w fun e w' => e = .returned (.tuple #[.agg #[.string ⟨#[]⟩, .string ⟨#[]⟩], .int .i64 50]) ∧ Below w.heap.size w w') :
    Calls Try.prog f A w (Two k x y w) := by
  by_cases h : k.size = 16
  · exact (ok (Lib.hid h)).mono fun _ _ ⟨h1, h2⟩ => ⟨⟨_, _, _, h1, Lib.hid (uS_ok h _), Lib.hid (uS_ok h _), Lib.hid (uZ_ok h)⟩, h2⟩
  · exact (er (Lib.hid h)).mono fun _ _ ⟨h1, h2⟩ => ⟨⟨_, _, _, h1, Lib.hid (uS_no h _), Lib.hid (uS_no h _), Lib.hid (uZ_no h)⟩, h2⟩

theorem ini_of {f : FuncId} {A : Array Value} {k c : ByteArray} {w : World}
    (ok : Hid (k.size = 16) → Hid (c.size = 8) → Calls Try.prog f A w fun e w' => e = .returned (.tuple #[.agg #[.string (cliS k lInit c), .string (srvS k lInit c)], .int .i64 0]) ∧ Below w.heap.size w w')
    (er : Hid (¬ k.size = 16) → Hid (c.size = 8) → Calls Try.prog f A w fun e w' => e = .returned (.tuple #[.agg #[.string ⟨#[]⟩, .string ⟨#[]⟩], .int .i64 50]) ∧ Below w.heap.size w w')
    (sz : Hid (¬ c.size = 8) → Calls Try.prog f A w fun e w' => e = .returned (.tuple #[.agg #[.string ⟨#[]⟩, .string ⟨#[]⟩], .int .i64 50]) ∧ Below w.heap.size w w') :
    Calls Try.prog f A w (Ini k c w) := by
  by_cases hc : c.size = 8
  · by_cases h : k.size = 16
    · exact (ok (Lib.hid h) (Lib.hid hc)).mono fun _ _ ⟨h1, h2⟩ => ⟨⟨_, _, _, h1, Lib.hid (iS_ok ⟨h, hc⟩ _), Lib.hid (iS_ok ⟨h, hc⟩ _), Lib.hid (iZ_ok ⟨h, hc⟩)⟩, h2⟩
    · exact (er (Lib.hid h) (Lib.hid hc)).mono fun _ _ ⟨h1, h2⟩ => ⟨⟨_, _, _, h1, Lib.hid (iS_no (fun x => h x.1) _), Lib.hid (iS_no (fun x => h x.1) _), Lib.hid (iZ_no (fun x => h x.1))⟩, h2⟩
  · exact (sz (Lib.hid hc)).mono fun _ _ ⟨h1, h2⟩ => ⟨⟨_, _, _, h1, Lib.hid (iS_no (fun x => hc x.2) _), Lib.hid (iS_no (fun x => hc x.2) _), Lib.hid (iZ_no (fun x => hc x.2))⟩, h2⟩

/-! Package keys. -/
theorem expand_u (k : ByteArray) (w : World) : Calls Try.prog 26 #[.string k] w (Four k w) := by
  by_cases h : k.size = 16
  · exact (expand_s k w (Lib.hid h)).mono fun _ _ ⟨⟨a, b, c, d, h1, ha, hb, hc, hd⟩, h2⟩ => ⟨⟨a, b, c, d, 0, h1, Lib.hid (ha.out.trans (uS_ok h _)), Lib.hid (hb.out.1.trans (uS_ok h _)), Lib.hid (hc.out.trans (uS_ok h _)), Lib.hid (hd.out.trans (uS_ok h _)), Lib.hid (uZ_ok h)⟩, h2⟩
  · exact (expand_err k w (Lib.hid h)).mono fun _ _ ⟨h1, h2⟩ => ⟨⟨_, _, _, _, _, h1, Lib.hid (uS_no h _), Lib.hid (uS_no h _), Lib.hid (uS_no h _), Lib.hid (uS_no h _), Lib.hid (uZ_no h)⟩, h2⟩
theorem next_u (k : ByteArray) (w : World) : Calls Try.prog 31 #[.string k] w (One k (derS k lNext ⟨#[]⟩) w) :=
  one_of (fun h => next_ok k _ w h (Lib.hid rfl)) (fun h => next_err k w h)
theorem early_u (k c : ByteArray) (w : World) (hc : c.size ≤ 8192) : Calls Try.prog 37 #[.string k, .string c] w (One k (derS k lEarly c) w) :=
  one_of (fun h => early_ok k c _ w h hc (Lib.hid rfl)) (fun h => early_err k c w (Lib.hid (Or.inl h.out)))
theorem resum_u (k c : ByteArray) (w : World) (hc : c.size ≤ 8192) : Calls Try.prog 38 #[.string k, .string c] w (One k (derS k lResum c) w) :=
  one_of (fun h => resum_ok k c _ w h hc (Lib.hid rfl)) (fun h => resum_err k c w (Lib.hid (Or.inl h.out)))
theorem fin_u (k c : ByteArray) (w : World) (hc : c.size ≤ 8192) : Calls Try.prog 36 #[.string k, .string c] w (One k (finS k c) w) :=
  one_of (fun h => fin_ok k c _ w h hc (Lib.hid rfl)) (fun h => fin_err k c w (Lib.hid (Or.inl h.out)))
theorem hs_u (k c : ByteArray) (w : World) (hc : c.size ≤ 8192) : Calls Try.prog 29 #[.string k, .string c] w (Two k (cliS k lHs c) (srvS k lHs c) w) :=
  two_of (fun h => hs_ok k c _ _ w h hc (Lib.hid rfl) (Lib.hid rfl)) (fun h => hs_err k c w (Lib.hid (Or.inl h.out)))
theorem app_u (k c : ByteArray) (w : World) (hc : c.size ≤ 8192) : Calls Try.prog 28 #[.string k, .string c] w (Two k (cliS k lApp c) (srvS k lApp c) w) :=
  two_of (fun h => app_ok k c _ _ w h hc (Lib.hid rfl) (Lib.hid rfl)) (fun h => app_err k c w (Lib.hid (Or.inl h.out)))
theorem init_u (k c : ByteArray) (w : World) : Calls Try.prog 25 #[.string k, .string c] w (Ini k c w) :=
  ini_of (fun h hc => init_ok k c _ _ w h hc (Lib.hid rfl) (Lib.hid rfl)) (fun h hc => init_err k c w hc (Lib.hid (Or.inl h.out))) (fun hc => init_size k c w hc.out)

/-! The reference. -/
theorem rexpand_u (k : ByteArray) (w : World) : Calls Try.prog 30 #[.string k] w (Four k w) := by
  by_cases h : k.size = 16
  · exact (rexpand_ok k _ _ _ _ w (Lib.hid h) (Lib.hid rfl) (Lib.hid rfl) (Lib.hid rfl) (Lib.hid rfl)).mono fun _ _ ⟨h1, h2⟩ => ⟨⟨_, _, _, _, _, h1, Lib.hid (uS_ok h _), Lib.hid (uS_ok h _), Lib.hid (uS_ok h _), Lib.hid (uS_ok h _), Lib.hid (uZ_ok h)⟩, h2⟩
  · exact (rexpand_err k w (Lib.hid h)).mono fun _ _ ⟨h1, h2⟩ => ⟨⟨_, _, _, _, _, h1, Lib.hid (uS_no h _), Lib.hid (uS_no h _), Lib.hid (uS_no h _), Lib.hid (uS_no h _), Lib.hid (uZ_no h)⟩, h2⟩
theorem rnext_u (k : ByteArray) (w : World) : Calls Try.prog 32 #[.string k] w (One k (derS k lNext ⟨#[]⟩) w) :=
  one_of (fun h => rnext_ok k _ w h (Lib.hid rfl)) (fun h => rnext_err k w h)
theorem rearly_u (k c : ByteArray) (w : World) (hc : c.size ≤ 8192) : Calls Try.prog 52 #[.string k, .string c] w (One k (derS k lEarly c) w) :=
  one_of (fun h => rearly_ok k c _ w h hc (Lib.hid rfl)) (fun h => rearly_err k c w h hc)
theorem rresum_u (k c : ByteArray) (w : World) (hc : c.size ≤ 8192) : Calls Try.prog 53 #[.string k, .string c] w (One k (derS k lResum c) w) :=
  one_of (fun h => rresum_ok k c _ w h hc (Lib.hid rfl)) (fun h => rresum_err k c w h hc)
theorem rfin_u (k c : ByteArray) (w : World) (hc : c.size ≤ 8192) : Calls Try.prog 54 #[.string k, .string c] w (One k (finS k c) w) :=
  one_of (fun h => rfin_ok k c _ w h hc (Lib.hid rfl)) (fun h => rfin_err k c w h hc)
theorem rhs_u (k c : ByteArray) (w : World) (hc : c.size ≤ 8192) : Calls Try.prog 50 #[.string k, .string c] w (Two k (cliS k lHs c) (srvS k lHs c) w) :=
  two_of (fun h => rhs_ok k c _ _ w h hc (Lib.hid rfl) (Lib.hid rfl)) (fun h => rhs_err k c w h hc)
theorem rapp_u (k c : ByteArray) (w : World) (hc : c.size ≤ 8192) : Calls Try.prog 51 #[.string k, .string c] w (Two k (cliS k lApp c) (srvS k lApp c) w) :=
  two_of (fun h => rapp_ok k c _ _ w h hc (Lib.hid rfl) (Lib.hid rfl)) (fun h => rapp_err k c w h hc)
theorem rinit_u (k c : ByteArray) (w : World) : Calls Try.prog 33 #[.string k, .string c] w (Ini k c w) :=
  ini_of (fun h hc => rinit_ok k c _ _ w h hc (Lib.hid rfl) (Lib.hid rfl)) (fun h hc => rinit_err k c w h hc) (fun hc => rinit_size k c w hc)

end Go.Proofs.Ytmafbkoneggggaa
