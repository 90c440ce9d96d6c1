/-
  The contracts of package keys with the results named, their laws hidden beside them.
-/
import Derived.Test.YtmafbkoneggggaaL2
namespace Go.Proofs.Ytmafbkoneggggaa
open Go.RowKit

def cliS (k : ByteArray) (l : List UInt8) (c : ByteArray) : ByteArray := ⟨(cliB k.data.toList l c.data.toList).toArray⟩
def srvS (k : ByteArray) (l : List UInt8) (c : ByteArray) : ByteArray := ⟨(srvB k.data.toList l c.data.toList).toArray⟩
def derS (k : ByteArray) (l : List UInt8) (c : ByteArray) : ByteArray := ⟨(derB k.data.toList l c.data.toList).toArray⟩
def finS (k c : ByteArray) : ByteArray := ⟨(finB k.data.toList c.data.toList).toArray⟩
def lInit : List UInt8 := [105, 110, 105, 116, 105, 97, 108]
def lHs : List UInt8 := [104, 97, 110, 100, 115, 104, 97, 107, 101]
def lApp : List UInt8 := [97, 112, 112]
def lEarly : List UInt8 := [101, 97, 114, 108, 121]
def lResum : List UInt8 := [114, 101, 115, 117, 109, 112, 116, 105, 111, 110]
def lNext : List UInt8 := [110, 101, 120, 116]
def lKey : List UInt8 := [107, 101, 121]
def lIv : List UInt8 := [105, 118]
def lMac : List UInt8 := [109, 97, 99]
def lHp : List UInt8 := [104, 112]

theorem derS_size (k : ByteArray) (l : List UInt8) (c : ByteArray) : (derS k l c).size = 16 := by
  show (derB _ _ _).toArray.size = 16; simp [derB_length]
theorem cliS_size (k : ByteArray) (l : List UInt8) (c : ByteArray) : (cliS k l c).size = 16 := by
  show (derB _ _ _).toArray.size = 16; simp [derB_length]
theorem srvS_size (k : ByteArray) (l : List UInt8) (c : ByteArray) : (srvS k l c).size = 16 := by
  show (derB _ _ _).toArray.size = 16; simp [derB_length]
theorem finS_size (k c : ByteArray) : (finS k c).size = 8 := by
  show (tagB _ _).toArray.size = 8; simp [tagB_length]
theorem toBytes_inj {a b : List UInt8} (h : (⟨a.toArray⟩ : ByteArray) = ⟨b.toArray⟩) : a = b := by injection h with h; simpa using h
theorem cliS_ne (k : ByteArray) (l : List UInt8) (c : ByteArray) : cliS k l c ≠ srvS k l c := fun h => cli_ne_srv _ _ _ (toBytes_inj h)
theorem bytes_ext {a b : ByteArray} (h : a.data.toList = b.data.toList) : a = b := by
  cases a; cases b; simp at h; rw [h]

theorem init_s (k c : ByteArray) (w : World) (hk : Hid (k.size = 16)) (hc8 : Hid (c.size = 8)) :
    Calls Try.prog 25 #[.string k, .string c] w fun e w' => (∃ a b : ByteArray, e = .returned (.tuple #[.agg #[.string a, .string b], .int .i64 0]) ∧ Hid (a = cliS k lInit c) ∧ Hid (b = srvS k lInit c)) ∧ Below w.heap.size w w' :=
  (init_ok k c _ _ w hk hc8 (Lib.hid rfl) (Lib.hid rfl)).mono fun _ _ h => ⟨⟨_, _, h.1, Lib.hid rfl, Lib.hid rfl⟩, h.2⟩
theorem hs_s (k c : ByteArray) (w : World) (hk : Hid (k.size = 16)) (hc : c.size ≤ 8192) :
    Calls Try.prog 29 #[.string k, .string c] w fun e w' => (∃ a b : ByteArray, e = .returned (.tuple #[.agg #[.string a, .string b], .int .i64 0]) ∧ Hid (a = cliS k lHs c) ∧ Hid (b = srvS k lHs c)) ∧ Below w.heap.size w w' :=
  (hs_ok k c _ _ w hk hc (Lib.hid rfl) (Lib.hid rfl)).mono fun _ _ h => ⟨⟨_, _, h.1, Lib.hid rfl, Lib.hid rfl⟩, h.2⟩
theorem app_s (k c : ByteArray) (w : World) (hk : Hid (k.size = 16)) (hc : c.size ≤ 8192) :
    Calls Try.prog 28 #[.string k, .string c] w fun e w' => (∃ a b : ByteArray, e = .returned (.tuple #[.agg #[.string a, .string b], .int .i64 0]) ∧ Hid (a = cliS k lApp c) ∧ Hid (b = srvS k lApp c)) ∧ Below w.heap.size w w' :=
  (app_ok k c _ _ w hk hc (Lib.hid rfl) (Lib.hid rfl)).mono fun _ _ h => ⟨⟨_, _, h.1, Lib.hid rfl, Lib.hid rfl⟩, h.2⟩
theorem early_s (k c : ByteArray) (w : World) (hk : Hid (k.size = 16)) (hc : c.size ≤ 8192) :
    Calls Try.prog 37 #[.string k, .string c] w fun e w' => (∃ a : ByteArray, e = .returned (.tuple #[.string a, .int .i64 0]) ∧ Hid (a = derS k lEarly c)) ∧ Below w.heap.size w w' :=
  (early_ok k c _ w hk hc (Lib.hid rfl)).mono fun _ _ h => ⟨⟨_, h.1, Lib.hid rfl⟩, h.2⟩
theorem resum_s (k c : ByteArray) (w : World) (hk : Hid (k.size = 16)) (hc : c.size ≤ 8192) :
    Calls Try.prog 38 #[.string k, .string c] w fun e w' => (∃ a : ByteArray, e = .returned (.tuple #[.string a, .int .i64 0]) ∧ Hid (a = derS k lResum c)) ∧ Below w.heap.size w w' :=
  (resum_ok k c _ w hk hc (Lib.hid rfl)).mono fun _ _ h => ⟨⟨_, h.1, Lib.hid rfl⟩, h.2⟩
theorem next_s (k : ByteArray) (w : World) (hk : Hid (k.size = 16)) :
    Calls Try.prog 31 #[.string k] w fun e w' => (∃ a : ByteArray, e = .returned (.tuple #[.string a, .int .i64 0]) ∧ Hid (a = derS k lNext ⟨#[]⟩)) ∧ Below w.heap.size w w' :=
  (next_ok k _ w hk (Lib.hid rfl)).mono fun _ _ h => ⟨⟨_, h.1, Lib.hid rfl⟩, h.2⟩
theorem fin_s (k c : ByteArray) (w : World) (hk : Hid (k.size = 16)) (hc : c.size ≤ 8192) :
    Calls Try.prog 36 #[.string k, .string c] w fun e w' => (∃ a : ByteArray, e = .returned (.tuple #[.string a, .int .i64 0]) ∧ Hid (a = finS k c)) ∧ Below w.heap.size w w' :=
  (fin_ok k c _ w hk hc (Lib.hid rfl)).mono fun _ _ h => ⟨⟨_, h.1, Lib.hid rfl⟩, h.2⟩
theorem expand_s (k : ByteArray) (w : World) (hk : Hid (k.size = 16)) :
    Calls Try.prog 26 #[.string k] w fun e w' => (∃ a b c d : ByteArray, e = .returned (.tuple #[.agg #[.string a, .string b, .string c, .string d], .int .i64 0]) ∧ Hid (a = derS k lKey ⟨#[]⟩) ∧ Hid (b = (derS k lIv ⟨#[]⟩).extract 0 8 ∧ b.size = 8) ∧ Hid (c = derS k lMac ⟨#[]⟩) ∧ Hid (d = derS k lHp ⟨#[]⟩)) ∧ Below w.heap.size w w' :=
  (expand_ok k _ _ _ _ w hk (Lib.hid rfl) (Lib.hid rfl) (Lib.hid rfl) (Lib.hid rfl)).mono fun _ _ h => ⟨⟨_, _, _, _, h.1, Lib.hid rfl, Lib.hid ⟨by
    apply bytes_ext
    rw [ByteArray.data_extract]
    simp [derS, lIv], by show ((derB _ _ _).take 8).toArray.size = 8; simp [derB_length]⟩, Lib.hid rfl, Lib.hid rfl⟩, h.2⟩

/-- A decided equality of sizes. -/
theorem size_is {a : ByteArray} {n : Nat} (h : a.size = n) : (((a.size : Nat) : Int) == (n : Int)) = true := by rw [beq_iff_eq, h]

theorem ne_list {a b : ByteArray} (h : a ≠ b) : (a.toList == b.toList) = false := by
  rw [beq_eq_false_iff_ne, Go.ByteArray.toList_eq, Go.ByteArray.toList_eq]
  exact fun e => h (bytes_ext e)
theorem eq_list {a b : ByteArray} (h : a = b) : (a.toList == b.toList) = true := by rw [h]; exact beq_self_eq_true _

end Go.Proofs.Ytmafbkoneggggaa
