/- Sets as bits of 16: the machine's words on them. No program. -/
import Derived.Test.YtkpdimbblcmnaaaCtlP
import Derived.Laws.Bits64b
import Derived.Laws.BitsLemmas
import Derived.Laws.BitsAllLaws
namespace Go.Proofs.Ytkpdimbblcmnaaa
theorem and16 (a b : Nat) (ha : a < 65536) (hb : b < 65536) : bits .and .u16 (a : Int) (b : Int) = ((a &&& b : Nat) : Int) := by
  have hx : a &&& b < 2 ^ 16 := Nat.and_lt_two_pow _ (by omega)
  have h1 : (BitVec.ofInt 16 (a : Int)).toNat = a := by
    rw [BitVec.ofInt_natCast, BitVec.toNat_ofNat]; exact Nat.mod_eq_of_lt (by omega)
  have h2 : (BitVec.ofInt 16 (b : Int)).toNat = b := by
    rw [BitVec.ofInt_natCast, BitVec.toNat_ofNat]; exact Nat.mod_eq_of_lt (by omega)
  show IntKind.u16.wrap ((BitVec.ofInt 16 (a : Int) &&& BitVec.ofInt 16 (b : Int)).toNat : Int) = _
  rw [BitVec.toNat_and, h1, h2, show IntKind.u16.wrap _ = _ from rfl]
  simp [IntKind.wrap, IntKind.bits, IntKind.signed]
  omega
theorem or16 (a b : Nat) (ha : a < 65536) (hb : b < 65536) : bits .or .u16 (a : Int) (b : Int) = ((a ||| b : Nat) : Int) := by
  have hx : a ||| b < 2 ^ 16 := Nat.or_lt_two_pow (by omega) (by omega)
  have h1 : (BitVec.ofInt 16 (a : Int)).toNat = a := by
    rw [BitVec.ofInt_natCast, BitVec.toNat_ofNat]; exact Nat.mod_eq_of_lt (by omega)
  have h2 : (BitVec.ofInt 16 (b : Int)).toNat = b := by
    rw [BitVec.ofInt_natCast, BitVec.toNat_ofNat]; exact Nat.mod_eq_of_lt (by omega)
  show IntKind.u16.wrap ((BitVec.ofInt 16 (a : Int) ||| BitVec.ofInt 16 (b : Int)).toNat : Int) = _
  rw [BitVec.toNat_or, h1, h2, show IntKind.u16.wrap _ = _ from rfl]
  simp [IntKind.wrap, IntKind.bits, IntKind.signed]
  omega
theorem encB_lt12 (S : Nat → Bool) {n : Nat} (hn : n ≤ 12) : encB S n < 4096 := Nat.lt_of_lt_of_le (encB_lt S n) (by have := Nat.pow_le_pow_right (n := 2) (by omega) hn; simpa using this)
theorem castDiv (a h : Nat) : ((a : Nat) : Int) / 2 ^ h = ((a / 2 ^ h : Nat) : Int) := by
  rw [Int.natCast_ediv, Int.natCast_pow]; rfl
theorem bit16 (S : Nat → Bool) {n h : Nat} (hn : n ≤ 12) (hh : h < n) : bits .and .u16 ((encB S n : Nat) / 2 ^ h) 1 = if S h then 1 else 0 := by
  have h1 := encB_lt12 S hn
  have h2 : encB S n / 2 ^ h < 65536 := Nat.lt_of_le_of_lt (Nat.div_le_self _ _) (by omega)
  have h3 := and16 (encB S n / 2 ^ h) 1 h2 (by omega)
  rw [castDiv]
  rw [show ((1 : Nat) : Int) = 1 from rfl] at h3
  rw [h3, Nat.and_one_is_mod, encB_shift S n h hh]
  split <;> rfl
theorem bit16_yes {S : Nat → Bool} {n h : Nat} (hn : n ≤ 12) (hh : h < n) (hs : S h = true) : bits .and .u16 ((encB S n : Nat) / 2 ^ h) 1 = 1 := by rw [bit16 S hn hh, hs]; rfl
theorem bit16_no {S : Nat → Bool} {n h : Nat} (hn : n ≤ 12) (hh : h < n) (hs : S h = false) : bits .and .u16 ((encB S n : Nat) / 2 ^ h) 1 = 0 := by rw [bit16 S hn hh, hs]; rfl
theorem orEnc (S T : Nat → Bool) {n : Nat} (hn : n ≤ 12) : bits .or .u16 (encB S n : Nat) (encB T n : Nat) = ((encB (fun i => S i || T i) n : Nat) : Int) := by
  have h1 := encB_lt12 S hn
  have h2 := encB_lt12 T hn
  rw [or16 _ _ (by omega) (by omega), encB_or]
theorem orBit {S : Nat → Bool} {e : Nat} (he : e < 12) (hs : S e = true) : bits .or .u16 (encB S e : Nat) (2 ^ e) = ((encB S (e + 1) : Nat) : Int) := by
  have h1 := encB_lt12 S (n := e) (by omega)
  have h2 : 2 ^ e < 4096 := by have := Nat.pow_lt_pow_right (a := 2) (by omega) he; simpa using this
  have h3 := or16 (encB S e) (2 ^ e) (by omega) (by omega)
  rw [Int.natCast_pow] at h3
  rw [show ((2 : Nat) : Int) = 2 from rfl] at h3
  rw [h3]
  congr 1
  simp only [encB, hs, if_true]
  have := Nat.two_pow_add_eq_or_of_lt (encB_lt S e) 1
  rw [Nat.mul_one] at this
  rw [Nat.or_comm, ← this, Nat.add_comm]
theorem orBit' {S : Nat → Bool} {e : Nat} (he : e < 12) (hs : S e = true) : bits .or .u16 (encB S e : Nat) (IntKind.u16.wrap (2 ^ e)) = ((encB S (e + 1) : Nat) : Int) := by
  have h2 : 2 ^ e < 4096 := by have := Nat.pow_lt_pow_right (a := 2) (by omega) he; simpa using this
  have h3 : IntKind.u16.wrap ((2 : Int) ^ e) = 2 ^ e := by
    have e1 : ((2 : Int) ^ e) = ((2 ^ e : Nat) : Int) := by rw [Int.natCast_pow]; rfl
    rw [e1, IntKind.wrap_u16]
    generalize 2 ^ e = p at h2
    omega
  rw [h3]
  exact orBit he hs
end Go.Proofs.Ytkpdimbblcmnaaa
