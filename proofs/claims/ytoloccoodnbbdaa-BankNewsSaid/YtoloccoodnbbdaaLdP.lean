/- Plain numbers for the ladder: which group, which place, bits set and cleared. -/
import Derived.WalkKit
namespace Go.Proofs.Ytoloccoodnbbdaa
open Go.RowKit

def gsel (g : Int) : Nat := (g % 2).toNat
def ksel (p : Int) : Nat := (p % 256 / 8).toNat
theorem gsel_lt (g : Int) : gsel g < 2 := by unfold gsel; omega
theorem ksel_lt (p : Int) : ksel p < 32 := by unfold ksel; omega

theorem bits_and_nat (k : IntKind) (a b : Nat) (ha : a < 2 ^ k.bits) (hb : b < 2 ^ k.bits) (hk : k.signed = false) : bits .and k (a : Int) (b : Int) = ((a &&& b : Nat) : Int) := by
  have h1 : (BitVec.ofInt k.bits (a : Int)).toNat = a := by
    rw [BitVec.ofInt_natCast, BitVec.toNat_ofNat]; exact Nat.mod_eq_of_lt ha
  have h2 : (BitVec.ofInt k.bits (b : Int)).toNat = b := by
    rw [BitVec.ofInt_natCast, BitVec.toNat_ofNat]; exact Nat.mod_eq_of_lt hb
  show k.wrap ((BitVec.ofInt k.bits (a : Int) &&& BitVec.ofInt k.bits (b : Int)).toNat : Int) = _
  rw [BitVec.toNat_and, h1, h2]
  have hx : a &&& b < 2 ^ k.bits := Nat.lt_of_le_of_lt Nat.and_le_left ha
  unfold IntKind.wrap
  simp only [hk]
  norm_cast
  simp [Nat.mod_eq_of_lt hx]

theorem bits_or_nat (k : IntKind) (a b : Nat) (ha : a < 2 ^ k.bits) (hb : b < 2 ^ k.bits) (hk : k.signed = false) : bits .or k (a : Int) (b : Int) = ((a ||| b : Nat) : Int) := by
  have h1 : (BitVec.ofInt k.bits (a : Int)).toNat = a := by
    rw [BitVec.ofInt_natCast, BitVec.toNat_ofNat]; exact Nat.mod_eq_of_lt ha
  have h2 : (BitVec.ofInt k.bits (b : Int)).toNat = b := by
    rw [BitVec.ofInt_natCast, BitVec.toNat_ofNat]; exact Nat.mod_eq_of_lt hb
  show k.wrap ((BitVec.ofInt k.bits (a : Int) ||| BitVec.ofInt k.bits (b : Int)).toNat : Int) = _
  rw [BitVec.toNat_or, h1, h2]
  have hx : a ||| b < 2 ^ k.bits := Nat.or_lt_two_pow ha hb
  unfold IntKind.wrap
  simp only [hk]
  norm_cast
  simp [Nat.mod_eq_of_lt hx]

/-- a with the bits of b cleared, of numbers of n bits. -/
def clr (n a b : Nat) : Nat := a &&& (2 ^ n - 1 - b)
theorem bits_andNot_nat (k : IntKind) (a b : Nat) (ha : a < 2 ^ k.bits) (hb : b < 2 ^ k.bits) (hk : k.signed = false) : bits .andNot k (a : Int) (b : Int) = ((clr k.bits a b : Nat) : Int) := by
  have h1 : (BitVec.ofInt k.bits (a : Int)).toNat = a := by
    rw [BitVec.ofInt_natCast, BitVec.toNat_ofNat]; exact Nat.mod_eq_of_lt ha
  have h2 : (BitVec.ofInt k.bits (b : Int)).toNat = b := by
    rw [BitVec.ofInt_natCast, BitVec.toNat_ofNat]; exact Nat.mod_eq_of_lt hb
  show k.wrap ((BitVec.ofInt k.bits (a : Int) &&& ~~~ BitVec.ofInt k.bits (b : Int)).toNat : Int) = _
  rw [BitVec.toNat_and, BitVec.toNat_not, h1, h2]
  have hx : clr k.bits a b < 2 ^ k.bits := Nat.lt_of_le_of_lt Nat.and_le_left ha
  unfold IntKind.wrap
  simp only [hk]
  unfold clr at *
  norm_cast
  simp [Nat.mod_eq_of_lt hx]

theorem bits_and1_i64 (g : Int) : bits .and .i64 g 1 = (gsel g : Int) := by
  show IntKind.i64.wrap ((BitVec.ofInt 64 g &&& BitVec.ofInt 64 1).toNat : Int) = _
  rw [BitVec.toNat_and]
  have h2 : (BitVec.ofInt 64 1).toNat = 1 := by decide
  rw [h2, Nat.and_one_is_mod]
  have h3 : ((BitVec.ofInt 64 g).toNat : Int) = g % 18446744073709551616 := by
    rw [BitVec.toNat_ofInt]; exact Int.toNat_of_nonneg (Int.emod_nonneg _ (by decide))
  have h4 : ((BitVec.ofInt 64 g).toNat % 2 : Nat) = gsel g := by
    unfold gsel; omega
  rw [h4]
  have := gsel_lt g
  rw [IntKind.wrap_i64]; omega

theorem bits_and255_u64 (p : Int) : bits .and .u64 (IntKind.u64.wrap p) 255 = p % 256 := by
  show IntKind.u64.wrap ((BitVec.ofInt 64 (IntKind.u64.wrap p) &&& BitVec.ofInt 64 255).toNat : Int) = _
  rw [BitVec.toNat_and]
  have h2 : (BitVec.ofInt 64 255).toNat = 2 ^ 8 - 1 := by decide
  rw [h2, Nat.and_two_pow_sub_one_eq_mod]
  have h3 : ((BitVec.ofInt 64 (IntKind.u64.wrap p)).toNat : Int) = p % 18446744073709551616 := by
    rw [BitVec.toNat_ofInt, IntKind.wrap_u64]
    rw [Int.toNat_of_nonneg (Int.emod_nonneg _ (by decide))]
    simp
  rw [IntKind.wrap_u64]
  omega

theorem ksel_shr (p : Int) : p % 256 / 8 = (ksel p : Int) := by unfold ksel; omega

end Go.Proofs.Ytoloccoodnbbdaa
