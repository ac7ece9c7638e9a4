/- Turning the bits of a number of 32 bits, as the walk spells it, is a rotation of a bit vector of 32 bits: for every number of 32 bits and every count. Plain: no program. -/
import Derived.RowKit
import Derived.Laws.BitsLemmas
namespace Go.Proofs.Ytecmhkkjobflcaa.Rot
open Go.RowKit

theorem rot_rot (x : BitVec 32) (i j : Nat) : (x.rotateRight i).rotateRight j = x.rotateRight (i + j) := by
  ext k hk
  simp only [BitVec.getElem_rotateRight]
  have hi : i % 32 < 32 := Nat.mod_lt _ (by omega)
  have hj : j % 32 < 32 := Nat.mod_lt _ (by omega)
  repeat' split
  all_goals congr 1
  all_goals omega

theorem rot_32 (x : BitVec 32) (i j : Nat) (h : i % 32 = j % 32) : x.rotateRight i = x.rotateRight j := by
  simp only [BitVec.rotateRight, h]

theorem and31 (b : Int) : bits .and .i64 b 31 = b % 32 := by
  simp only [bits]
  rw [IntKind.wrap_i64]
  have h : ((BitVec.ofInt IntKind.i64.bits b &&& BitVec.ofInt IntKind.i64.bits 31).toNat) = (b % 32).toNat := by
    have e : (BitVec.ofInt IntKind.i64.bits 31).toNat = 2 ^ 5 - 1 := by decide
    rw [BitVec.toNat_and, e, Nat.and_two_pow_sub_one_eq_mod, BitVec.toNat_ofInt]
    show (b % ((2 ^ 64 : Nat) : Int)).toNat % 2 ^ 5 = _
    omega
  rw [h]
  omega

/-- What the printed Turn tells. -/
def turn (a b : Int) : Int := (((BitVec.ofInt 32 a).rotateRight (b % 32).toNat).toNat : Int)

theorem turn_bound (a b : Int) : 0 ≤ turn a b ∧ turn a b < 4294967296 := by
  unfold turn
  have := ((BitVec.ofInt 32 a).rotateRight (b % 32).toNat).isLt
  omega

theorem ofInt_toNat (x : BitVec 32) : BitVec.ofInt 32 (x.toNat : Int) = x := by
  rw [BitVec.ofInt_natCast, BitVec.ofNat_toNat, BitVec.setWidth_eq]

theorem ofInt_turn (a b : Int) : BitVec.ofInt 32 (turn a b) = (BitVec.ofInt 32 a).rotateRight (b % 32).toNat := ofInt_toNat _

theorem turn_turn (a b c : Int) : turn (turn a b) c = turn a (b + c) := by
  show (((BitVec.ofInt 32 (turn a b)).rotateRight (c % 32).toNat).toNat : Int) = _
  rw [ofInt_turn, rot_rot]
  unfold turn
  rw [rot_32 _ _ ((b + c) % 32).toNat (by omega)]

theorem rot_zero (x : BitVec 32) : x.rotateRight 0 = x := by
  ext k hk
  simp only [BitVec.getElem_rotateRight]
  rw [dif_pos (by omega)]
  congr 1
  omega

theorem turn_zero (a b : Int) (h0 : 0 ≤ a) (h1 : a < 4294967296) (hb : b % 32 = 0) : turn a b = a := by
  unfold turn
  rw [hb, show (0 : Int).toNat = 0 from rfl, rot_zero, BitVec.toNat_ofInt]
  omega

theorem or_rot (a k m : Int) (h0 : 0 ≤ a) (h1 : a < 4294967296) (hk0 : 0 ≤ k) (hk1 : k < 32) (hm : m = (32 - k) % 32) :
    bits .or .u32 (a / 2 ^ k.toNat) (a * 2 ^ m.toNat % 4294967296) = (((BitVec.ofInt 32 a).rotateRight k.toNat).toNat : Int) := by
  obtain ⟨a, rfl⟩ := Int.eq_ofNat_of_zero_le h0
  obtain ⟨k, rfl⟩ := Int.eq_ofNat_of_zero_le hk0
  have ha : a < 4294967296 := by omega
  have hk : k < 32 := by omega
  by_cases hz : k = 0
  · subst hz
    rw [hm, show (((0 : Nat) : Int)).toNat = 0 from rfl, rot_zero]
    simp only [bits]
    rw [IntKind.wrap_u32, BitVec.ofInt_natCast]
    simp [IntKind.bits]
    rw [show ((a : Int) % 4294967296) = (a : Int) from by omega, BitVec.ofInt_natCast]
    show ((BitVec.ofNat 32 a ||| BitVec.ofNat 32 a).toNat : Int) % 4294967296 = a
    rw [BitVec.or_self, BitVec.toNat_ofNat]
    omega
  · rw [hm, show (32 - (k : Int)) % 32 = ((32 - k : Nat) : Int) from by omega]
    simp only [bits, Int.toNat_natCast]
    rw [IntKind.wrap_u32, BitVec.ofInt_natCast]
    have e1 : BitVec.ofInt IntKind.u32.bits ((a : Int) / 2 ^ k) = (BitVec.ofNat 32 a) >>> k := by
      apply BitVec.eq_of_toNat_eq
      rw [show ((a : Int) / 2 ^ k) = ((a / 2 ^ k : Nat) : Int) from by simp, BitVec.ofInt_natCast]
      simp [IntKind.bits, Nat.shiftRight_eq_div_pow]
      rw [Nat.mod_eq_of_lt ha]
      exact Nat.mod_eq_of_lt (Nat.lt_of_le_of_lt (Nat.div_le_self _ _) ha)
    have e2 : BitVec.ofInt IntKind.u32.bits ((a : Int) * 2 ^ (32 - k) % 4294967296) = (BitVec.ofNat 32 a) <<< (32 - k) := by
      apply BitVec.eq_of_toNat_eq
      rw [show ((a : Int) * 2 ^ (32 - k) % 4294967296) = ((a * 2 ^ (32 - k) % 4294967296 : Nat) : Int) from by simp, BitVec.ofInt_natCast]
      simp [IntKind.bits, Nat.shiftLeft_eq, Nat.mod_eq_of_lt ha]
    rw [e1, e2, BitVec.rotateRight, Nat.mod_eq_of_lt hk, BitVec.rotateRightAux]
    have h : ((BitVec.ofNat 32 a) >>> k ||| (BitVec.ofNat 32 a) <<< (32 - k)).toNat < 4294967296 := ((BitVec.ofNat 32 a) >>> k ||| (BitVec.ofNat 32 a) <<< (32 - k)).isLt
    show (((BitVec.ofNat 32 a) >>> k ||| (BitVec.ofNat 32 a) <<< (32 - k)).toNat : Int) % 4294967296 = (((BitVec.ofNat 32 a) >>> k ||| (BitVec.ofNat 32 a) <<< (32 - k)).toNat : Int)
    omega

/-- One bit to the right. -/
theorem turn_one (n : Int) (h0 : 0 ≤ n) (h1 : n < 4294967296) : turn n 1 = n / 2 + 2147483648 * (n % 2) := by
  have h := or_rot n 1 31 h0 h1 (by decide) (by decide) (by decide)
  unfold turn
  rw [show ((1 : Int) % 32).toNat = (1 : Int).toNat from rfl, ← h]
  rw [show (31 : Int).toNat = 31 from rfl, show (1 : Int).toNat = 1 from rfl]
  rw [Int.pow_one]
  rw [show bits .or .u32 (n / 2) (n * 2 ^ 31 % 4294967296) = n / 2 + n * 2 ^ 31 % 4294967296 from ?_]
  · omega
  · have hs : bits .or .u32 (n * 2 ^ 31 % 4294967296) (n / 2) = n * 2 ^ 31 % 4294967296 + n / 2 :=
      bits_join .u32 32 (by decide) (by intro x hx0 hx1; rw [IntKind.wrap_u32]; omega) 31 _ _ (by omega) (by omega) (by omega) (by omega) (by omega) (by omega)
    have hc : bits .or .u32 (n / 2) (n * 2 ^ 31 % 4294967296) = bits .or .u32 (n * 2 ^ 31 % 4294967296) (n / 2) := by
      simp only [bits]
      rw [BitVec.or_comm]
    rw [hc, hs]
    omega
end Go.Proofs.Ytecmhkkjobflcaa.Rot
