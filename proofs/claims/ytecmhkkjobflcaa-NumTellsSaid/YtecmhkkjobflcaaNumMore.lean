/- Contracts of package num's further functions: what each returns, and that it changes nothing. -/
import Derived.Test.YtecmhkkjobflcaaNum
import Derived.Test.YtecmhkkjobflcaaRot
import Derived.Laws.BitsLemmas
namespace Go.Proofs.Ytecmhkkjobflcaa.Num
open Go.RowKit Go.Proofs.Ytecmhkkjobflcaa.Rot
set_option linter.unusedVariables false

theorem mul_bound (a b : Int) (a0 : 0 ≤ a) (a1 : a < 4294967296) (b0 : 0 ≤ b) (b1 : b < 4294967296) : a * b < 18446744073709551616 := by
  obtain ⟨a, rfl⟩ := Int.eq_ofNat_of_zero_le a0
  obtain ⟨b, rfl⟩ := Int.eq_ofNat_of_zero_le b0
  have h : a * b < 4294967296 * 4294967296 := Nat.mul_lt_mul'' (by omega) (by omega)
  have h' : ((a * b : Nat) : Int) < ((4294967296 * 4294967296 : Nat) : Int) := Int.ofNat_lt.2 h
  rw [Int.natCast_mul] at h'
  omega

/-- What is left: the difference and true; else 0 and false. -/
def less (a b : Int) : Int := if b > a then 0 else a - b
def lessB (a b : Int) : Bool := decide (b ≤ a)

theorem sub32_c (a b : Int) (a0 : 0 ≤ a) (a1 : a < 4294967296) (b0 : 0 ≤ b) (b1 : b < 4294967296) (w : World) :
    Calls Try.prog 11 #[.int .u32 a, .int .u32 b] w fun e w' => e = .returned (.tuple #[.int .u32 (less a b), .bool (lessB a b)]) ∧ w' = w := by
  by_cases h : b > a
  all_goals
    go_enter Try.func11, Try.ntmps11
    go_wp2
    go_returns
    exact ⟨ret_pair (by unfold less; omega) (by unfold lessB; simp; omega), rfl⟩

/-- What fits into 64 bits. -/
def fit64 (n : Int) : Int := if n < 18446744073709551616 then n else 0
def fit64B (n : Int) : Bool := decide (n < 18446744073709551616)

theorem add64_no (a b : Int) (a0 : 0 ≤ a) (a1 : a ≤ 18446744073709551615) (b0 : 0 ≤ b) (b1 : b ≤ 18446744073709551615) (v : Int) (hv : IntKind.u64.wrap (a + b) = v) (h : v < a) (w : World) :
    Calls Try.prog 19 #[.int .u64 a, .int .u64 b] w fun e w' => e = .returned (.tuple #[.int .u64 0, .bool false]) ∧ w' = w := by
  go_enter Try.func19, Try.ntmps19
  go_wp2
  go_returns
  exact ⟨rfl, rfl⟩
theorem add64_yes (a b : Int) (a0 : 0 ≤ a) (a1 : a ≤ 18446744073709551615) (b0 : 0 ≤ b) (b1 : b ≤ 18446744073709551615) (v : Int) (hv : IntKind.u64.wrap (a + b) = v) (h : a ≤ v) (w : World) :
    Calls Try.prog 19 #[.int .u64 a, .int .u64 b] w fun e w' => e = .returned (.tuple #[.int .u64 v, .bool true]) ∧ w' = w := by
  go_enter Try.func19, Try.ntmps19
  go_wp2
  go_returns
  exact ⟨rfl, rfl⟩
theorem add64_c (a b : Int) (a0 : 0 ≤ a) (a1 : a < 18446744073709551616) (b0 : 0 ≤ b) (b1 : b < 18446744073709551616) (w : World) :
    Calls Try.prog 19 #[.int .u64 a, .int .u64 b] w fun e w' => e = .returned (.tuple #[.int .u64 (fit64 (a + b)), .bool (fit64B (a + b))]) ∧ w' = w := by
  have hw : IntKind.u64.wrap (a + b) = (a + b) % 18446744073709551616 := by simp [IntKind.wrap, IntKind.bits, IntKind.signed]
  by_cases h : a + b < 18446744073709551616
  · have e1 : fit64 (a + b) = a + b := by unfold fit64; omega
    have e2 : fit64B (a + b) = true := by unfold fit64B; simp; omega
    rw [e1, e2]
    exact add64_yes a b a0 (by omega) b0 (by omega) (a + b) (by rw [hw]; omega) (by omega) w
  · have e1 : fit64 (a + b) = 0 := by unfold fit64; omega
    have e2 : fit64B (a + b) = false := by unfold fit64B; simp; omega
    rw [e1, e2]
    exact add64_no a b a0 (by omega) b0 (by omega) _ hw (by omega) w

theorem join_c (a b : Int) (a0 : 0 ≤ a) (a1 : a < 4294967296) (b0 : 0 ≤ b) (b1 : b < 4294967296) (w : World) :
    Calls Try.prog 14 #[.int .u32 a, .int .u32 b] w fun e w' => e = .returned (.int .u64 (a * 4294967296 + b)) ∧ w' = w := by
  have hj : bits .or .u64 (a * 4294967296) b = a * 4294967296 + b := bits_join .u64 64 (by decide) (by intro n h0 h1; simp [IntKind.wrap, IntKind.bits, IntKind.signed]; omega) 32 _ _ (by omega) (by omega) (by omega) b0 (by omega) (by omega)
  go_enter Try.func14, Try.ntmps14
  go_wp2
  go_returns
  exact ⟨by first | rfl | (simp [hj]; done), rfl⟩

theorem turn_w (a b k m : Int) (a0 : 0 ≤ a) (a1 : a < 4294967296) (k0 : 0 ≤ k) (k1 : k < 32) (m0 : 0 ≤ m) (m1 : m < 32) (e1 : bits .and .i64 b 31 = k) (e2 : bits .and .i64 (32 - k) 31 = m) (w : World) :
    Calls Try.prog 15 #[.int .u32 a, .int .i64 b] w fun e w' => e = .returned (.int .u32 (bits .or .u32 (a / 2 ^ k.toNat) (a * 2 ^ m.toNat % 4294967296))) ∧ ∃ n, w' = w.drewN n := by
  go_enter Try.func15, Try.ntmps15
  go_wp2
  go_quiet (fail)
  go_wp2
  go_returns
  exact ⟨rfl, _, rfl⟩
theorem turn_c (a b : Int) (a0 : 0 ≤ a) (a1 : a < 4294967296) (w : World) :
    Calls Try.prog 15 #[.int .u32 a, .int .i64 b] w fun e w' => e = .returned (.int .u32 (turn a b)) ∧ ∃ n, w' = w.drewN n := by
  have hb0 : 0 ≤ b % 32 := Int.emod_nonneg _ (by decide)
  have hb1 : b % 32 < 32 := Int.emod_lt_of_pos _ (by decide)
  have h := turn_w a b (b % 32) ((32 - b % 32) % 32) a0 a1 hb0 hb1 (by omega) (by omega) (and31 b) (and31 _) w
  rw [or_rot a (b % 32) _ a0 a1 hb0 hb1 rfl] at h
  exact h

/-- The number with its highest bit as a sign, and back. -/
def signed (n : Int) : Int := if n < 2147483648 then n else n - 4294967296
def unsigned (n : Int) : Int := if n < 0 then n + 4294967296 else n

theorem signed_c (n : Int) (h0 : 0 ≤ n) (h1 : n < 4294967296) (w : World) :
    Calls Try.prog 16 #[.int .u32 n] w fun e w' => e = .returned (.int .i32 (signed n)) ∧ w' = w := by
  go_enter Try.func16, Try.ntmps16
  go_wp2
  go_returns
  exact ⟨ret_int (by unfold signed; first | omega | (unfold wrap32; omega)), rfl⟩
theorem unsigned_c (n : Int) (h0 : -2147483648 ≤ n) (h1 : n < 2147483648) (w : World) :
    Calls Try.prog 17 #[.int .i32 n] w fun e w' => e = .returned (.int .u32 (unsigned n)) ∧ w' = w := by
  go_enter Try.func17, Try.ntmps17
  go_wp2
  go_returns
  exact ⟨ret_int (by unfold unsigned; omega), rfl⟩
end Go.Proofs.Ytecmhkkjobflcaa.Num
