/- Contracts of the document's answers for numbers: what each returns, and that it changes nothing. -/
import Derived.Test.YtecmhkkjobflcaaNumMore
namespace Go.Proofs.Ytecmhkkjobflcaa.RefNum
open Go.RowKit Go.Proofs.Ytecmhkkjobflcaa.Num Go.Proofs.Ytecmhkkjobflcaa.Rot
set_option linter.unusedVariables false

theorem refAdd32_c (a b : Int) (a0 : 0 ≤ a) (a1 : a < 4294967296) (b0 : 0 ≤ b) (b1 : b < 4294967296) (w : World) :
    Calls Try.prog 20 #[.int .u32 a, .int .u32 b] w fun e w' => e = .returned (.tuple #[.int .u32 (fit (a + b)), .bool (fitB (a + b))]) ∧ w' = w := by
  by_cases h : a + b < 4294967296
  all_goals
    go_enter Try.func20, Try.ntmps20
    go_wp2
    go_returns
    exact ⟨ret_pair (by unfold fit; omega) (by unfold fitB; simp; omega), rfl⟩

theorem div_le_iff (a b m : Int) (b1 : 1 ≤ b) : m / b < a ↔ m < a * b := Int.ediv_lt_iff_lt_mul (by omega)

theorem refMul32_zero (a : Int) (a0 : 0 ≤ a) (a1 : a < 4294967296) (w : World) :
    Calls Try.prog 22 #[.int .u32 a, .int .u32 0] w fun e w' => e = .returned (.tuple #[.int .u32 0, .bool true]) ∧ w' = w := by
  go_enter Try.func22, Try.ntmps22
  go_wp2
  go_returns
  exact ⟨rfl, rfl⟩

theorem refMul32_pos (a b : Int) (a0 : 0 ≤ a) (a1 : a < 4294967296) (b0 : 1 ≤ b) (b1 : b < 4294967296) (m0 : 0 ≤ a * b) (w : World) :
    Calls Try.prog 22 #[.int .u32 a, .int .u32 b] w fun e w' => e = .returned (.tuple #[.int .u32 (fit (a * b)), .bool (fitB (a * b))]) ∧ w' = w := by
  have hz : (b != 0) = true := by rw [bne_iff_ne]; omega
  have hi := div_le_iff a b 4294967295 b0
  have q0 : 0 ≤ 4294967295 / b := Int.ediv_nonneg (by decide) (by omega)
  have q1 : 4294967295 / b ≤ 4294967295 := Int.ediv_le_self _ (by decide)
  generalize hm : a * b = m at *
  by_cases h : m < 4294967296
  · have hd : ¬ 4294967295 / b < a := fun g => by have := hi.1 g; omega
    have e1 : fit m = m := by unfold fit; omega
    have e2 : fitB m = true := by unfold fitB; simp; omega
    rw [e1, e2]
    clear hi e1 e2
    have HM := show Hid (a * b = m) from hm
    clear hm
    go_enter Try.func22, Try.ntmps22
    go_wp2
    go_returns
    exact ⟨ret_pair (by rw [HM.out]; omega) rfl, rfl⟩
  · have hd : 4294967295 / b < a := hi.2 (by omega)
    have e1 : fit m = 0 := by unfold fit; omega
    have e2 : fitB m = false := by unfold fitB; simp; omega
    rw [e1, e2]
    clear hi e1 e2 hm
    go_enter Try.func22, Try.ntmps22
    go_wp2
    go_returns
    exact ⟨rfl, rfl⟩

theorem refMul32_c (a b : Int) (a0 : 0 ≤ a) (a1 : a < 4294967296) (b0 : 0 ≤ b) (b1 : b < 4294967296) (w : World) :
    Calls Try.prog 22 #[.int .u32 a, .int .u32 b] w fun e w' => e = .returned (.tuple #[.int .u32 (fit (a * b)), .bool (fitB (a * b))]) ∧ w' = w := by
  by_cases h : b = 0
  · subst h
    rw [Int.mul_zero]
    exact refMul32_zero a a0 a1 w
  · exact refMul32_pos a b a0 a1 (by omega) b1 (Int.mul_nonneg a0 b0) w

theorem refSub32_c (a b : Int) (a0 : 0 ≤ a) (a1 : a < 4294967296) (b0 : 0 ≤ b) (b1 : b < 4294967296) (w : World) :
    Calls Try.prog 21 #[.int .u32 a, .int .u32 b] w fun e w' => e = .returned (.tuple #[.int .u32 (less a b), .bool (lessB a b)]) ∧ w' = w := by
  by_cases h : b > a
  all_goals
    go_enter Try.func21, Try.ntmps21
    go_wp2
    go_returns
    exact ⟨ret_pair (by unfold less; omega) (by unfold lessB; simp; omega), rfl⟩

theorem refAdd64_w (a b v u : Int) (a0 : 0 ≤ a) (a1 : a ≤ 18446744073709551615) (b0 : 0 ≤ b) (b1 : b ≤ 18446744073709551615) (hv : IntKind.u64.wrap (a + b) = v) (w : World) (h : a ≤ 18446744073709551615 - b) :
    Calls Try.prog 23 #[.int .u64 a, .int .u64 b] w fun e w' => e = .returned (.tuple #[.int .u64 v, .bool true]) ∧ w' = w := by
  go_enter Try.func23, Try.ntmps23
  go_wp2
  go_returns
  exact ⟨rfl, rfl⟩
theorem refAdd64_n (a b : Int) (a0 : 0 ≤ a) (a1 : a ≤ 18446744073709551615) (b0 : 0 ≤ b) (b1 : b ≤ 18446744073709551615) (w : World) (h : 18446744073709551615 - b < a) :
    Calls Try.prog 23 #[.int .u64 a, .int .u64 b] w fun e w' => e = .returned (.tuple #[.int .u64 0, .bool false]) ∧ w' = w := by
  go_enter Try.func23, Try.ntmps23
  go_wp2
  go_returns
  exact ⟨rfl, rfl⟩
theorem refAdd64_c (a b : Int) (a0 : 0 ≤ a) (a1 : a < 18446744073709551616) (b0 : 0 ≤ b) (b1 : b < 18446744073709551616) (w : World) :
    Calls Try.prog 23 #[.int .u64 a, .int .u64 b] w fun e w' => e = .returned (.tuple #[.int .u64 (fit64 (a + b)), .bool (fit64B (a + b))]) ∧ w' = w := by
  have hw : IntKind.u64.wrap (a + b) = (a + b) % 18446744073709551616 := by simp [IntKind.wrap, IntKind.bits, IntKind.signed]
  by_cases h : a + b < 18446744073709551616
  · have e1 : fit64 (a + b) = a + b := by unfold fit64; omega
    have e2 : fit64B (a + b) = true := by unfold fit64B; simp; omega
    rw [e1, e2]
    exact refAdd64_w a b (a + b) 0 a0 (by omega) b0 (by omega) (by rw [hw]; omega) w (by omega)
  · have e1 : fit64 (a + b) = 0 := by unfold fit64; omega
    have e2 : fit64B (a + b) = false := by unfold fit64B; simp; omega
    rw [e1, e2]
    exact refAdd64_n a b a0 (by omega) b0 (by omega) w (by omega)

theorem refNarrow_c (n : Int) (h0 : 0 ≤ n) (h1 : n < 18446744073709551616) (w : World) :
    Calls Try.prog 24 #[.int .u64 n] w fun e w' => e = .returned (.tuple #[.int .u32 (fit n), .bool (fitB n)]) ∧ w' = w := by
  by_cases h : n < 4294967296
  all_goals
    go_enter Try.func24, Try.ntmps24
    go_wp2
    go_returns
    exact ⟨ret_pair (by unfold fit; omega) (by unfold fitB; simp; omega), rfl⟩

theorem refSigned_c (n : Int) (h0 : 0 ≤ n) (h1 : n < 4294967296) (w : World) :
    Calls Try.prog 26 #[.int .u32 n] w fun e w' => e = .returned (.int .i32 (signed n)) ∧ w' = w := by
  by_cases h : n < 2147483648
  all_goals
    go_enter Try.func26, Try.ntmps26
    go_wp2
    go_returns
    exact ⟨ret_int (by unfold signed; first | omega | (unfold wrap32; omega)), rfl⟩

theorem tmod_mod (b : Int) : (b.tmod 32 + 32).tmod 32 = b % 32 ∧ -32 < b.tmod 32 ∧ b.tmod 32 < 32 := by
  rcases Int.lt_or_le b 0 with h | h
  · obtain ⟨c, rfl⟩ : ∃ c, b = -c := ⟨-b, by omega⟩
    rw [Int.neg_tmod, Int.tmod_eq_emod_of_nonneg (by omega : 0 ≤ c), Int.tmod_eq_emod_of_nonneg (by omega)]
    omega
  · rw [Int.tmod_eq_emod_of_nonneg h, Int.tmod_eq_emod_of_nonneg (by omega)]; omega

theorem refTurn_c (a b : Int) (a0 : 0 ≤ a) (a1 : a < 4294967296) (w : World) :
    Calls Try.prog 25 #[.int .u32 a, .int .i64 b] w fun e w' => e = .returned (.int .u32 (turn a b)) ∧ w' = w := by
  obtain ⟨hk, hlo, hhi⟩ := tmod_mod b
  have hkk : turn a b = turn a (b % 32) := by unfold turn; rw [Int.emod_emod_of_dvd b (Int.dvd_refl 32)]
  have k0 : 0 ≤ b % 32 := Int.emod_nonneg _ (by decide)
  have k1 : b % 32 < 32 := Int.emod_lt_of_pos _ (by decide)
  rw [hkk]
  clear hkk
  generalize hq : b.tmod 32 = q at *
  generalize b % 32 = k at *
  go_enter Try.func25, Try.ntmps25
  go_wp2
  go_loop [0, 6] (fun v i => ∃ (j : Nat) (x : Int), (j : Int) ≤ k ∧ i = .int .i64 j ∧ v = .int .u32 x ∧ 0 ≤ x ∧ x < 4294967296 ∧ Hid (x = turn a j)) (fun _ i => (k - intOf i).toNat)
  case atStart => exact ⟨0, a, k0, rfl, rfl, a0, a1, (turn_zero a 0 a0 a1 rfl).symm⟩
  case round =>
    obtain ⟨j, x, hj, rfl, rfl, x0, x1, HX⟩ := hrel
    by_cases hlt : (j : Int) < k
    · go_wp2
      go_round
      case rel =>
        refine ⟨j + 1, turn x 1, by omega, by go_num, ?_, (turn_bound x 1).1, (turn_bound x 1).2, ?_⟩
        · rw [turn_one x x0 x1]
        · show turn x 1 = turn a ((j + 1 : Nat) : Int)
          rw [HX.out, turn_turn]
          congr 1
      case measure => simp [intOf]; omega
    · go_wp2
      go_returns
      obtain rfl : k = (j : Int) := by omega
      exact ⟨ret_int HX.out, rfl⟩
end Go.Proofs.Ytecmhkkjobflcaa.RefNum
