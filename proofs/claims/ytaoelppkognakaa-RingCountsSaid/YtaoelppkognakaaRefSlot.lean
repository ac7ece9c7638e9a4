/- Contracts of the document's answers for numbers and slots (those that this translation holds): what each returns, and that it changes nothing. -/
import Derived.Test.YtaoelppkognakaaSlot
namespace Go.Proofs.Ytaoelppkognakaa.RefSlot
open Go.RowKit Go.Proofs.Ytaoelppkognakaa.Num Go.Proofs.Ytaoelppkognakaa.Slot
set_option linter.unusedVariables false

theorem refAdd32_c (a b : Int) (a0 : 0 ≤ a) (a1 : a < 4294967296) (b0 : 0 ≤ b) (b1 : b < 4294967296) (w : World) :
    Calls Try.prog 56 #[.int .u32 a, .int .u32 b] w fun e w' => e = .returned (.tuple #[.int .u32 (fit (a + b)), .bool (fitB (a + b))]) ∧ w' = w := by
  by_cases h : a + b < 4294967296
  all_goals
    go_enter Try.func56, Try.ntmps56
    go_wp2
    go_returns
    exact ⟨ret_pair (by unfold fit; omega) (by unfold fitB; simp; omega), rfl⟩

theorem div_le_iff (a b m : Int) (b1 : 1 ≤ b) : m / b < a ↔ m < a * b := Int.ediv_lt_iff_lt_mul (by omega)

theorem refMul32_zero (a : Int) (a0 : 0 ≤ a) (a1 : a < 4294967296) (w : World) :
    Calls Try.prog 54 #[.int .u32 a, .int .u32 0] w fun e w' => e = .returned (.tuple #[.int .u32 0, .bool true]) ∧ w' = w := by
  go_enter Try.func54, Try.ntmps54
  go_wp2
  go_returns
  exact ⟨rfl, rfl⟩

theorem refMul32_pos (a b : Int) (a0 : 0 ≤ a) (a1 : a < 4294967296) (b0 : 1 ≤ b) (b1 : b < 4294967296) (m0 : 0 ≤ a * b) (w : World) :
    Calls Try.prog 54 #[.int .u32 a, .int .u32 b] w fun e w' => e = .returned (.tuple #[.int .u32 (fit (a * b)), .bool (fitB (a * b))]) ∧ w' = w := by
  have hz : (b != 0) = true := by rw [bne_iff_ne]; omega
  have hi := div_le_iff a b 4294967295 b0
  have q0 : 0 ≤ 4294967295 / b := Int.ediv_nonneg (by decide) (by omega)
  have q1 : 4294967295 / b ≤ 4294967295 := Int.ediv_le_self _ (by decide)
  generalize hm : a * b = m at *
  by_cases h : m < 4294967296
  · have hd : ¬ 4294967295 / b < a := fun g => by have := hi.1 g; omega
    have e1 : fit m = m := by unfold fit; omega
    have e2 : fitB m = true := by unfold fitB; simp; omega
    rw [e1, e2]
    clear hi e1 e2
    have HM := show Hid (a * b = m) from hm
    clear hm
    go_enter Try.func54, Try.ntmps54
    go_wp2
    go_returns
    exact ⟨ret_pair (by rw [HM.out]; omega) rfl, rfl⟩
  · have hd : 4294967295 / b < a := hi.2 (by omega)
    have e1 : fit m = 0 := by unfold fit; omega
    have e2 : fitB m = false := by unfold fitB; simp; omega
    rw [e1, e2]
    clear hi e1 e2 hm
    go_enter Try.func54, Try.ntmps54
    go_wp2
    go_returns
    exact ⟨rfl, rfl⟩

theorem refMul32_c (a b : Int) (a0 : 0 ≤ a) (a1 : a < 4294967296) (b0 : 0 ≤ b) (b1 : b < 4294967296) (w : World) :
    Calls Try.prog 54 #[.int .u32 a, .int .u32 b] w fun e w' => e = .returned (.tuple #[.int .u32 (fit (a * b)), .bool (fitB (a * b))]) ∧ w' = w := by
  by_cases h : b = 0
  · subst h
    rw [Int.mul_zero]
    exact refMul32_zero a a0 a1 w
  · exact refMul32_pos a b a0 a1 (by omega) b1 (Int.mul_nonneg a0 b0) w

/-! ### slots -/
theorem refFirst_c (n : Int) (h0 : 0 ≤ n) (h1 : n < 4294967296) (w : World) :
    Calls Try.prog 15 #[.int .u32 n] w fun e w' => e = .returned (.tuple #[.int .u32 (fit (n * 24)), .int .i64 (over (n * 24))]) ∧ w' = w := by
  by_cases h : n * 24 < 4294967296
  · have e2 : fitB (n * 24) = true := by unfold fitB; simp; omega
    have e3 : over (n * 24) = 0 := by unfold over; omega
    rw [e3]
    go_enter Try.func15, Try.ntmps15
    go_wp2_with (go_at_call 54; refine (refMul32_c n 24 h0 h1 (by decide) (by decide) _).mono ?_; rintro e w' ⟨rfl, rfl⟩)
    go_returns
    exact ⟨rfl, rfl⟩
  · have e1 : fit (n * 24) = 0 := by unfold fit; omega
    have e2 : fitB (n * 24) = false := by unfold fitB; simp; omega
    have e3 : over (n * 24) = 5 := by unfold over; omega
    rw [e3]
    go_enter Try.func15, Try.ntmps15
    go_wp2_with (go_at_call 54; refine (refMul32_c n 24 h0 h1 (by decide) (by decide) _).mono ?_; rintro e w' ⟨rfl, rfl⟩)
    go_returns
    exact ⟨ret_two e1.symm rfl, rfl⟩

theorem refLater_c (n b : Int) (h0 : 0 ≤ n) (h1 : n < 4294967296) (b0 : 0 ≤ b) (b1 : b < 4294967296) (w : World) :
    Calls Try.prog 17 #[.int .u32 n, .int .u32 b] w fun e w' => e = .returned (.tuple #[.int .u32 (fit (n + b)), .int .i64 (over (n + b))]) ∧ w' = w := by
  by_cases h : n + b < 4294967296
  · have e2 : fitB (n + b) = true := by unfold fitB; simp; omega
    have e3 : over (n + b) = 0 := by unfold over; omega
    rw [e3]
    go_enter Try.func17, Try.ntmps17
    go_wp2_with (go_at_call 56; refine (refAdd32_c n b h0 h1 b0 b1 _).mono ?_; rintro e w' ⟨rfl, rfl⟩)
    go_returns
    exact ⟨rfl, rfl⟩
  · have e1 : fit (n + b) = 0 := by unfold fit; omega
    have e2 : fitB (n + b) = false := by unfold fitB; simp; omega
    have e3 : over (n + b) = 5 := by unfold over; omega
    rw [e3]
    go_enter Try.func17, Try.ntmps17
    go_wp2_with (go_at_call 56; refine (refAdd32_c n b h0 h1 b0 b1 _).mono ?_; rintro e w' ⟨rfl, rfl⟩)
    go_returns
    exact ⟨ret_two e1.symm rfl, rfl⟩

theorem refEpoch_c (n : Int) (h0 : 0 ≤ n) (h1 : n < 4294967296) (w : World) :
    Calls Try.prog 19 #[.int .u32 n] w fun e w' => e = .returned (.int .u32 (n / 24)) ∧ w' = w := by
  go_enter Try.func19, Try.ntmps19
  go_wp2
  go_returns
  exact ⟨ret_int (by omega), rfl⟩

theorem refPlace_c (n : Int) (h0 : 0 ≤ n) (h1 : n < 4294967296) (w : World) :
    Calls Try.prog 21 #[.int .u32 n] w fun e w' => e = .returned (.int .u32 (n % 24)) ∧ w' = w := by
  go_enter Try.func21, Try.ntmps21
  go_wp2_with (go_at_call 19; refine (refEpoch_c n h0 h1 _).mono ?_; rintro e w' ⟨rfl, rfl⟩)
  go_returns
  exact ⟨ret_int (by omega), rfl⟩

theorem refLocking_c (n : Int) (h0 : 0 ≤ n) (h1 : n < 4294967296) (w : World) :
    Calls Try.prog 23 #[.int .u32 n] w fun e w' => e = .returned (.bool (lockB n)) ∧ w' = w := by
  go_enter Try.func23, Try.ntmps23
  go_wp2_with (go_at_call 21; refine (refPlace_c n h0 h1 _).mono ?_; rintro e w' ⟨rfl, rfl⟩)
  go_returns
  exact ⟨rfl, rfl⟩

theorem refSub_c (n : Int) (h0 : 0 ≤ n) (h1 : n < 4294967296) (w : World) :
    Calls Try.prog 25 #[.int .u32 n] w fun e w' => e = .returned (.int .u32 (n / 3)) ∧ w' = w := by
  go_enter Try.func25, Try.ntmps25
  go_wp2
  go_returns
  exact ⟨ret_int (by omega), rfl⟩

theorem refRing_c (n : Int) (h0 : 0 ≤ n) (h1 : n < 4294967296) (w : World) :
    Calls Try.prog 27 #[.int .u32 n] w fun e w' => e = .returned (.int .i64 (n % 4)) ∧ w' = w := by
  go_enter Try.func27, Try.ntmps27
  go_wp2
  go_returns
  exact ⟨ret_int (by omega), rfl⟩
end Go.Proofs.Ytaoelppkognakaa.RefSlot
