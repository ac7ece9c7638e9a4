/- Contracts of package slot's functions, each at every number of 32 bits: what it returns, and that it changes nothing that was there. -/
import Derived.Test.YtaoelppkognakaaNum
namespace Go.Proofs.Ytaoelppkognakaa.Slot
open Go.RowKit Go.Proofs.Ytaoelppkognakaa.Num
set_option linter.unusedVariables false

theorem ret_two {k l : IntKind} {a b c d : Int} (h : a = b) (g : c = d) : Ending.returned (.tuple #[.int k a, .int l c]) = .returned (.tuple #[.int k b, .int l d]) := by rw [h, g]

theorem drewN_drewN (w : World) (a b : Nat) : (w.drewN a).drewN b = w.drewN (a + b) := by
  simp [World.drewN, Nat.add_assoc]

theorem parts_c (n b : Int) (h0 : 0 ≤ n) (h1 : n < 4294967296) (b0 : 1 ≤ b) (b1 : b < 4294967296) (w : World) :
    Calls Try.prog 57 #[.int .u32 n, .int .u32 b] w fun e w' => e = .returned (.tuple #[.int .u32 (n / b), .int .u32 (n % b)]) ∧ ∃ k, w' = w.drewN k := by
  have hz : ¬ b = 0 := by omega
  have q0 : 0 ≤ n / b := Int.ediv_nonneg h0 (by omega)
  have q1 : n / b ≤ n := Int.ediv_le_self _ h0
  go_enter Try.func57, Try.ntmps57
  go_wp2
  go_quiet (fail)
  go_wp2
  go_returns
  exact ⟨rfl, _, rfl⟩

theorem epoch_c (n : Int) (h0 : 0 ≤ n) (h1 : n < 4294967296) (w : World) :
    Calls Try.prog 18 #[.int .u32 n] w fun e w' => e = .returned (.int .u32 (n / 24)) ∧ ∃ k, w' = w.drewN k := by
  go_enter Try.func18, Try.ntmps18
  go_wp2_with (go_at_call 57; refine (parts_c n 24 h0 h1 (by decide) (by decide) _).mono ?_; rintro e w' ⟨rfl, k, rfl⟩)
  go_returns
  exact ⟨rfl, _, rfl⟩

theorem place_c (n : Int) (h0 : 0 ≤ n) (h1 : n < 4294967296) (w : World) :
    Calls Try.prog 20 #[.int .u32 n] w fun e w' => e = .returned (.int .u32 (n % 24)) ∧ ∃ k, w' = w.drewN k := by
  go_enter Try.func20, Try.ntmps20
  go_wp2_with (go_at_call 57; refine (parts_c n 24 h0 h1 (by decide) (by decide) _).mono ?_; rintro e w' ⟨rfl, k, rfl⟩)
  go_returns
  exact ⟨rfl, _, rfl⟩

theorem sub_c (n : Int) (h0 : 0 ≤ n) (h1 : n < 4294967296) (w : World) :
    Calls Try.prog 24 #[.int .u32 n] w fun e w' => e = .returned (.int .u32 (n / 3)) ∧ ∃ k, w' = w.drewN k := by
  go_enter Try.func24, Try.ntmps24
  go_wp2_with (go_at_call 57; refine (parts_c n 3 h0 h1 (by decide) (by decide) _).mono ?_; rintro e w' ⟨rfl, k, rfl⟩)
  go_returns
  exact ⟨rfl, _, rfl⟩

theorem ring_c (n : Int) (h0 : 0 ≤ n) (h1 : n < 4294967296) (w : World) :
    Calls Try.prog 26 #[.int .u32 n] w fun e w' => e = .returned (.int .i64 (n % 4)) ∧ ∃ k, w' = w.drewN k := by
  go_enter Try.func26, Try.ntmps26
  go_wp2_with (go_at_call 57; refine (parts_c n 4 h0 h1 (by decide) (by decide) _).mono ?_; rintro e w' ⟨rfl, k, rfl⟩)
  go_returns
  exact ⟨rfl, _, rfl⟩

/-- Whether a slot is locking. -/
def lockB (n : Int) : Bool := decide (n % 24 < 16)

theorem locking_c (n : Int) (h0 : 0 ≤ n) (h1 : n < 4294967296) (w : World) :
    Calls Try.prog 22 #[.int .u32 n] w fun e w' => e = .returned (.bool (lockB n)) ∧ ∃ k, w' = w.drewN k := by
  go_enter Try.func22, Try.ntmps22
  go_wp2_with (go_at_call 20; refine (place_c n h0 h1 _).mono ?_; rintro e w' ⟨rfl, k, rfl⟩)
  go_returns
  exact ⟨rfl, _, rfl⟩

/-- A number, if it is one of 32 bits, and the error's number. -/
def thus (n : Int) (is : Bool) : Int := if is then n else 0
def wrong (is : Bool) : Int := if is then 0 else 5

theorem fits_c (n : Int) (is : Bool) (w : World) :
    Calls Try.prog 52 #[.int .u32 n, .bool is] w fun e w' => e = .returned (.tuple #[.int .u32 (thus n is), .int .i64 (wrong is)]) ∧ w' = w := by
  cases is
  all_goals
    go_enter Try.func52, Try.ntmps52
    go_wp2
    go_returns
    exact ⟨rfl, rfl⟩

/-- What a sum or a product of slots comes to, and the error's number. -/
def over (n : Int) : Int := if n < 4294967296 then 0 else 5

theorem fit_over (n : Int) : thus (fit n) (fitB n) = fit n ∧ wrong (fitB n) = over n := by
  by_cases h : n < 4294967296 <;> simp [thus, wrong, fitB, fit, over, h]

theorem first_c (n : Int) (h0 : 0 ≤ n) (h1 : n < 4294967296) (w : World) :
    Calls Try.prog 14 #[.int .u32 n] w fun e w' => e = .returned (.tuple #[.int .u32 (fit (n * 24)), .int .i64 (over (n * 24))]) ∧ Below w.heap.size w w' := by
  go_enter Try.func14, Try.ntmps14
  go_wp2_with (first | (go_at_call 53; refine (mul32_c n 24 h0 h1 (by decide) (by decide) (by omega) (by omega) _).mono ?_; rintro e w' ⟨rfl, hb⟩) | (go_at_call 52; refine (fits_c _ _ _).mono ?_; rintro e w' ⟨rfl, rfl⟩))
  go_returns
  exact ⟨ret_two (fit_over _).1 (fit_over _).2, hb⟩

theorem later_c (n b : Int) (h0 : 0 ≤ n) (h1 : n < 4294967296) (b0 : 0 ≤ b) (b1 : b < 4294967296) (w : World) :
    Calls Try.prog 16 #[.int .u32 n, .int .u32 b] w fun e w' => e = .returned (.tuple #[.int .u32 (fit (n + b)), .int .i64 (over (n + b))]) ∧ Below w.heap.size w w' := by
  go_enter Try.func16, Try.ntmps16
  go_wp2_with (first | (go_at_call 55; refine (add32_c n b h0 h1 b0 b1 _).mono ?_; rintro e w' ⟨rfl, hb⟩) | (go_at_call 52; refine (fits_c _ _ _).mono ?_; rintro e w' ⟨rfl, rfl⟩))
  go_returns
  exact ⟨ret_two (fit_over _).1 (fit_over _).2, hb⟩

/-- Whether b's epoch is later than a's. -/
def turnB (a b : Int) : Bool := decide (a / 24 < b / 24)

theorem turns_c (a b : Int) (a0 : 0 ≤ a) (a1 : a < 4294967296) (b0 : 0 ≤ b) (b1 : b < 4294967296) (w : World) :
    Calls Try.prog 28 #[.int .u32 a, .int .u32 b] w fun e w' => e = .returned (.bool (turnB a b)) ∧ ∃ k, w' = w.drewN k := by
  go_enter Try.func28, Try.ntmps28
  go_wp2_with fail
  refine (epoch_c b b0 b1 _).mono ?_
  rintro e w' ⟨rfl, k, rfl⟩
  go_wp2_with fail
  refine (epoch_c a a0 a1 _).mono ?_
  rintro e w' ⟨rfl, l, rfl⟩
  go_wp2_with fail
  go_returns
  exact ⟨rfl, _, rfl⟩
end Go.Proofs.Ytaoelppkognakaa.Slot
