/- NumOrder: whatever the numbers: sums and products don't hang on the order; what is turned by parts (each up to 1000) is turned by the whole. No condition. -/
import Derived.Test.YtecmhkkjobflcaaPNumOrderx1
import Derived.Test.YtecmhkkjobflcaaTurn
namespace Go.Proofs.Ytecmhkkjobflcaa.Pure
open Go.RowKit Go.Proofs.Ytecmhkkjobflcaa.PNumOrder Go.Proofs.YtecmhkkjobflcaaW.PrintWords Go.Proofs.YtecmhkkjobflcaaW.PrintLast
namespace Order
open Go.Proofs.Ytecmhkkjobflcaa.Turn

theorem w64 (n : Int) : IntKind.u64.wrap n = n % 18446744073709551616 := by simp [IntKind.wrap, IntKind.bits, IntKind.signed]

theorem mul_bound (a b : Int) (a0 : 0 ≤ a) (a1 : a < 4294967296) (b0 : 0 ≤ b) (b1 : b < 4294967296) : 0 ≤ a * b ∧ a * b < 18446744073709551616 := by
  obtain ⟨a, rfl⟩ := Int.eq_ofNat_of_zero_le a0
  obtain ⟨b, rfl⟩ := Int.eq_ofNat_of_zero_le b0
  have h : a * b < 4294967296 * 4294967296 := Nat.mul_lt_mul'' (by omega) (by omega)
  constructor
  · exact Int.mul_nonneg a0 b0
  · have h' : ((a * b : Nat) : Int) < ((4294967296 * 4294967296 : Nat) : Int) := Int.ofNat_lt.2 h
    rw [Int.natCast_mul] at h'
    omega

theorem narrow (n : Int) (h0 : 0 ≤ n) (h1 : n < 18446744073709551616) : num_Narrow.f n = some (if n < 4294967296 then (n, true) else (0, false)) := by
  unfold num_Narrow.f num_Split.f
  simp only [Option.bind_some]
  by_cases h : n < 4294967296
  · rw [if_pos (by omega), if_pos h, show n % 4294967296 = n from by omega]
  · rw [if_neg (by omega), if_neg h]

theorem fits1 (k : Nat) (x : Int) (h0 : 0 ≤ x) (h1 : x < 18446744073709551616) : num_fits.f (k + 2) [x] = some (if x < 4294967296 then (x, true) else (0, false)) := by
  unfold num_fits.f num_fits.l0
  simp only [List.length_cons, List.length_nil]
  rw [if_pos (by omega), if_pos (by omega), if_pos (by omega), w64]
  rw [show rd [x] 0 = x from rfl, show (0 + x) % 18446744073709551616 = x from by omega, show wrap64 (0 + 1) = 1 from by unfold wrap64; omega]
  unfold num_fits.l0
  rw [if_neg (by omega), narrow x h0 h1]
  simp only [Option.bind_some]

theorem fits2 (k : Nat) (x y : Int) (h0 : 0 ≤ x) (h1 : 0 ≤ y) (h : x + y < 18446744073709551616) : num_fits.f (k + 3) [x, y] = some (if x + y < 4294967296 then (x + y, true) else (0, false)) := by
  unfold num_fits.f num_fits.l0
  simp only [List.length_cons, List.length_nil]
  rw [if_pos (by omega), if_pos (by omega), if_pos (by omega), w64]
  rw [show rd [x, y] 0 = x from rfl, show (0 + x) % 18446744073709551616 = x from by omega, show wrap64 (0 + 1) = 1 from by unfold wrap64; omega]
  unfold num_fits.l0
  simp only [List.length_cons, List.length_nil]
  rw [if_pos (by omega), if_pos (by omega), if_pos (by omega), w64]
  rw [show rd [x, y] 1 = y from rfl, show (x + y) % 18446744073709551616 = x + y from by omega, show wrap64 (1 + 1) = 2 from by unfold wrap64; omega]
  unfold num_fits.l0
  rw [if_neg (by omega), narrow (x + y) (by omega) h]
  simp only [Option.bind_some]

theorem add32 (k : Nat) (a b : Int) (a0 : 0 ≤ a) (a1 : a < 4294967296) (b0 : 0 ≤ b) (b1 : b < 4294967296) :
    num_Add32.f (k + 3) a b = some (if a + b < 4294967296 then (a + b, true) else (0, false)) := by
  unfold num_Add32.f
  rw [w64, w64, show a % 18446744073709551616 = a from by omega, show b % 18446744073709551616 = b from by omega, fits2 k a b a0 b0 (by omega)]
  simp only [Option.bind_some]

theorem mul32 (k : Nat) (a b : Int) (a0 : 0 ≤ a) (a1 : a < 4294967296) (b0 : 0 ≤ b) (b1 : b < 4294967296) :
    num_Mul32.f (k + 2) a b = some (if a * b < 4294967296 then (a * b, true) else (0, false)) := by
  obtain ⟨m0, m1⟩ := mul_bound a b a0 a1 b0 b1
  unfold num_Mul32.f
  rw [w64, w64, w64, show a % 18446744073709551616 = a from by omega, show b % 18446744073709551616 = b from by omega, show a * b % 18446744073709551616 = a * b from by omega, fits1 k (a * b) m0 m1]
  simp only [Option.bind_some]

theorem turns (a b : Int) (a0 : 0 ≤ a) (a1 : a < 4294967296) : num_Turn.f a b = some (turn a b) := by
  unfold num_Turn.f
  have hb0 : 0 ≤ b % 32 := Int.emod_nonneg _ (by decide)
  have hb1 : b % 32 < 32 := Int.emod_lt_of_pos _ (by decide)
  rw [and31, show wrap64 (32 - b % 32) = 32 - b % 32 from by unfold wrap64; omega, and31, if_pos hb0, if_pos (by omega), or_print a (b % 32) a0 a1 hb0 hb1]
  rfl

theorem awake : almagestlaw01_awake.f 3 = some true := by decide +kernel

theorem add64 (a b : Int) (a0 : 0 ≤ a) (a1 : a < 18446744073709551616) (b0 : 0 ≤ b) (b1 : b < 18446744073709551616) :
    num_Add64.f a b = some (if a + b < 18446744073709551616 then (a + b, true) else (0, false)) := by
  unfold num_Add64.f
  rw [w64]
  by_cases h : a + b < 18446744073709551616
  · rw [if_pos h, if_pos (by omega), show (a + b) % 18446744073709551616 = a + b from by omega]
  · rw [if_neg h, if_neg (by omega)]

theorem u32 {n : Int} (h : (Lit.int .u32 n).wf = true) : 0 ≤ n ∧ n < 4294967296 := by
  simp [Lit.wf, IntKind.min, IntKind.max, IntKind.bits, IntKind.signed] at h; omega
theorem u64 {n : Int} (h : (Lit.int .u64 n).wf = true) : 0 ≤ n ∧ n < 18446744073709551616 := by
  simp [Lit.wf, IntKind.min, IntKind.max, IntKind.bits, IntKind.signed] at h; omega

theorem j0_true (k : Nat) (a b c d i j : Int) : almagestlaw01_NumOrder.j0 (k + 1) a b c d i j true = some true := by
  simp only [almagestlaw01_NumOrder.j0, if_true]

theorem j0 (k : Nat) (a b c d i j : Int) (a0 : 0 ≤ a) (a1 : a < 4294967296) (b0 : 0 ≤ b) (b1 : b < 4294967296) (c0 : 0 ≤ c) (c1 : c < 18446744073709551616) (d0 : 0 ≤ d) (d1 : d < 18446744073709551616)
    (i0 : -1000 ≤ i) (i1 : i ≤ 1000) (j0 : -1000 ≤ j) (j1 : j ≤ 1000) : almagestlaw01_NumOrder.j0 (k + 4) a b c d i j false = some true := by
  have hi := turn_bound a i
  simp only [almagestlaw01_NumOrder.j0]
  rw [if_neg (by decide), add32 k a b a0 a1 b0 b1, add32 k b a b0 b1 a0 a1, Int.add_comm b a, mul32 (k + 1) a b a0 a1 b0 b1, mul32 (k + 1) b a b0 b1 a0 a1, Int.mul_comm b a, add64 c d c0 c1 d0 d1, add64 d c d0 d1 c0 c1, Int.add_comm d c]
  rw [turns a i a0 a1, turns a _ a0 a1]
  simp only [Option.bind_some, if_true, beq_self_eq_true]
  rw [turns _ j hi.1 hi.2, turn_turn, show wrap64 (i + j) = i + j from by unfold wrap64; omega]
  simp only [Option.bind_some, beq_self_eq_true]
end Order
open Order

/-- The pure statement of NumOrder. -/
theorem NumOrder : almagestlaw01_NumOrder.Pure := by
  intro a b c d i j wa wb wc wd wi wj
  obtain ⟨a0, a1⟩ := u32 wa
  obtain ⟨b0, b1⟩ := u32 wb
  obtain ⟨c0, c1⟩ := u64 wc
  obtain ⟨d0, d1⟩ := u64 wd
  refine ⟨4, ?_⟩
  unfold almagestlaw01_NumOrder.f
  rw [show almagestlaw01_awake.f 4 = some true from almagestlaw01_awake.mono 3 _ awake]
  simp only [Option.bind_some, if_true]
  by_cases h1 : i < -1000
  · rw [if_pos h1]; exact j0_true _ _ _ _ _ _ _
  rw [if_neg h1]
  by_cases h2 : i > 1000
  · rw [if_pos h2]; exact j0_true _ _ _ _ _ _ _
  rw [if_neg h2]
  by_cases h3 : j < -1000
  · rw [if_pos h3]; exact j0_true _ _ _ _ _ _ _
  rw [if_neg h3]
  by_cases h4 : j > 1000
  · rw [decide_eq_true h4]; exact j0_true _ _ _ _ _ _ _
  rw [decide_eq_false h4]
  exact j0 0 a b c d i j a0 a1 b0 b1 c0 c1 d0 d1 (by omega) (by omega) (by omega) (by omega)

end Go.Proofs.Ytecmhkkjobflcaa.Pure
