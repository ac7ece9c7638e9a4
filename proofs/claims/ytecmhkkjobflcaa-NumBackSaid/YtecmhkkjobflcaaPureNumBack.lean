/- NumBack: whatever the numbers: what is added and fits is taken away again, what is split is joined, what is turned is turned back, what is signed is unsigned. No condition. -/
import Derived.Test.YtecmhkkjobflcaaPNumBackx2
import Derived.Test.YtecmhkkjobflcaaTurn
namespace Go.Proofs.Ytecmhkkjobflcaa.Pure
open Go.RowKit Go.Proofs.Ytecmhkkjobflcaa.PNumBack Go.Proofs.YtecmhkkjobflcaaW.PrintWords Go.Proofs.YtecmhkkjobflcaaW.PrintLast
namespace Back
open Go.Proofs.Ytecmhkkjobflcaa.Turn

theorem w64 (n : Int) : IntKind.u64.wrap n = n % 18446744073709551616 := by simp [IntKind.wrap, IntKind.bits, IntKind.signed]

theorem mul_bound (a b : Int) (a0 : 0 ≤ a) (a1 : a < 4294967296) (b0 : 0 ≤ b) (b1 : b < 4294967296) : 0 ≤ a * b ∧ a * b < 18446744073709551616 := by
  obtain ⟨a, rfl⟩ := Int.eq_ofNat_of_zero_le a0
  obtain ⟨b, rfl⟩ := Int.eq_ofNat_of_zero_le b0
  have h : a * b < 4294967296 * 4294967296 := Nat.mul_lt_mul'' (by omega) (by omega)
  constructor
  · exact Int.mul_nonneg a0 b0
  · have h' : ((a * b : Nat) : Int) < ((4294967296 * 4294967296 : Nat) : Int) := Int.ofNat_lt.2 h
    rw [Int.natCast_mul] at h'
    omega

theorem narrow (n : Int) (h0 : 0 ≤ n) (h1 : n < 18446744073709551616) : num_Narrow.f n = some (if n < 4294967296 then (n, true) else (0, false)) := by
  unfold num_Narrow.f num_Split.f
  simp only [Option.bind_some]
  by_cases h : n < 4294967296
  · rw [if_pos (by omega), if_pos h, show n % 4294967296 = n from by omega]
  · rw [if_neg (by omega), if_neg h]

theorem fits1 (k : Nat) (x : Int) (h0 : 0 ≤ x) (h1 : x < 18446744073709551616) : num_fits.f (k + 2) [x] = some (if x < 4294967296 then (x, true) else (0, false)) := by
  unfold num_fits.f num_fits.l0
  simp only [List.length_cons, List.length_nil]
  rw [if_pos (by omega), if_pos (by omega), if_pos (by omega), w64]
  rw [show rd [x] 0 = x from rfl, show (0 + x) % 18446744073709551616 = x from by omega, show wrap64 (0 + 1) = 1 from by unfold wrap64; omega]
  unfold num_fits.l0
  rw [if_neg (by omega), narrow x h0 h1]
  simp only [Option.bind_some]

theorem fits2 (k : Nat) (x y : Int) (h0 : 0 ≤ x) (h1 : 0 ≤ y) (h : x + y < 18446744073709551616) : num_fits.f (k + 3) [x, y] = some (if x + y < 4294967296 then (x + y, true) else (0, false)) := by
  unfold num_fits.f num_fits.l0
  simp only [List.length_cons, List.length_nil]
  rw [if_pos (by omega), if_pos (by omega), if_pos (by omega), w64]
  rw [show rd [x, y] 0 = x from rfl, show (0 + x) % 18446744073709551616 = x from by omega, show wrap64 (0 + 1) = 1 from by unfold wrap64; omega]
  unfold num_fits.l0
  simp only [List.length_cons, List.length_nil]
  rw [if_pos (by omega), if_pos (by omega), if_pos (by omega), w64]
  rw [show rd [x, y] 1 = y from rfl, show (x + y) % 18446744073709551616 = x + y from by omega, show wrap64 (1 + 1) = 2 from by unfold wrap64; omega]
  unfold num_fits.l0
  rw [if_neg (by omega), narrow (x + y) (by omega) h]
  simp only [Option.bind_some]

theorem add32 (k : Nat) (a b : Int) (a0 : 0 ≤ a) (a1 : a < 4294967296) (b0 : 0 ≤ b) (b1 : b < 4294967296) :
    num_Add32.f (k + 3) a b = some (if a + b < 4294967296 then (a + b, true) else (0, false)) := by
  unfold num_Add32.f
  rw [w64, w64, show a % 18446744073709551616 = a from by omega, show b % 18446744073709551616 = b from by omega, fits2 k a b a0 b0 (by omega)]
  simp only [Option.bind_some]

theorem mul32 (k : Nat) (a b : Int) (a0 : 0 ≤ a) (a1 : a < 4294967296) (b0 : 0 ≤ b) (b1 : b < 4294967296) :
    num_Mul32.f (k + 2) a b = some (if a * b < 4294967296 then (a * b, true) else (0, false)) := by
  obtain ⟨m0, m1⟩ := mul_bound a b a0 a1 b0 b1
  unfold num_Mul32.f
  rw [w64, w64, w64, show a % 18446744073709551616 = a from by omega, show b % 18446744073709551616 = b from by omega, show a * b % 18446744073709551616 = a * b from by omega, fits1 k (a * b) m0 m1]
  simp only [Option.bind_some]

theorem sub32 (a b : Int) (a0 : 0 ≤ a) (a1 : a < 4294967296) (b0 : 0 ≤ b) (b1 : b < 4294967296) :
    num_Sub32.f a b = some (if b > a then (0, false) else (a - b, true)) := by
  unfold num_Sub32.f
  by_cases h : b > a
  · rw [if_pos h, if_pos h]
  · rw [if_neg h, if_neg h, show (a - b) % 4294967296 = a - b from by omega]

theorem joins (a b : Int) (a0 : 0 ≤ a) (a1 : a < 4294967296) (b0 : 0 ≤ b) (b1 : b < 4294967296) : num_Join.f a b = some (a * 4294967296 + b) := by
  unfold num_Join.f
  rw [w64, w64, w64, show a % 18446744073709551616 = a from by omega, show b % 18446744073709551616 = b from by omega, show a * 4294967296 % 18446744073709551616 = a * 4294967296 from by omega]
  rw [bits_join .u64 64 (by decide) (by intro n h0 h1; rw [w64]; omega) 32 _ _ (by omega) (by omega) (by omega) b0 (by omega) (by omega)]

theorem turns (a b : Int) (a0 : 0 ≤ a) (a1 : a < 4294967296) : num_Turn.f a b = some (turn a b) := by
  unfold num_Turn.f
  have hb0 : 0 ≤ b % 32 := Int.emod_nonneg _ (by decide)
  have hb1 : b % 32 < 32 := Int.emod_lt_of_pos _ (by decide)
  rw [and31, show wrap64 (32 - b % 32) = 32 - b % 32 from by unfold wrap64; omega, and31, if_pos hb0, if_pos (by omega), or_print a (b % 32) a0 a1 hb0 hb1]
  rfl

theorem awake : almagestlaw01_awake.f 3 = some true := by decide +kernel

theorem u32 {n : Int} (h : (Lit.int .u32 n).wf = true) : 0 ≤ n ∧ n < 4294967296 := by
  simp [Lit.wf, IntKind.min, IntKind.max, IntKind.bits, IntKind.signed] at h; omega
theorem u64 {n : Int} (h : (Lit.int .u64 n).wf = true) : 0 ≤ n ∧ n < 18446744073709551616 := by
  simp [Lit.wf, IntKind.min, IntKind.max, IntKind.bits, IntKind.signed] at h; omega
theorem i32 {n : Int} (h : (Lit.int .i32 n).wf = true) : -2147483648 ≤ n ∧ n < 2147483648 := by
  simp [Lit.wf, IntKind.min, IntKind.max, IntKind.bits, IntKind.signed] at h; omega
theorem i64 {n : Int} (h : (Lit.int .i64 n).wf = true) : -9223372036854775808 ≤ n ∧ n < 9223372036854775808 := by
  simp [Lit.wf, IntKind.min, IntKind.max, IntKind.bits, IntKind.signed] at h; omega

theorem tmod_same (b : Int) : (b.tmod 32) % 32 = b % 32 ∧ -32 < b.tmod 32 ∧ b.tmod 32 < 32 := by
  rcases Int.lt_or_le b 0 with h | h
  · obtain ⟨c, rfl⟩ : ∃ c, b = -c := ⟨-b, by omega⟩
    rw [Int.neg_tmod, Int.tmod_eq_emod_of_nonneg (by omega)]
    omega
  · rw [Int.tmod_eq_emod_of_nonneg h]; omega

theorem j2 (k : Nat) (a c b d : Int) (a0 : 0 ≤ a) (a1 : a < 4294967296) (c0 : 0 ≤ c) (c1 : c < 18446744073709551616) (d0 : -2147483648 ≤ d) (d1 : d < 2147483648) :
    almagestlaw01_NumBack.j2 (k + 1) a c b d (c / 4294967296 % 4294967296) (c % 4294967296) false = some true := by
  obtain ⟨t0, t1, t2⟩ := tmod_same b
  have hb := turn_bound a b
  simp only [almagestlaw01_NumBack.j2]
  generalize b.tmod 32 = t at t0 t1 t2 ⊢
  have ht := turn_bound a t
  rw [if_neg (by decide), joins _ _ (by omega) (by omega) (by omega) (by omega)]
  simp only [Option.bind_some]
  rw [if_pos (by omega), turns a b a0 a1]
  simp only [Option.bind_some]
  rw [turns (turn a b) _ hb.1 hb.2, turn_turn, show wrap64 (-t) = -t from by unfold wrap64; omega, turn_zero a (b + -t) a0 a1 (by omega)]
  simp only [Option.bind_some, if_true]
  rw [turns a t a0 a1]
  simp only [Option.bind_some]
  rw [turns (turn a t) _ ht.1 ht.2, turn_turn, show wrap64 (32 - t) = 32 - t from by unfold wrap64; omega, turn_zero a (t + (32 - t)) a0 a1 (by omega)]
  simp only [Option.bind_some, if_true]
  unfold num_Unsigned.f num_Signed.f
  simp only [Option.bind_some]
  rw [if_pos (by unfold wrap32; omega)]
  rw [show (wrap32 a % 4294967296 == a) = true from by rw [beq_iff_eq]; unfold wrap32; omega]

theorem j1 (k : Nat) (a c b d : Int) (a0 : 0 ≤ a) (a1 : a < 4294967296) (c0 : 0 ≤ c) (c1 : c < 18446744073709551616) (d0 : -2147483648 ≤ d) (d1 : d < 2147483648) :
    almagestlaw01_NumBack.j1 (k + 2) a c b d = some true := by
  have H := j2 k a c b d a0 a1 c0 c1 d0 d1
  simp only [almagestlaw01_NumBack.j1]
  rw [narrow c c0 c1]
  unfold num_Split.f
  simp only [Option.bind_some]
  by_cases h : c < 4294967296
  · rw [if_pos h, show (c / 4294967296 % 4294967296 == 0) = true from by rw [beq_iff_eq]; omega]
    simp only [bne_self_eq_false]
    rw [if_neg (by decide), show (c != c % 4294967296) = false from by rw [bne_eq_false_iff_eq]; omega]
    simp only [if_true]
    exact H
  · rw [if_neg h, show (c / 4294967296 % 4294967296 == 0) = false from by rw [beq_eq_false_iff_ne]; omega]
    simp only [bne_self_eq_false]
    rw [if_neg (by decide), if_neg (by decide)]
    exact H

theorem j0 (k : Nat) (a b c t d : Int) (a0 : 0 ≤ a) (a1 : a < 4294967296) (b0 : 0 ≤ b) (b1 : b < 4294967296) (c0 : 0 ≤ c) (c1 : c < 18446744073709551616) (d0 : -2147483648 ≤ d) (d1 : d < 2147483648) :
    almagestlaw01_NumBack.j0 (k + 4) a b c t d = some true := by
  have H := j1 (k + 1) a c t d a0 a1 c0 c1 d0 d1
  simp only [almagestlaw01_NumBack.j0]
  rw [sub32 a b a0 a1 b0 b1]
  simp only [Option.bind_some]
  by_cases h : b > a
  · rw [if_pos h, if_neg (by decide)]; exact H
  · rw [if_neg h, if_pos rfl, add32 k (a - b) b (by omega) (by omega) b0 b1, if_pos (show a - b + b < 4294967296 by omega)]
    simp only [Option.bind_some, if_true]
    rw [if_pos (by omega)]
    exact H
end Back
open Back

/-- The pure statement of NumBack. -/
theorem NumBack : almagestlaw01_NumBack.Pure := by
  intro a b c t d wa wb wc wt wd
  obtain ⟨a0, a1⟩ := u32 wa
  obtain ⟨b0, b1⟩ := u32 wb
  obtain ⟨c0, c1⟩ := u64 wc
  obtain ⟨d0, d1⟩ := i32 wd
  have H := j0 0 a b c t d a0 a1 b0 b1 c0 c1 d0 d1
  refine ⟨4, ?_⟩
  unfold almagestlaw01_NumBack.f
  rw [show almagestlaw01_awake.f 4 = some true from almagestlaw01_awake.mono 3 _ awake]
  simp only [Option.bind_some, if_true]
  rw [add32 1 a b a0 a1 b0 b1]
  simp only [Option.bind_some]
  by_cases h : a + b < 4294967296
  · rw [if_pos h, if_pos rfl, sub32 (a + b) b (by omega) h b0 b1, if_neg (by omega)]
    simp only [Option.bind_some, if_true]
    rw [if_pos (by omega)]
    exact H
  · rw [if_neg h, if_neg (by decide)]
    exact H

end Go.Proofs.Ytecmhkkjobflcaa.Pure
