/- SlotLocks: whatever the epoch: its first 16 slots are the locking ones, as many as LockSlots. No condition. -/
import Derived.Test.YtaoelppkognakaaPSlotLocksx2
namespace Go.Proofs.Ytaoelppkognakaa.Pure
open Go.RowKit Go.Proofs.Ytaoelppkognakaa.PSlotLocks Go.Proofs.YtaoelppkognakaaW.PrintWords Go.Proofs.YtaoelppkognakaaW.PrintLast
namespace SlotLocksIn

theorem w64 (n : Int) : IntKind.u64.wrap n = n % 18446744073709551616 := by simp [IntKind.wrap, IntKind.bits, IntKind.signed]

theorem mul_bound (a b : Int) (a0 : 0 ≤ a) (a1 : a < 4294967296) (b0 : 0 ≤ b) (b1 : b < 4294967296) : 0 ≤ a * b ∧ a * b < 18446744073709551616 := by
  obtain ⟨a, rfl⟩ := Int.eq_ofNat_of_zero_le a0
  obtain ⟨b, rfl⟩ := Int.eq_ofNat_of_zero_le b0
  have h : a * b < 4294967296 * 4294967296 := Nat.mul_lt_mul'' (by omega) (by omega)
  constructor
  · exact Int.mul_nonneg a0 b0
  · have h' : ((a * b : Nat) : Int) < ((4294967296 * 4294967296 : Nat) : Int) := Int.ofNat_lt.2 h
    rw [Int.natCast_mul] at h'
    omega

theorem narrow (n : Int) (h0 : 0 ≤ n) (h1 : n < 18446744073709551616) : num_Narrow.f n = some (if n < 4294967296 then (n, true) else (0, false)) := by
  unfold num_Narrow.f num_Split.f
  simp only [Option.bind_some]
  by_cases h : n < 4294967296
  · rw [if_pos (by omega), if_pos h, show n % 4294967296 = n from by omega]
  · rw [if_neg (by omega), if_neg h]

theorem fits1 (k : Nat) (x : Int) (h0 : 0 ≤ x) (h1 : x < 18446744073709551616) : num_fits.f (k + 2) [x] = some (if x < 4294967296 then (x, true) else (0, false)) := by
  unfold num_fits.f num_fits.l0
  simp only [List.length_cons, List.length_nil]
  rw [if_pos (by omega), if_pos (by omega), if_pos (by omega), w64]
  rw [show rd [x] 0 = x from rfl, show (0 + x) % 18446744073709551616 = x from by omega, show wrap64 (0 + 1) = 1 from by unfold wrap64; omega]
  unfold num_fits.l0
  rw [if_neg (by omega), narrow x h0 h1]
  simp only [Option.bind_some]

theorem fits2 (k : Nat) (x y : Int) (h0 : 0 ≤ x) (h1 : 0 ≤ y) (h : x + y < 18446744073709551616) : num_fits.f (k + 3) [x, y] = some (if x + y < 4294967296 then (x + y, true) else (0, false)) := by
  unfold num_fits.f num_fits.l0
  simp only [List.length_cons, List.length_nil]
  rw [if_pos (by omega), if_pos (by omega), if_pos (by omega), w64]
  rw [show rd [x, y] 0 = x from rfl, show (0 + x) % 18446744073709551616 = x from by omega, show wrap64 (0 + 1) = 1 from by unfold wrap64; omega]
  unfold num_fits.l0
  simp only [List.length_cons, List.length_nil]
  rw [if_pos (by omega), if_pos (by omega), if_pos (by omega), w64]
  rw [show rd [x, y] 1 = y from rfl, show (x + y) % 18446744073709551616 = x + y from by omega, show wrap64 (1 + 1) = 2 from by unfold wrap64; omega]
  unfold num_fits.l0
  rw [if_neg (by omega), narrow (x + y) (by omega) h]
  simp only [Option.bind_some]

theorem add32 (k : Nat) (a b : Int) (a0 : 0 ≤ a) (a1 : a < 4294967296) (b0 : 0 ≤ b) (b1 : b < 4294967296) :
    num_Add32.f (k + 3) a b = some (if a + b < 4294967296 then (a + b, true) else (0, false)) := by
  unfold num_Add32.f
  rw [w64, w64, show a % 18446744073709551616 = a from by omega, show b % 18446744073709551616 = b from by omega, fits2 k a b a0 b0 (by omega)]
  simp only [Option.bind_some]

theorem mul32 (k : Nat) (a b : Int) (a0 : 0 ≤ a) (a1 : a < 4294967296) (b0 : 0 ≤ b) (b1 : b < 4294967296) :
    num_Mul32.f (k + 2) a b = some (if a * b < 4294967296 then (a * b, true) else (0, false)) := by
  obtain ⟨m0, m1⟩ := mul_bound a b a0 a1 b0 b1
  unfold num_Mul32.f
  rw [w64, w64, w64, show a % 18446744073709551616 = a from by omega, show b % 18446744073709551616 = b from by omega, show a * b % 18446744073709551616 = a * b from by omega, fits1 k (a * b) m0 m1]
  simp only [Option.bind_some]

theorem first (k : Nat) (a : Int) (a0 : 0 ≤ a) (a1 : a < 4294967296) : slot_First.f (k + 2) a = some (if a * 24 < 4294967296 then (a * 24, 0) else (0, 5)) := by
  unfold slot_First.f
  rw [mul32 k a 24 a0 a1 (by decide) (by decide)]
  by_cases h : a * 24 < 4294967296
  · rw [if_pos h, if_pos h]; rfl
  · rw [if_neg h, if_neg h]; rfl

theorem later (k : Nat) (a b : Int) (a0 : 0 ≤ a) (a1 : a < 4294967296) (b0 : 0 ≤ b) (b1 : b < 4294967296) : slot_Later.f (k + 3) a b = some (if a + b < 4294967296 then (a + b, 0) else (0, 5)) := by
  unfold slot_Later.f
  rw [add32 k a b a0 a1 b0 b1]
  by_cases h : a + b < 4294967296
  · rw [if_pos h, if_pos h]; rfl
  · rw [if_neg h, if_neg h]; rfl

theorem parts (a b : Int) (a0 : 0 ≤ a) (a1 : a < 4294967296) (b0 : 0 < b) : slot_parts_uint32.f a b = some (a / b, a % b) := by
  unfold slot_parts_uint32.f
  rw [if_neg (by omega), Int.tdiv_eq_ediv_of_nonneg a0, Int.tmod_eq_emod_of_nonneg a0]
  have h0 : 0 ≤ a / b := Int.ediv_nonneg a0 (by omega)
  have h1 : a / b ≤ a := Int.ediv_le_self _ a0
  rw [show a / b % 4294967296 = a / b from Int.emod_eq_of_lt h0 (by omega)]

theorem epoch (a : Int) (a0 : 0 ≤ a) (a1 : a < 4294967296) : slot_Epoch.f a = some (a / 24) := by
  unfold slot_Epoch.f; rw [parts a 24 a0 a1 (by decide)]; rfl
theorem place (a : Int) (a0 : 0 ≤ a) (a1 : a < 4294967296) : slot_Place.f a = some (a % 24) := by
  unfold slot_Place.f; rw [parts a 24 a0 a1 (by decide)]; rfl
theorem locking (a : Int) (a0 : 0 ≤ a) (a1 : a < 4294967296) : slot_Locking.f a = some (decide (a % 24 < 16)) := by
  unfold slot_Locking.f; rw [place a a0 a1]; rfl
theorem sub (a : Int) (a0 : 0 ≤ a) (a1 : a < 4294967296) : slot_Sub.f a = some (a / 3) := by
  unfold slot_Sub.f; rw [parts a 3 a0 a1 (by decide)]; rfl
theorem ring (a : Int) (a0 : 0 ≤ a) (a1 : a < 4294967296) : slot_Ring.f a = some (a % 4) := by
  unfold slot_Ring.f; rw [parts a 4 a0 a1 (by decide)]; simp only [Option.bind_some]
  rw [show wrap64 (a % 4) = a % 4 from by unfold wrap64; omega]
theorem turnsE (a b : Int) (a0 : 0 ≤ a) (a1 : a < 4294967296) (b0 : 0 ≤ b) (b1 : b < 4294967296) : slot_Turns.f a b = some (decide (b / 24 > a / 24)) := by
  unfold slot_Turns.f; rw [epoch a a0 a1, epoch b b0 b1]; rfl
theorem awake : almagestlaw05_awake.f 3 = some true := by decide +kernel
theorem u32 {n : Int} (h : (Lit.int .u32 n).wf = true) : 0 ≤ n ∧ n < 4294967296 := by
  simp [Lit.wf, IntKind.min, IntKind.max, IntKind.bits, IntKind.signed] at h; omega

theorem rounds (e : Int) (e0 : 0 ≤ e) (e1 : e * 24 < 4294967296) (d : Nat) : ∀ (k : Nat) (i m : Int), 0 ≤ i → i ≤ 24 → 24 - i = d → m = (if i < 16 then i else 16) →
    almagestlaw05_SlotLocks.l0 (k + 4 * d + 4) e (e * 24) m i = some true := by
  induction d with
  | zero =>
    intro k i m i0 i1 hd hm
    rw [show k + 4 * 0 + 4 = (k + 3) + 1 from by omega]
    simp only [almagestlaw05_SlotLocks.l0]
    rw [if_neg (by omega), hm, if_neg (by omega)]
    rfl
  | succ d ih =>
    intro k i m i0 i1 hd hm
    rw [show k + 4 * (d + 1) + 4 = (k + 4 * d + 3 + 3 + 1) + 1 from by omega]
    simp only [almagestlaw05_SlotLocks.l0]
    rw [if_pos (by omega), later (k + 4 * d + 3 + 1) (e * 24) i (by omega) e1 i0 (by omega)]
    by_cases h : e * 24 + i < 4294967296
    · rw [if_pos h]
      simp only [Option.bind_some, if_true]
      rw [locking (e * 24 + i) (by omega) h]
      simp only [Option.bind_some]
      have go : ∀ m', m' = (if i + 1 < 16 then i + 1 else 16) → almagestlaw05_SlotLocks.j1 (k + 4 * d + 3 + 3 + 1) e (e * 24) m' i (e * 24 + i) i = some true := by
        intro m' hm'
        have H := ih (k + 2) (i + 1) m' (by omega) (by omega) (by omega) hm'
        simp only [almagestlaw05_SlotLocks.j1]
        rw [locking (e * 24 + i) (by omega) h]
        simp only [Option.bind_some]
        rw [show (decide ((e * 24 + i) % 24 < 16) != decide (i < 16)) = false from by rw [bne_eq_false_iff_eq, Bool.eq_iff_iff, decide_eq_true_iff, decide_eq_true_iff]; omega, if_neg (by decide), epoch (e * 24 + i) (by omega) h]
        simp only [Option.bind_some]
        rw [if_pos (by omega), show (i + 1) % 4294967296 = i + 1 from by omega, show k + 4 * d + 3 + 3 = k + 2 + 4 * d + 4 from by omega]
        exact H
      by_cases g : (e * 24 + i) % 24 < 16
      · rw [decide_eq_true g]
        simp only [if_true]
        refine go _ ?_
        have : wrap64 (m + 1) = m + 1 := by unfold wrap64; omega
        rw [this]
        omega
      · rw [decide_eq_false g, if_neg (by decide)]
        refine go _ ?_
        omega
    · rw [if_neg h]
      simp only [Option.bind_some]
      rw [if_neg (by decide)]
end SlotLocksIn
open SlotLocksIn

/-- The pure statement of SlotLocks. -/
theorem SlotLocks : almagestlaw05_SlotLocks.Pure := by
  intro a wa
  obtain ⟨a0, a1⟩ := u32 wa
  refine ⟨0 + 4 * 24 + 4, ?_⟩
  unfold almagestlaw05_SlotLocks.f
  have aw : almagestlaw05_awake.f 3 = some true := awake
  have up : ∀ n, almagestlaw05_awake.f (n + 3) = some true := by
    intro n
    induction n with
    | zero => exact aw
    | succ n ih => rw [show n + 1 + 3 = n + 3 + 1 from by omega]; exact almagestlaw05_awake.mono _ _ ih
  rw [show 0 + 4 * 24 + 4 = 97 + 3 from rfl, up 97]
  simp only [Option.bind_some, if_true]
  rw [show 97 + 3 = 98 + 2 from rfl, first 98 a a0 a1]
  by_cases h : a * 24 < 4294967296
  · rw [if_pos h]
    simp only [Option.bind_some, if_true]
    exact rounds a a0 h 24 0 0 0 (by decide) (by decide) (by decide) (by decide)
  · rw [if_neg h]
    rfl

end Go.Proofs.Ytaoelppkognakaa.Pure
