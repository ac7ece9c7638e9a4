/- Contracts of the document's answers for rings: a sub-window's count, a window ahead, and the ring with one block more. -/
import Derived.Test.YtaoelppkognakaaRefRing
namespace Go.Proofs.Ytaoelppkognakaa.RefRing
open Go.RowKit Go.Proofs.Ytaoelppkognakaa.Num Go.Proofs.Ytaoelppkognakaa.Slot Go.Proofs.Ytaoelppkognakaa.Ring Go.Proofs.Ytaoelppkognakaa.Wd
set_option linter.unusedVariables false
set_option maxRecDepth 100000
attribute [local go_sem] size_put cell_put_same cell_put_other frozen_put_same frozen_put_other setCell_put_same setCell_put_other setCell_drewN alloc_drewN put_drewN put_drew

theorem of_is (l c0 c1 c2 c3 p g : Int) (l0 : 0 ≤ l) (l1 : l < 4294967296) (p0 : 0 ≤ p) (p1 : p < 4) (h : l - (l - p) % 4 = g) (w : World) :
    Calls Try.prog 60 #[.agg #[.int .u32 l, .int .u32 c0, .int .u32 c1, .int .u32 c2, .int .u32 c3], .int .i64 p] w fun e w' => e = .returned (.int .i64 g) ∧ Below w.heap.size w w' := by
  rw [← h]
  exact of_c l c0 c1 c2 c3 p l0 l1 p0 p1 w

/-- How many blocks a sub-window has: behind Last, and long ago: none. -/
def at4 (l c0 c1 c2 c3 s : Int) : Int := if l - 3 ≤ s ∧ s ≤ l then pick s c0 c1 c2 c3 else 0

set_option maxHeartbeats 1000000 in
theorem at_0 (l c0 c1 c2 c3 s g0 g1 g2 g3 : Int) (l0 : 0 ≤ l) (l1 : l < 4294967296) (t0 : (g0 == s) = true) (e0 : Hid (l - (l - 0) % 4 = g0)) (e1 : Hid (l - (l - 1) % 4 = g1)) (e2 : Hid (l - (l - 2) % 4 = g2)) (e3 : Hid (l - (l - 3) % 4 = g3)) (w : World) :
    Calls Try.prog 59 #[.agg #[.int .u32 l, .int .u32 c0, .int .u32 c1, .int .u32 c2, .int .u32 c3], .int .i64 s] w fun e w' => e = .returned (.int .u32 c0) ∧ Below w.heap.size w w' := by
  go_enter Try.func59, Try.ntmps59
  go_wp2
  refine wp_loop_rounds 1 ?_
  rw [rounds_succ]
  go_wp2_with fail
  refine (of_is l c0 c1 c2 c3 0 g0 l0 l1 (by decide) (by decide) e0.out _).mono ?_
  rintro e x ⟨rfl, hb⟩
  obtain ⟨v0, rfl, ha, hv0⟩ := first1 hb
  clear hb
  simp only []
  go_wp2_with fail
  go_returns
  exact ⟨rfl, by (repeat' (first | (with_reducible exact Below.refl _ _) | (with_reducible assumption) | (with_reducible refine drw ?_ _) | (with_reducible refine Below.alloc ?_ ?_ _) | (with_reducible refine Below.setCell ?_ ?_ _) | (with_reducible refine below_put _ _ _ _ ?_ ?_) | (with_reducible exact Nat.le_refl _) | (simp; done) | (simp; omega)))⟩

set_option maxHeartbeats 1000000 in
theorem at_1 (l c0 c1 c2 c3 s g0 g1 g2 g3 : Int) (l0 : 0 ≤ l) (l1 : l < 4294967296) (t0 : (g0 == s) = false) (t1 : (g1 == s) = true) (e0 : Hid (l - (l - 0) % 4 = g0)) (e1 : Hid (l - (l - 1) % 4 = g1)) (e2 : Hid (l - (l - 2) % 4 = g2)) (e3 : Hid (l - (l - 3) % 4 = g3)) (w : World) :
    Calls Try.prog 59 #[.agg #[.int .u32 l, .int .u32 c0, .int .u32 c1, .int .u32 c2, .int .u32 c3], .int .i64 s] w fun e w' => e = .returned (.int .u32 c1) ∧ Below w.heap.size w w' := by
  go_enter Try.func59, Try.ntmps59
  go_wp2
  refine wp_loop_rounds 2 ?_
  rw [rounds_succ]
  go_wp2_with fail
  refine (of_is l c0 c1 c2 c3 0 g0 l0 l1 (by decide) (by decide) e0.out _).mono ?_
  rintro e x ⟨rfl, hb⟩
  obtain ⟨v0, rfl, ha, hv0⟩ := first1 hb
  clear hb
  simp only []
  go_wp2_with fail
  rw [rounds_succ]
  go_wp2_with fail
  refine (of_is l c0 c1 c2 c3 1 g1 l0 l1 (by decide) (by decide) e1.out _).mono ?_
  rintro e x ⟨rfl, hb⟩
  obtain ⟨v1, rfl, ha, hv1⟩ := step1 hb hv0 (Nat.le_refl _) ha
  clear hb hv0
  simp only []
  go_wp2_with fail
  go_returns
  exact ⟨rfl, by (repeat' (first | (with_reducible exact Below.refl _ _) | (with_reducible assumption) | (with_reducible refine drw ?_ _) | (with_reducible refine Below.alloc ?_ ?_ _) | (with_reducible refine Below.setCell ?_ ?_ _) | (with_reducible refine below_put _ _ _ _ ?_ ?_) | (with_reducible exact Nat.le_refl _) | (simp; done) | (simp; omega)))⟩

set_option maxHeartbeats 1000000 in
theorem at_2 (l c0 c1 c2 c3 s g0 g1 g2 g3 : Int) (l0 : 0 ≤ l) (l1 : l < 4294967296) (t0 : (g0 == s) = false) (t1 : (g1 == s) = false) (t2 : (g2 == s) = true) (e0 : Hid (l - (l - 0) % 4 = g0)) (e1 : Hid (l - (l - 1) % 4 = g1)) (e2 : Hid (l - (l - 2) % 4 = g2)) (e3 : Hid (l - (l - 3) % 4 = g3)) (w : World) :
    Calls Try.prog 59 #[.agg #[.int .u32 l, .int .u32 c0, .int .u32 c1, .int .u32 c2, .int .u32 c3], .int .i64 s] w fun e w' => e = .returned (.int .u32 c2) ∧ Below w.heap.size w w' := by
  go_enter Try.func59, Try.ntmps59
  go_wp2
  refine wp_loop_rounds 3 ?_
  rw [rounds_succ]
  go_wp2_with fail
  refine (of_is l c0 c1 c2 c3 0 g0 l0 l1 (by decide) (by decide) e0.out _).mono ?_
  rintro e x ⟨rfl, hb⟩
  obtain ⟨v0, rfl, ha, hv0⟩ := first1 hb
  clear hb
  simp only []
  go_wp2_with fail
  rw [rounds_succ]
  go_wp2_with fail
  refine (of_is l c0 c1 c2 c3 1 g1 l0 l1 (by decide) (by decide) e1.out _).mono ?_
  rintro e x ⟨rfl, hb⟩
  obtain ⟨v1, rfl, ha, hv1⟩ := step1 hb hv0 (Nat.le_refl _) ha
  clear hb hv0
  simp only []
  go_wp2_with fail
  rw [rounds_succ]
  go_wp2_with fail
  refine (of_is l c0 c1 c2 c3 2 g2 l0 l1 (by decide) (by decide) e2.out _).mono ?_
  rintro e x ⟨rfl, hb⟩
  obtain ⟨v2, rfl, ha, hv2⟩ := step1 hb hv1 (Nat.le_refl _) ha
  clear hb hv1
  simp only []
  go_wp2_with fail
  go_returns
  exact ⟨rfl, by (repeat' (first | (with_reducible exact Below.refl _ _) | (with_reducible assumption) | (with_reducible refine drw ?_ _) | (with_reducible refine Below.alloc ?_ ?_ _) | (with_reducible refine Below.setCell ?_ ?_ _) | (with_reducible refine below_put _ _ _ _ ?_ ?_) | (with_reducible exact Nat.le_refl _) | (simp; done) | (simp; omega)))⟩

set_option maxHeartbeats 1000000 in
theorem at_3 (l c0 c1 c2 c3 s g0 g1 g2 g3 : Int) (l0 : 0 ≤ l) (l1 : l < 4294967296) (t0 : (g0 == s) = false) (t1 : (g1 == s) = false) (t2 : (g2 == s) = false) (t3 : (g3 == s) = true) (e0 : Hid (l - (l - 0) % 4 = g0)) (e1 : Hid (l - (l - 1) % 4 = g1)) (e2 : Hid (l - (l - 2) % 4 = g2)) (e3 : Hid (l - (l - 3) % 4 = g3)) (w : World) :
    Calls Try.prog 59 #[.agg #[.int .u32 l, .int .u32 c0, .int .u32 c1, .int .u32 c2, .int .u32 c3], .int .i64 s] w fun e w' => e = .returned (.int .u32 c3) ∧ Below w.heap.size w w' := by
  go_enter Try.func59, Try.ntmps59
  go_wp2
  refine wp_loop_rounds 4 ?_
  rw [rounds_succ]
  go_wp2_with fail
  refine (of_is l c0 c1 c2 c3 0 g0 l0 l1 (by decide) (by decide) e0.out _).mono ?_
  rintro e x ⟨rfl, hb⟩
  obtain ⟨v0, rfl, ha, hv0⟩ := first1 hb
  clear hb
  simp only []
  go_wp2_with fail
  rw [rounds_succ]
  go_wp2_with fail
  refine (of_is l c0 c1 c2 c3 1 g1 l0 l1 (by decide) (by decide) e1.out _).mono ?_
  rintro e x ⟨rfl, hb⟩
  obtain ⟨v1, rfl, ha, hv1⟩ := step1 hb hv0 (Nat.le_refl _) ha
  clear hb hv0
  simp only []
  go_wp2_with fail
  rw [rounds_succ]
  go_wp2_with fail
  refine (of_is l c0 c1 c2 c3 2 g2 l0 l1 (by decide) (by decide) e2.out _).mono ?_
  rintro e x ⟨rfl, hb⟩
  obtain ⟨v2, rfl, ha, hv2⟩ := step1 hb hv1 (Nat.le_refl _) ha
  clear hb hv1
  simp only []
  go_wp2_with fail
  rw [rounds_succ]
  go_wp2_with fail
  refine (of_is l c0 c1 c2 c3 3 g3 l0 l1 (by decide) (by decide) e3.out _).mono ?_
  rintro e x ⟨rfl, hb⟩
  obtain ⟨v3, rfl, ha, hv3⟩ := step1 hb hv2 (Nat.le_refl _) ha
  clear hb hv2
  simp only []
  go_wp2_with fail
  go_returns
  exact ⟨rfl, by (repeat' (first | (with_reducible exact Below.refl _ _) | (with_reducible assumption) | (with_reducible refine drw ?_ _) | (with_reducible refine Below.alloc ?_ ?_ _) | (with_reducible refine Below.setCell ?_ ?_ _) | (with_reducible refine below_put _ _ _ _ ?_ ?_) | (with_reducible exact Nat.le_refl _) | (simp; done) | (simp; omega)))⟩

set_option maxHeartbeats 1000000 in
theorem at_n (l c0 c1 c2 c3 s g0 g1 g2 g3 : Int) (l0 : 0 ≤ l) (l1 : l < 4294967296) (t0 : (g0 == s) = false) (t1 : (g1 == s) = false) (t2 : (g2 == s) = false) (t3 : (g3 == s) = false) (e0 : Hid (l - (l - 0) % 4 = g0)) (e1 : Hid (l - (l - 1) % 4 = g1)) (e2 : Hid (l - (l - 2) % 4 = g2)) (e3 : Hid (l - (l - 3) % 4 = g3)) (w : World) :
    Calls Try.prog 59 #[.agg #[.int .u32 l, .int .u32 c0, .int .u32 c1, .int .u32 c2, .int .u32 c3], .int .i64 s] w fun e w' => e = .returned (.int .u32 0) ∧ Below w.heap.size w w' := by
  go_enter Try.func59, Try.ntmps59
  go_wp2
  refine wp_loop_rounds 5 ?_
  rw [rounds_succ]
  go_wp2_with fail
  refine (of_is l c0 c1 c2 c3 0 g0 l0 l1 (by decide) (by decide) e0.out _).mono ?_
  rintro e x ⟨rfl, hb⟩
  obtain ⟨v0, rfl, ha, hv0⟩ := first1 hb
  clear hb
  simp only []
  go_wp2_with fail
  rw [rounds_succ]
  go_wp2_with fail
  refine (of_is l c0 c1 c2 c3 1 g1 l0 l1 (by decide) (by decide) e1.out _).mono ?_
  rintro e x ⟨rfl, hb⟩
  obtain ⟨v1, rfl, ha, hv1⟩ := step1 hb hv0 (Nat.le_refl _) ha
  clear hb hv0
  simp only []
  go_wp2_with fail
  rw [rounds_succ]
  go_wp2_with fail
  refine (of_is l c0 c1 c2 c3 2 g2 l0 l1 (by decide) (by decide) e2.out _).mono ?_
  rintro e x ⟨rfl, hb⟩
  obtain ⟨v2, rfl, ha, hv2⟩ := step1 hb hv1 (Nat.le_refl _) ha
  clear hb hv1
  simp only []
  go_wp2_with fail
  rw [rounds_succ]
  go_wp2_with fail
  refine (of_is l c0 c1 c2 c3 3 g3 l0 l1 (by decide) (by decide) e3.out _).mono ?_
  rintro e x ⟨rfl, hb⟩
  obtain ⟨v3, rfl, ha, hv3⟩ := step1 hb hv2 (Nat.le_refl _) ha
  clear hb hv2
  simp only []
  go_wp2_with fail
  rw [rounds_succ]
  go_wp2_with fail
  go_returns
  exact ⟨rfl, by (repeat' (first | (with_reducible exact Below.refl _ _) | (with_reducible assumption) | (with_reducible refine drw ?_ _) | (with_reducible refine Below.alloc ?_ ?_ _) | (with_reducible refine Below.setCell ?_ ?_ _) | (with_reducible refine below_put _ _ _ _ ?_ ?_) | (with_reducible exact Nat.le_refl _) | (simp; done) | (simp; omega)))⟩

theorem at_c (l c0 c1 c2 c3 s : Int) (l0 : 0 ≤ l) (l1 : l < 4294967296) (w : World) :
    Calls Try.prog 59 #[.agg #[.int .u32 l, .int .u32 c0, .int .u32 c1, .int .u32 c2, .int .u32 c3], .int .i64 s] w fun e w' => e = .returned (.int .u32 (at4 l c0 c1 c2 c3 s)) ∧ Below w.heap.size w w' := by
  by_cases hin : l - 3 ≤ s ∧ s ≤ l
  · have hr : s % 4 = 0 ∨ s % 4 = 1 ∨ s % 4 = 2 ∨ s % 4 = 3 := by omega
    unfold at4 pick
    rw [if_pos hin]
    rcases hr with hr | hr | hr | hr
    · refine (at_0 l c0 c1 c2 c3 s _ _ _ _ l0 l1 (by rw [beq_iff_eq]; omega) rfl rfl rfl rfl w).mono ?_
      rintro e w' ⟨rfl, hb⟩
      exact ⟨ret_int (by omega), hb⟩
    · refine (at_1 l c0 c1 c2 c3 s _ _ _ _ l0 l1 (by rw [beq_eq_false_iff_ne]; omega) (by rw [beq_iff_eq]; omega) rfl rfl rfl rfl w).mono ?_
      rintro e w' ⟨rfl, hb⟩
      exact ⟨ret_int (by omega), hb⟩
    · refine (at_2 l c0 c1 c2 c3 s _ _ _ _ l0 l1 (by rw [beq_eq_false_iff_ne]; omega) (by rw [beq_eq_false_iff_ne]; omega) (by rw [beq_iff_eq]; omega) rfl rfl rfl rfl w).mono ?_
      rintro e w' ⟨rfl, hb⟩
      exact ⟨ret_int (by omega), hb⟩
    · refine (at_3 l c0 c1 c2 c3 s _ _ _ _ l0 l1 (by rw [beq_eq_false_iff_ne]; omega) (by rw [beq_eq_false_iff_ne]; omega) (by rw [beq_eq_false_iff_ne]; omega) (by rw [beq_iff_eq]; omega) rfl rfl rfl rfl w).mono ?_
      rintro e w' ⟨rfl, hb⟩
      exact ⟨ret_int (by omega), hb⟩
  · refine (at_n l c0 c1 c2 c3 s _ _ _ _ l0 l1 (by rw [beq_eq_false_iff_ne]; omega) (by rw [beq_eq_false_iff_ne]; omega) (by rw [beq_eq_false_iff_ne]; omega) (by rw [beq_eq_false_iff_ne]; omega) rfl rfl rfl rfl w).mono ?_
    rintro e w' ⟨rfl, hb⟩
    exact ⟨ret_int (by unfold at4; rw [if_neg hin]), hb⟩
end Go.Proofs.Ytaoelppkognakaa.RefRing
