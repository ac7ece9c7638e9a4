/- The calls by which the statements on rings ask whether the program is awake answer true. -/
import Derived.Test.YtaoelppkognakaaRingU
namespace Go.Proofs.Ytaoelppkognakaa.RingU
open Go.RowKit Go.Proofs.Ytaoelppkognakaa.Num Go.Proofs.Ytaoelppkognakaa.Slot Go.Proofs.Ytaoelppkognakaa.Ring Go.Proofs.Ytaoelppkognakaa.Wd
set_option linter.unusedVariables false
set_option linter.unusedSimpArgs false
set_option maxRecDepth 100000
attribute [local go_sem] size_put cell_put_same cell_put_other frozen_put_same frozen_put_other setCell_put_same setCell_put_other setCell_drewN alloc_drewN put_drewN put_drew

theorem put_a (w : World) : Calls Try.prog 36 #[.agg #[.int .u32 0, .int .u32 1, .int .u32 3, .int .u32 3, .int .u32 3], .int .u32 0] w fun e w' => e = .returned (.tuple #[.agg #[.int .u32 0, .int .u32 2, .int .u32 3, .int .u32 3, .int .u32 3], .int .i64 0]) ∧ Below w.heap.size w w' := by
  have h := put_u 0 1 3 3 3 0 (by decide) (by decide) (by decide) (by decide) (by decide) (by decide) (by decide) (by decide) (by decide) (by decide) (by decide) w
  rw [show pL 0 1 3 3 3 0 = 0 from by decide, show pC 0 1 3 3 3 0 0 1 = 2 from by decide, show pC 0 1 3 3 3 0 1 3 = 3 from by decide, show pC 0 1 3 3 3 0 2 3 = 3 from by decide, show pC 0 1 3 3 3 0 3 3 = 3 from by decide, show pE 0 1 3 3 3 0 = 0 from by decide] at h
  exact h
theorem put_b (w : World) : Calls Try.prog 36 #[.agg #[.int .u32 0, .int .u32 2, .int .u32 3, .int .u32 3, .int .u32 3], .int .u32 2] w fun e w' => e = .returned (.tuple #[.agg #[.int .u32 2, .int .u32 2, .int .u32 0, .int .u32 1, .int .u32 3], .int .i64 0]) ∧ Below w.heap.size w w' := by
  have h := put_u 0 2 3 3 3 2 (by decide) (by decide) (by decide) (by decide) (by decide) (by decide) (by decide) (by decide) (by decide) (by decide) (by decide) w
  rw [show pL 0 2 3 3 3 2 = 2 from by decide, show pC 0 2 3 3 3 2 0 2 = 2 from by decide, show pC 0 2 3 3 3 2 1 3 = 0 from by decide, show pC 0 2 3 3 3 2 2 3 = 1 from by decide, show pC 0 2 3 3 3 2 3 3 = 3 from by decide, show pE 0 2 3 3 3 2 = 0 from by decide] at h
  exact h
theorem put_bad (w : World) : Calls Try.prog 36 #[.agg #[.int .u32 2, .int .u32 2, .int .u32 0, .int .u32 1, .int .u32 3], .int .u32 1] w fun e w' => e = .returned (.tuple #[.agg #[.int .u32 0, .int .u32 0, .int .u32 0, .int .u32 0, .int .u32 0], .int .i64 6]) ∧ Below w.heap.size w w' := by
  have h := put_u 2 2 0 1 3 1 (by decide) (by decide) (by decide) (by decide) (by decide) (by decide) (by decide) (by decide) (by decide) (by decide) (by decide) w
  rw [show pL 2 2 0 1 3 1 = 0 from by decide, show pC 2 2 0 1 3 1 0 2 = 0 from by decide, show pC 2 2 0 1 3 1 1 0 = 0 from by decide, show pC 2 2 0 1 3 1 2 1 = 0 from by decide, show pC 2 2 0 1 3 1 3 3 = 0 from by decide, show pE 2 2 0 1 3 1 = 6 from by decide] at h
  exact h
theorem before_a (w : World) : Calls Try.prog 34 #[.agg #[.int .u32 0, .int .u32 2, .int .u32 3, .int .u32 3, .int .u32 3], .int .u32 2] w fun e w' => e = .returned (.tuple #[.int .u32 8, .int .i64 0]) ∧ Below w.heap.size w w' := by
  have h := before_u 0 2 3 3 3 2 (by decide) (by decide) (by decide) (by decide) (by decide) (by decide) (by decide) (by decide) (by decide) (by decide) w
  rw [show bV 0 2 3 3 3 2 = 8 from by decide, show bE 0 2 = 0 from by decide] at h
  exact h
theorem right_b (w : World) : Calls Try.prog 30 #[.agg #[.int .u32 2, .int .u32 2, .int .u32 0, .int .u32 1, .int .u32 3]] w fun e w' => e = .returned (.bool true) ∧ Below w.heap.size w w' := by
  have h := right_c 2 2 0 1 3 (by decide) (by decide) (by decide) (by decide) (by decide) (by decide) (by decide) (by decide) (by decide) (by decide) w
  rw [show rightB 2 2 0 1 3 = true from by decide] at h
  exact h
theorem right_z (w : World) : Calls Try.prog 30 #[.agg #[.int .u32 0, .int .u32 0, .int .u32 0, .int .u32 0, .int .u32 0]] w fun e w' => e = .returned (.bool false) ∧ Below w.heap.size w w' := by
  have h := right_c 0 0 0 0 0 (by decide) (by decide) (by decide) (by decide) (by decide) (by decide) (by decide) (by decide) (by decide) (by decide) w
  rw [show rightB 0 0 0 0 0 = false from by decide] at h
  exact h
theorem sum_b (w : World) : Calls Try.prog 38 #[.agg #[.int .u32 2, .int .u32 2, .int .u32 0, .int .u32 1, .int .u32 3]] w fun e w' => e = .returned (.int .u32 6) ∧ Below w.heap.size w w' :=
  sum_c 2 2 0 1 3 (by decide) (by decide) (by decide) (by decide) (by decide) (by decide) (by decide) (by decide) (by decide) w

set_option maxHeartbeats 4000000 in
theorem awake_c (w : World) :
    Calls Try.prog 29 #[] w fun e w' => e = .returned (.bool true) ∧ Below w.heap.size w w' := by
  have q1 : ∀ w, (binOp .eql 35 (.agg #[.int .u32 0, .int .u32 1, .int .u32 3, .int .u32 3, .int .u32 3]) (.agg #[.int .u32 0, .int .u32 1, .int .u32 3, .int .u32 3, .int .u32 3])).run Try.prog w = .ok (.bool true) w := fun w => by
    rw [eql_ring]
    rfl
  have q2 : ∀ w, (binOp .eql 35 (.agg #[.int .u32 2, .int .u32 2, .int .u32 0, .int .u32 1, .int .u32 3]) (.agg #[.int .u32 2, .int .u32 2, .int .u32 0, .int .u32 1, .int .u32 3])).run Try.prog w = .ok (.bool true) w := fun w => by
    rw [eql_ring]
    rfl
  go_enter Try.func29, Try.ntmps29
  go_wp2_with fail
  refine (genesis_c _).mono ?_
  rintro e v1 ⟨rfl, h1⟩
  obtain ⟨p1, e1⟩ : ∃ p, v1.heap.size = p := ⟨_, rfl⟩
  have z1 : w.heap.size ≤ p1 := by have := h1.size; omega
  simp only []
  go_wp2_with fail
  refine (put_a _).mono ?_
  rintro e x ⟨rfl, hb⟩
  obtain ⟨v2, rfl, u21, h2⟩ := new0 hb h1 e1
  clear hb h1 e1
  obtain ⟨p2, e2⟩ : ∃ p, v2.heap.size = p := ⟨_, rfl⟩
  rw [e2] at u21
  have n12 : ¬ p1 = p2 := by omega
  have n21 : ¬ p2 = p1 := by omega
  simp only []
  go_wp2_with fail
  refine (put_b _).mono ?_
  rintro e x ⟨rfl, hb⟩
  obtain ⟨v3, rfl, u31, u32, h3⟩ := new1 hb h2 e2 z1 u21
  clear hb h2 e2
  obtain ⟨p3, e3⟩ : ∃ p, v3.heap.size = p := ⟨_, rfl⟩
  rw [e3] at u31 u32
  have n13 : ¬ p1 = p3 := by omega
  have n31 : ¬ p3 = p1 := by omega
  have n23 : ¬ p2 = p3 := by omega
  have n32 : ¬ p3 = p2 := by omega
  have z2 : w.heap.size ≤ p2 := by omega
  simp only []
  go_wp2_with fail
  refine (before_a _).mono ?_
  rintro e x ⟨rfl, hb⟩
  obtain ⟨v4, rfl, u41, u42, u43, h4⟩ := new2 hb h3 e3 z1 z2 u31 u32 n12
  clear hb h3 e3
  have z3 : w.heap.size ≤ p3 := by omega
  simp only []
  go_wp2_with fail
  refine (put_bad _).mono ?_
  rintro e x ⟨rfl, hb⟩
  obtain ⟨v5, rfl, u51, u52, u53, h5⟩ := step3 hb h4 z1 z2 z3 u41 u42 u43 n12 n13 n23
  clear hb h4 u41 u42 u43
  obtain ⟨p5, e5⟩ : ∃ p, v5.heap.size = p := ⟨_, rfl⟩
  rw [e5] at u51 u52 u53
  have n15 : ¬ p1 = p5 := by omega
  have n51 : ¬ p5 = p1 := by omega
  have n25 : ¬ p2 = p5 := by omega
  have n52 : ¬ p5 = p2 := by omega
  have n35 : ¬ p3 = p5 := by omega
  have n53 : ¬ p5 = p3 := by omega
  have z5 : w.heap.size ≤ p5 := by omega
  simp only []
  go_wp2_with fail
  refine (right_b _).mono ?_
  rintro e x ⟨rfl, hb⟩
  obtain ⟨v6, rfl, u61, u62, u63, u65, h6⟩ := new3 hb h5 e5 z1 z2 z3 u51 u52 u53 n12 n13 n23
  clear hb h5 e5 u51 u52 u53
  simp only []
  go_wp2_with fail
  refine (right_z _).mono ?_
  rintro e x ⟨rfl, hb⟩
  obtain ⟨v7, rfl, u71, u72, u73, u75, h7⟩ := step4 hb h6 z1 z2 z3 z5 u61 u62 u63 u65 n12 n13 n15 n23 n25 n35
  clear hb h6 u61 u62 u63 u65
  simp only []
  go_wp2_with fail
  refine (sum_b _).mono ?_
  rintro e x ⟨rfl, hb⟩
  obtain ⟨v8, rfl, u81, u82, u83, u85, h8⟩ := step4 hb h7 z1 z2 z3 z5 u71 u72 u73 u75 n12 n13 n15 n23 n25 n35
  clear hb h7 u71 u72 u73 u75
  simp only []
  go_wp2_with fail
  go_returns
  exact ⟨rfl, by (repeat' (first | (with_reducible exact Below.refl _ _) | (with_reducible assumption) | (with_reducible refine drw ?_ _) | (with_reducible refine below_put _ _ _ _ ?_ ?_) | (with_reducible refine Below.alloc ?_ ?_ _) | (with_reducible refine Below.setCell ?_ ?_ _) | (with_reducible exact Nat.le_refl _) | (simp; done) | omega | (simp; omega)))⟩
end Go.Proofs.Ytaoelppkognakaa.RingU
