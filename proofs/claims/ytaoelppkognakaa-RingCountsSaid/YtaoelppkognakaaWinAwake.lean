/- The law's own calls of layer 7 answer as the document fixes. -/
import Derived.Test.YtaoelppkognakaaWinPut
namespace Go.Proofs.Ytaoelppkognakaa.Window
open Go.RowKit Go.Proofs.Ytaoelppkognakaa.Num Go.Proofs.Ytaoelppkognakaa.Slot Go.Proofs.Ytaoelppkognakaa.Ring Go.Proofs.Ytaoelppkognakaa.RefRing Go.Proofs.Ytaoelppkognakaa.Wd Go.Proofs.Ytaoelppkognakaa.RingU
set_option linter.unusedVariables false
set_option linter.unusedSimpArgs false
set_option maxRecDepth 100000
attribute [local go_sem] size_put cell_put_same cell_put_other frozen_put_same frozen_put_other setCell_put_same setCell_put_other setCell_drewN alloc_drewN put_drewN put_drew

theorem aput_a (w : World) : Calls Try.prog 47 #[.agg #[.int .u32 12, .int .u32 0, .int .u32 1, .int .u32 3, .int .u32 3, .int .u32 3], .int .u32 12] w fun e w' => e = .returned (.tuple #[.agg #[.int .u32 1, .int .u32 4, .int .u32 1, .int .u32 0, .int .u32 0, .int .u32 0], .int .i64 0]) ∧ Below w.heap.size w w' := by
  have h := wput_c 12 0 1 3 3 3 12 (by decide) (by decide) (by decide) (by decide) (by decide) (by decide) (by decide) (by decide) (by decide) (by decide) (by decide) w
  exact h
theorem aput_b (w : World) : Calls Try.prog 47 #[.agg #[.int .u32 1, .int .u32 4, .int .u32 1, .int .u32 0, .int .u32 0, .int .u32 0], .int .u32 3] w fun e w' => e = .returned (.tuple #[.agg #[.int .u32 0, .int .u32 0, .int .u32 0, .int .u32 0, .int .u32 0, .int .u32 0], .int .i64 6]) ∧ Below w.heap.size w w' := by
  have h := wput_c 1 4 1 0 0 0 3 (by decide) (by decide) (by decide) (by decide) (by decide) (by decide) (by decide) (by decide) (by decide) (by decide) (by decide) w
  exact h
theorem arel_a (w : World) : Calls Try.prog 49 #[.agg #[.int .u32 12, .int .u32 0, .int .u32 1, .int .u32 3, .int .u32 3, .int .u32 3], .int .u32 11] w fun e w' => e = .returned (.int .u32 12) ∧ Below w.heap.size w w' := by
  have h := relative_c 12 0 1 3 3 3 11 (by decide) (by decide) (by decide) (by decide) (by decide) (by decide) (by decide) (by decide) (by decide) (by decide) (by decide) w
  exact h
theorem arel_b (w : World) : Calls Try.prog 49 #[.agg #[.int .u32 12, .int .u32 0, .int .u32 1, .int .u32 3, .int .u32 3, .int .u32 3], .int .u32 12] w fun e w' => e = .returned (.int .u32 1) ∧ Below w.heap.size w w' := by
  have h := relative_c 12 0 1 3 3 3 12 (by decide) (by decide) (by decide) (by decide) (by decide) (by decide) (by decide) (by decide) (by decide) (by decide) (by decide) w
  exact h
theorem arel_c (w : World) : Calls Try.prog 49 #[.agg #[.int .u32 12, .int .u32 0, .int .u32 1, .int .u32 3, .int .u32 3, .int .u32 3], .int .u32 15] w fun e w' => e = .returned (.int .u32 0) ∧ Below w.heap.size w w' := by
  have h := relative_c 12 0 1 3 3 3 15 (by decide) (by decide) (by decide) (by decide) (by decide) (by decide) (by decide) (by decide) (by decide) (by decide) (by decide) w
  exact h
theorem aright_a (w : World) : Calls Try.prog 42 #[.agg #[.int .u32 12, .int .u32 0, .int .u32 1, .int .u32 3, .int .u32 3, .int .u32 3]] w fun e w' => e = .returned (.bool true) ∧ Below w.heap.size w w' := by
  have h := wright_c 12 0 1 3 3 3 (by decide) (by decide) (by decide) (by decide) (by decide) (by decide) (by decide) (by decide) (by decide) (by decide) w
  exact h
theorem aright_b (w : World) : Calls Try.prog 42 #[.agg #[.int .u32 13, .int .u32 0, .int .u32 1, .int .u32 3, .int .u32 3, .int .u32 3]] w fun e w' => e = .returned (.bool false) ∧ Below w.heap.size w w' := by
  have h := wright_c 13 0 1 3 3 3 (by decide) (by decide) (by decide) (by decide) (by decide) (by decide) (by decide) (by decide) (by decide) (by decide) w
  exact h

set_option maxHeartbeats 4000000 in
theorem awake7_c (w : World) : Calls Try.prog 41 #[] w fun e w' => e = .returned (.bool true) ∧ Below w.heap.size w w' := by
  go_enter Try.func41, Try.ntmps41
  go_wp2_with fail
  refine (genesis_c _).mono ?_
  rintro e v1 ⟨rfl, h1⟩
  obtain ⟨p1, e1⟩ : ∃ p, v1.heap.size = p := ⟨_, rfl⟩
  have z1 : w.heap.size ≤ p1 := by have := h1.size; omega
  simp only []
  go_wp2_with fail
  refine (aput_a _).mono ?_
  rintro e x ⟨rfl, hb⟩
  obtain ⟨v2, rfl, u21, h2⟩ := new0 hb h1 e1
  clear hb h1 e1
  obtain ⟨p2, e2⟩ : ∃ p, v2.heap.size = p := ⟨_, rfl⟩
  rw [e2] at u21
  have n12 : ¬ p1 = p2 := by omega
  have n21 : ¬ p2 = p1 := by omega
  have z2 : w.heap.size ≤ p2 := by omega
  simp only []
  go_wp2_with fail
  refine (aput_b _).mono ?_
  rintro e x ⟨rfl, hb⟩
  obtain ⟨v3, rfl, u31, u32, h3⟩ := new1 hb h2 e2 z1 u21
  clear hb h2 e2
  obtain ⟨p3, e3⟩ : ∃ p, v3.heap.size = p := ⟨_, rfl⟩
  rw [e3] at u31 u32
  have n13 : ¬ p1 = p3 := by omega
  have n31 : ¬ p3 = p1 := by omega
  have n23 : ¬ p2 = p3 := by omega
  have n32 : ¬ p3 = p2 := by omega
  have z3 : w.heap.size ≤ p3 := by omega
  simp only []
  go_wp2_with fail
  refine (aright_a _).mono ?_
  rintro e x ⟨rfl, hb⟩
  obtain ⟨v4, rfl, u41, u42, u43, h4⟩ := new2 hb h3 e3 z1 z2 u31 u32 n12
  clear hb h3 e3
  simp only []
  go_wp2_with fail
  refine (arel_a _).mono ?_
  rintro e x ⟨rfl, hb⟩
  obtain ⟨v5, rfl, u51, u52, u53, h5⟩ := step3 hb h4 z1 z2 z3 u41 u42 u43 n12 n13 n23
  clear hb h4 u41 u42 u43
  simp only []
  go_wp2_with fail
  refine (arel_b _).mono ?_
  rintro e x ⟨rfl, hb⟩
  obtain ⟨v6, rfl, u61, u62, u63, h6⟩ := step3 hb h5 z1 z2 z3 u51 u52 u53 n12 n13 n23
  clear hb h5 u51 u52 u53
  simp only []
  go_wp2_with fail
  refine (arel_c _).mono ?_
  rintro e x ⟨rfl, hb⟩
  obtain ⟨v7, rfl, u71, u72, u73, h7⟩ := step3 hb h6 z1 z2 z3 u61 u62 u63 n12 n13 n23
  clear hb h6 u61 u62 u63
  simp only []
  go_wp2_with fail
  refine (Ring.genesis_c _).mono ?_
  rintro e x ⟨rfl, hb⟩
  obtain ⟨v8, rfl, u81, u82, u83, h8⟩ := step3 hb h7 z1 z2 z3 u71 u72 u73 n12 n13 n23
  clear hb h7 u71 u72 u73
  simp only []
  go_wp2_with fail
  refine (aright_b _).mono ?_
  rintro e x ⟨rfl, hb⟩
  obtain ⟨v9, rfl, u91, u92, u93, h9⟩ := step3 hb h8 z1 z2 z3 u81 u82 u83 n12 n13 n23
  clear hb h8 u81 u82 u83
  simp only []
  go_wp2_with fail
  go_returns
  exact ⟨rfl, by (repeat' (first | (with_reducible exact Below.refl _ _) | (with_reducible assumption) | (with_reducible refine drw ?_ _) | (with_reducible refine below_put _ _ _ _ ?_ ?_) | (with_reducible refine Below.alloc ?_ ?_ _) | (with_reducible refine Below.setCell ?_ ?_ _) | (with_reducible exact Nat.le_refl _) | (simp; done) | omega | (simp only [size_put]; omega) | (simp; omega)))⟩
end Go.Proofs.Ytaoelppkognakaa.Window
