/- RingFades returns true for every ring, and changes nothing that was there. No condition. -/
import Derived.Test.YtaoelppkognakaaRingIs
namespace Go.Proofs.Ytaoelppkognakaa.RingU
open Go.RowKit Go.Proofs.Ytaoelppkognakaa.Num Go.Proofs.Ytaoelppkognakaa.Slot Go.Proofs.Ytaoelppkognakaa.Ring Go.Proofs.Ytaoelppkognakaa.RefRing Go.Proofs.Ytaoelppkognakaa.Wd
set_option linter.unusedVariables false
set_option linter.unusedSimpArgs false
set_option maxRecDepth 100000
attribute [local go_sem] size_put cell_put_same cell_put_other frozen_put_same frozen_put_other setCell_put_same setCell_put_other setCell_drewN alloc_drewN put_drewN put_drew

theorem keep_mono (l p c : Int) (k : Int) (hc : 0 ≤ c) : keep l (l + k + 1) p c ≤ keep l (l + k) p c := by unfold keep; omega
theorem ahead_mono (l c0 c1 c2 c3 k : Int) (b0 : 0 ≤ c0) (b1 : 0 ≤ c1) (b2 : 0 ≤ c2) (b3 : 0 ≤ c3) : Ring.ahead l c0 c1 c2 c3 (l + k + 1) ≤ Ring.ahead l c0 c1 c2 c3 (l + k) := by
  have := keep_mono l 0 c0 k b0
  have := keep_mono l 1 c1 k b1
  have := keep_mono l 2 c2 k b2
  have := keep_mono l 3 c3 k b3
  unfold Ring.ahead; omega
theorem keep_far (l p c k : Int) (hk : 4 < k) : keep l (l + k) p c = 0 := by unfold keep; omega
theorem ahead_far (l c0 c1 c2 c3 k : Int) (hk : 4 < k) : Ring.ahead l c0 c1 c2 c3 (l + k) = 0 := by
  unfold Ring.ahead; rw [keep_far _ _ _ _ hk, keep_far _ _ _ _ hk, keep_far _ _ _ _ hk, keep_far _ _ _ _ hk]; rfl
theorem keep_near (l p c : Int) : keep l (l + 1) p c = c := by unfold keep; omega
theorem ahead_near (l c0 c1 c2 c3 : Int) : Ring.ahead l c0 c1 c2 c3 (l + 1) = c0 + c1 + c2 + c3 := by
  unfold Ring.ahead; rw [keep_near, keep_near, keep_near, keep_near]
theorem ahead_bd (l c0 c1 c2 c3 s : Int) (b0 : 0 ≤ c0) (b1 : 0 ≤ c1) (b2 : 0 ≤ c2) (b3 : 0 ≤ c3) : 0 ≤ Ring.ahead l c0 c1 c2 c3 s ∧ Ring.ahead l c0 c1 c2 c3 s ≤ c0 + c1 + c2 + c3 := by
  have := keep_bd l s 0 c0 b0
  have := keep_bd l s 1 c1 b1
  have := keep_bd l s 2 c2 b2
  have := keep_bd l s 3 c3 b3
  unfold Ring.ahead; omega

theorem before_is (l c0 c1 c2 c3 k a : Int) (l0 : 0 ≤ l) (b0 : 0 ≤ c0) (d0 : c0 ≤ 3) (b1 : 0 ≤ c1) (d1 : c1 ≤ 3) (b2 : 0 ≤ c2) (d2 : c2 ≤ 3) (b3 : 0 ≤ c3) (d3 : c3 ≤ 3) (k1 : 1 ≤ k) (s1 : l + k < 4294967296) (h : Hid (Ring.ahead l c0 c1 c2 c3 (l + k) = a)) (w : World) :
    Calls Try.prog 34 #[.agg #[.int .u32 l, .int .u32 c0, .int .u32 c1, .int .u32 c2, .int .u32 c3], .int .u32 (l + k)] w fun e w' => e = .returned (.tuple #[.int .u32 a, .int .i64 0]) ∧ Below w.heap.size w w' := by
  rw [← h.out]; exact before_yes l c0 c1 c2 c3 (l + k) l0 b0 (by omega) b1 (by omega) b2 (by omega) b3 (by omega) (by omega) (by omega) s1 w

set_option maxHeartbeats 2000000 in
theorem ringFades_no (l c0 c1 c2 c3 : Int) (l0 : 0 ≤ l) (l1 : l < 4294967296) (b0 : 0 ≤ c0) (g0 : c0 < 4294967296) (b1 : 0 ≤ c1) (g1 : c1 < 4294967296) (b2 : 0 ≤ c2) (g2 : c2 < 4294967296) (b3 : 0 ≤ c3) (g3 : c3 < 4294967296) (hR : Hid (rightB l c0 c1 c2 c3 = false)) (w : World) :
    Calls Try.prog 8 #[.agg #[.int .u32 l, .int .u32 c0, .int .u32 c1, .int .u32 c2, .int .u32 c3]] w fun e w' => e = .returned (.bool true) ∧ Below w.heap.size w w' := by
  go_enter Try.func8, Try.ntmps8
  go_wp2_with fail
  refine (awake_c _).mono ?_
  rintro e x ⟨rfl, hb⟩
  obtain ⟨v1, rfl, u1, h1⟩ := first1 hb
  clear hb
  simp only []
  go_wp2_with fail
  refine (refRight_is l c0 c1 c2 c3 l0 l1 b0 g0 b1 g1 b2 g2 b3 g3 hR _).mono ?_
  rintro e x ⟨rfl, hb⟩
  obtain ⟨v2, rfl, u2, h2⟩ := step1 hb h1 (Nat.le_refl _) u1
  clear hb
  simp only []
  go_wp2_with fail
  go_returns
  exact ⟨rfl, by (repeat' (first | (with_reducible exact Below.refl _ _) | (with_reducible assumption) | (with_reducible refine drw ?_ _) | (with_reducible refine below_put _ _ _ _ ?_ ?_) | (with_reducible refine Below.alloc ?_ ?_ _) | (with_reducible refine Below.setCell ?_ ?_ _) | (with_reducible exact Nat.le_refl _) | (simp; done) | omega | (simp; omega)))⟩

set_option maxHeartbeats 2000000 in
theorem ringFades_end (l c0 c1 c2 c3 : Int) (l0 : 0 ≤ l) (l1 : l < 4294967296) (b0 : 0 ≤ c0) (g0 : c0 < 4294967296) (b1 : 0 ≤ c1) (g1 : c1 < 4294967296) (b2 : 0 ≤ c2) (g2 : c2 < 4294967296) (b3 : 0 ≤ c3) (g3 : c3 < 4294967296) (hR : Hid (rightB l c0 c1 c2 c3 = true)) (hl : 4294967286 < l) (w : World) :
    Calls Try.prog 8 #[.agg #[.int .u32 l, .int .u32 c0, .int .u32 c1, .int .u32 c2, .int .u32 c3]] w fun e w' => e = .returned (.bool true) ∧ Below w.heap.size w w' := by
  go_enter Try.func8, Try.ntmps8
  go_wp2_with fail
  refine (awake_c _).mono ?_
  rintro e x ⟨rfl, hb⟩
  obtain ⟨v1, rfl, u1, h1⟩ := first1 hb
  clear hb
  simp only []
  go_wp2_with fail
  refine (refRight_is l c0 c1 c2 c3 l0 l1 b0 g0 b1 g1 b2 g2 b3 g3 hR _).mono ?_
  rintro e x ⟨rfl, hb⟩
  obtain ⟨v2, rfl, u2, h2⟩ := step1 hb h1 (Nat.le_refl _) u1
  clear hb
  simp only []
  go_wp2_with fail
  go_returns
  exact ⟨rfl, by (repeat' (first | (with_reducible exact Below.refl _ _) | (with_reducible assumption) | (with_reducible refine drw ?_ _) | (with_reducible refine below_put _ _ _ _ ?_ ?_) | (with_reducible refine Below.alloc ?_ ?_ _) | (with_reducible refine Below.setCell ?_ ?_ _) | (with_reducible exact Nat.le_refl _) | (simp; done) | omega | (simp; omega)))⟩

set_option maxHeartbeats 8000000 in
theorem ringFades_yes (l c0 c1 c2 c3 s a2 a3 a4 : Int) (l0 : 0 ≤ l) (l1 : l ≤ 4294967286) (b0 : 0 ≤ c0) (d0 : c0 ≤ 3) (b1 : 0 ≤ c1) (d1 : c1 ≤ 3) (b2 : 0 ≤ c2) (d2 : c2 ≤ 3) (b3 : 0 ≤ c3) (d3 : c3 ≤ 3) (hR : Hid (rightB l c0 c1 c2 c3 = true))
    (e1 : Hid (Ring.ahead l c0 c1 c2 c3 (l + 1) = s)) (es : Hid (c0 + c1 + c2 + c3 = s)) (e2 : Hid (Ring.ahead l c0 c1 c2 c3 (l + 2) = a2)) (e3 : Hid (Ring.ahead l c0 c1 c2 c3 (l + 3) = a3)) (e4 : Hid (Ring.ahead l c0 c1 c2 c3 (l + 4) = a4))
    (i2 : a2 ≤ s) (i3 : a3 ≤ a2) (i4 : a4 ≤ a3) (i5 : 0 ≤ a4) (w : World) :
    Calls Try.prog 8 #[.agg #[.int .u32 l, .int .u32 c0, .int .u32 c1, .int .u32 c2, .int .u32 c3]] w fun e w' => e = .returned (.bool true) ∧ Below w.heap.size w w' := by
  go_enter Try.func8, Try.ntmps8
  go_wp2_with fail
  refine (awake_c _).mono ?_
  rintro e x ⟨rfl, hb⟩
  obtain ⟨v1, rfl, u1, h1⟩ := first1 hb
  clear hb
  simp only []
  go_wp2_with fail
  refine (refRight_is l c0 c1 c2 c3 l0 (by omega) b0 (by omega) b1 (by omega) b2 (by omega) b3 (by omega) hR _).mono ?_
  rintro e x ⟨rfl, hb⟩
  obtain ⟨v2, rfl, u2, h2⟩ := step1 hb h1 (Nat.le_refl _) u1
  clear hb h1 u1
  simp only []
  go_wp2_with fail
  refine (before_is l c0 c1 c2 c3 1 s l0 b0 d0 b1 d1 b2 d2 b3 d3 (by decide) (by omega) e1 _).mono ?_
  rintro e x ⟨rfl, hb⟩
  obtain ⟨v3, rfl, u3, h3⟩ := step1 hb h2 (Nat.le_refl _) u2
  clear hb h2 u2
  simp only []
  go_wp2_with fail
  refine (sum_is l c0 c1 c2 c3 s b0 (by omega) b1 (by omega) b2 (by omega) b3 (by omega) (by omega) es _).mono ?_
  rintro e x ⟨rfl, hb⟩
  obtain ⟨v4, rfl, u4, h4⟩ := step1 hb h3 (Nat.le_refl _) u3
  clear hb h3 u3
  simp only []
  go_wp2_with fail
  refine wp_loop_rounds 8 ?_
  rw [rounds_succ]
  go_wp2_with fail
  refine (before_is l c0 c1 c2 c3 2 a2 l0 b0 d0 b1 d1 b2 d2 b3 d3 (by decide) (by omega) e2 _).mono ?_
  rintro e x ⟨rfl, hb⟩
  obtain ⟨v5, rfl, u5, h5⟩ := step1 hb h4 (Nat.le_refl _) u4
  clear hb h4 u4
  simp only []
  go_wp2_with fail
  rw [rounds_succ]
  go_wp2_with fail
  refine (before_is l c0 c1 c2 c3 3 a3 l0 b0 d0 b1 d1 b2 d2 b3 d3 (by decide) (by omega) e3 _).mono ?_
  rintro e x ⟨rfl, hb⟩
  obtain ⟨v6, rfl, u6, h6⟩ := step1 hb h5 (Nat.le_refl _) u5
  clear hb h5 u5
  simp only []
  go_wp2_with fail
  rw [rounds_succ]
  go_wp2_with fail
  refine (before_is l c0 c1 c2 c3 4 a4 l0 b0 d0 b1 d1 b2 d2 b3 d3 (by decide) (by omega) e4 _).mono ?_
  rintro e x ⟨rfl, hb⟩
  obtain ⟨v7, rfl, u7, h7⟩ := step1 hb h6 (Nat.le_refl _) u6
  clear hb h6 u6
  simp only []
  go_wp2_with fail
  rw [rounds_succ]
  go_wp2_with fail
  refine (before_is l c0 c1 c2 c3 5 0 l0 b0 d0 b1 d1 b2 d2 b3 d3 (by decide) (by omega) (ahead_far l c0 c1 c2 c3 5 (by decide)) _).mono ?_
  rintro e x ⟨rfl, hb⟩
  obtain ⟨v8, rfl, u8, h8⟩ := step1 hb h7 (Nat.le_refl _) u7
  clear hb h7 u7
  simp only []
  go_wp2_with fail
  rw [rounds_succ]
  go_wp2_with fail
  refine (before_is l c0 c1 c2 c3 6 0 l0 b0 d0 b1 d1 b2 d2 b3 d3 (by decide) (by omega) (ahead_far l c0 c1 c2 c3 6 (by decide)) _).mono ?_
  rintro e x ⟨rfl, hb⟩
  obtain ⟨v9, rfl, u9, h9⟩ := step1 hb h8 (Nat.le_refl _) u8
  clear hb h8 u8
  simp only []
  go_wp2_with fail
  rw [rounds_succ]
  go_wp2_with fail
  refine (before_is l c0 c1 c2 c3 7 0 l0 b0 d0 b1 d1 b2 d2 b3 d3 (by decide) (by omega) (ahead_far l c0 c1 c2 c3 7 (by decide)) _).mono ?_
  rintro e x ⟨rfl, hb⟩
  obtain ⟨v10, rfl, u10, h10⟩ := step1 hb h9 (Nat.le_refl _) u9
  clear hb h9 u9
  simp only []
  go_wp2_with fail
  rw [rounds_succ]
  go_wp2_with fail
  refine (before_is l c0 c1 c2 c3 8 0 l0 b0 d0 b1 d1 b2 d2 b3 d3 (by decide) (by omega) (ahead_far l c0 c1 c2 c3 8 (by decide)) _).mono ?_
  rintro e x ⟨rfl, hb⟩
  obtain ⟨v11, rfl, u11, h11⟩ := step1 hb h10 (Nat.le_refl _) u10
  clear hb h10 u10
  simp only []
  go_wp2_with fail
  rw [rounds_succ]
  go_wp2_with fail
  go_returns
  exact ⟨rfl, by (repeat' (first | (with_reducible exact Below.refl _ _) | (with_reducible assumption) | (with_reducible refine drw ?_ _) | (with_reducible refine below_put _ _ _ _ ?_ ?_) | (with_reducible refine Below.alloc ?_ ?_ _) | (with_reducible refine Below.setCell ?_ ?_ _) | (with_reducible exact Nat.le_refl _) | (simp; done) | omega | (simp; omega)))⟩

theorem ringFades_c (l c0 c1 c2 c3 : Int) (l0 : 0 ≤ l) (l1 : l < 4294967296) (b0 : 0 ≤ c0) (g0 : c0 < 4294967296) (b1 : 0 ≤ c1) (g1 : c1 < 4294967296) (b2 : 0 ≤ c2) (g2 : c2 < 4294967296) (b3 : 0 ≤ c3) (g3 : c3 < 4294967296) (w : World) :
    Calls Try.prog 8 #[.agg #[.int .u32 l, .int .u32 c0, .int .u32 c1, .int .u32 c2, .int .u32 c3]] w fun e w' => e = .returned (.bool true) ∧ Below w.heap.size w w' := by
  by_cases h : rightB l c0 c1 c2 c3 = true
  · by_cases hl : 4294967286 < l
    · exact ringFades_end l c0 c1 c2 c3 l0 l1 b0 g0 b1 g1 b2 g2 b3 g3 h hl w
    · have h' := h
      unfold rightB at h'
      rw [decide_eq_true_iff] at h'
      obtain ⟨d0, d1, d2, d3, _⟩ := h'
      have m1 := ahead_mono l c0 c1 c2 c3 1 b0 b1 b2 b3
      have m2 := ahead_mono l c0 c1 c2 c3 2 b0 b1 b2 b3
      have m3 := ahead_mono l c0 c1 c2 c3 3 b0 b1 b2 b3
      rw [show l + 1 + 1 = l + 2 from by omega] at m1
      rw [show l + 2 + 1 = l + 3 from by omega] at m2
      rw [show l + 3 + 1 = l + 4 from by omega] at m3
      exact ringFades_yes l c0 c1 c2 c3 _ _ _ _ l0 (by omega) b0 d0 b1 d1 b2 d2 b3 d3 h rfl (ahead_near l c0 c1 c2 c3).symm rfl rfl rfl m1 m2 m3 (ahead_bd l c0 c1 c2 c3 _ b0 b1 b2 b3).1 w
  · exact ringFades_no l c0 c1 c2 c3 l0 l1 b0 g0 b1 g1 b2 g2 b3 g3 (by show rightB l c0 c1 c2 c3 = false; simpa using h) w
end Go.Proofs.Ytaoelppkognakaa.RingU
