/- Contracts of the document's answers for rings: a window ahead, and the ring with one block more. -/
import Derived.Test.YtaoelppkognakaaRefAt
import Derived.Deep.RegionWith
namespace Go.Proofs.Ytaoelppkognakaa.RefRing
open Go.RowKit Go.Proofs.Ytaoelppkognakaa.Num Go.Proofs.Ytaoelppkognakaa.Slot Go.Proofs.Ytaoelppkognakaa.Ring Go.Proofs.Ytaoelppkognakaa.Wd
set_option linter.unusedVariables false
set_option linter.unusedSimpArgs false
set_option maxRecDepth 100000
attribute [local go_sem] size_put cell_put_same cell_put_other frozen_put_same frozen_put_other setCell_put_same setCell_put_other setCell_drewN alloc_drewN put_drewN put_drew

theorem at_of (l c0 c1 c2 c3 s : Int) : (s % 4 = 0 → at4 l c0 c1 c2 c3 s = if l - 3 ≤ s ∧ s ≤ l then c0 else 0) ∧ (s % 4 = 1 → at4 l c0 c1 c2 c3 s = if l - 3 ≤ s ∧ s ≤ l then c1 else 0) ∧ (s % 4 = 2 → at4 l c0 c1 c2 c3 s = if l - 3 ≤ s ∧ s ≤ l then c2 else 0) ∧ (s % 4 = 3 → at4 l c0 c1 c2 c3 s = if l - 3 ≤ s ∧ s ≤ l then c3 else 0) := by
  unfold at4 pick
  refine ⟨fun h => ?_, fun h => ?_, fun h => ?_, fun h => ?_⟩
  · rw [if_pos h]
  · rw [if_neg (by omega : ¬ s % 4 = 0), if_pos h]
  · rw [if_neg (by omega : ¬ s % 4 = 0), if_neg (by omega : ¬ s % 4 = 1), if_pos h]
  · rw [if_neg (by omega : ¬ s % 4 = 0), if_neg (by omega : ¬ s % 4 = 1), if_neg (by omega : ¬ s % 4 = 2)]

theorem at_bd (l c0 c1 c2 c3 s : Int) (b0 : 0 ≤ c0) (g0 : c0 < 4294967296) (b1 : 0 ≤ c1) (g1 : c1 < 4294967296) (b2 : 0 ≤ c2) (g2 : c2 < 4294967296) (b3 : 0 ≤ c3) (g3 : c3 < 4294967296) : 0 ≤ at4 l c0 c1 c2 c3 s ∧ at4 l c0 c1 c2 c3 s < 4294967296 := by
  unfold at4 pick
  by_cases h : l - 3 ≤ s ∧ s ≤ l
  · rw [if_pos h]; omega
  · rw [if_neg h]; omega

theorem keep_at (l sub p c s : Int) (hs : l < sub) (h : s % 4 = p) (h0 : sub - 4 ≤ s) (h1 : s ≤ sub - 1) : keep l sub p c = if l - 3 ≤ s ∧ s ≤ l then c else 0 := by
  unfold keep
  rw [show sub - 1 - (sub - 1 - p) % 4 = s from by omega]
  by_cases g : s ≤ l
  · rw [if_pos g, if_pos (by omega)]
  · rw [if_neg g, if_neg (by omega)]

set_option maxHeartbeats 1000000 in
/-- The four sub-windows ahead of a later one have, together, what the ring's sum is behind those that are left. -/
theorem at_ahead (l c0 c1 c2 c3 sub : Int) (hs : l < sub) :
    at4 l c0 c1 c2 c3 (sub - 1) + at4 l c0 c1 c2 c3 (sub - 2) + at4 l c0 c1 c2 c3 (sub - 3) + at4 l c0 c1 c2 c3 (sub - 4) = Ring.ahead l c0 c1 c2 c3 sub := by
  have hr : sub % 4 = 0 ∨ sub % 4 = 1 ∨ sub % 4 = 2 ∨ sub % 4 = 3 := by omega
  obtain ⟨a0, a1, a2, a3⟩ := at_of l c0 c1 c2 c3 (sub - 1)
  obtain ⟨b0, b1, b2, b3⟩ := at_of l c0 c1 c2 c3 (sub - 2)
  obtain ⟨d0, d1, d2, d3⟩ := at_of l c0 c1 c2 c3 (sub - 3)
  obtain ⟨e0, e1, e2, e3⟩ := at_of l c0 c1 c2 c3 (sub - 4)
  unfold Ring.ahead
  rcases hr with hr | hr | hr | hr
  · rw [a3 (by omega), b2 (by omega), d1 (by omega), e0 (by omega), keep_at l sub 0 c0 (sub - 4) hs (by omega) (by omega) (by omega), keep_at l sub 1 c1 (sub - 3) hs (by omega) (by omega) (by omega), keep_at l sub 2 c2 (sub - 2) hs (by omega) (by omega) (by omega), keep_at l sub 3 c3 (sub - 1) hs (by omega) (by omega) (by omega)]
    clear a0 a1 a2 a3 b0 b1 b2 b3 d0 d1 d2 d3 e0 e1 e2 e3 hr
    omega
  · rw [a0 (by omega), b3 (by omega), d2 (by omega), e1 (by omega), keep_at l sub 0 c0 (sub - 1) hs (by omega) (by omega) (by omega), keep_at l sub 1 c1 (sub - 4) hs (by omega) (by omega) (by omega), keep_at l sub 2 c2 (sub - 3) hs (by omega) (by omega) (by omega), keep_at l sub 3 c3 (sub - 2) hs (by omega) (by omega) (by omega)]
    clear a0 a1 a2 a3 b0 b1 b2 b3 d0 d1 d2 d3 e0 e1 e2 e3 hr
    omega
  · rw [a1 (by omega), b0 (by omega), d3 (by omega), e2 (by omega), keep_at l sub 0 c0 (sub - 2) hs (by omega) (by omega) (by omega), keep_at l sub 1 c1 (sub - 1) hs (by omega) (by omega) (by omega), keep_at l sub 2 c2 (sub - 4) hs (by omega) (by omega) (by omega), keep_at l sub 3 c3 (sub - 3) hs (by omega) (by omega) (by omega)]
    clear a0 a1 a2 a3 b0 b1 b2 b3 d0 d1 d2 d3 e0 e1 e2 e3 hr
    omega
  · rw [a2 (by omega), b1 (by omega), d0 (by omega), e3 (by omega), keep_at l sub 0 c0 (sub - 3) hs (by omega) (by omega) (by omega), keep_at l sub 1 c1 (sub - 2) hs (by omega) (by omega) (by omega), keep_at l sub 2 c2 (sub - 1) hs (by omega) (by omega) (by omega), keep_at l sub 3 c3 (sub - 4) hs (by omega) (by omega) (by omega)]
    clear a0 a1 a2 a3 b0 b1 b2 b3 d0 d1 d2 d3 e0 e1 e2 e3 hr
    omega

theorem refBefore_no (l c0 c1 c2 c3 sub : Int) (hs : sub ≤ l) (w : World) :
    Calls Try.prog 35 #[.agg #[.int .u32 l, .int .u32 c0, .int .u32 c1, .int .u32 c2, .int .u32 c3], .int .u32 sub] w fun e w' => e = .returned (.tuple #[.int .u32 0, .int .i64 6]) ∧ Below w.heap.size w w' := by
  go_enter Try.func35, Try.ntmps35
  go_wp2
  go_returns
  exact ⟨rfl, by (repeat' (first | (with_reducible exact Below.refl _ _) | (with_reducible assumption) | (with_reducible refine drw ?_ _) | (with_reducible refine Below.alloc ?_ ?_ _) | (with_reducible refine Below.setCell ?_ ?_ _) | (with_reducible refine below_put _ _ _ _ ?_ ?_) | (with_reducible exact Nat.le_refl _) | (simp; done) | omega | (simp; omega)))⟩

theorem at_is (l c0 c1 c2 c3 s r : Int) (l0 : 0 ≤ l) (l1 : l < 4294967296) (h : at4 l c0 c1 c2 c3 s = r) (w : World) :
    Calls Try.prog 59 #[.agg #[.int .u32 l, .int .u32 c0, .int .u32 c1, .int .u32 c2, .int .u32 c3], .int .i64 s] w fun e w' => e = .returned (.int .u32 r) ∧ Below w.heap.size w w' := by
  rw [← h]
  exact at_c l c0 c1 c2 c3 s l0 l1 w

set_option maxHeartbeats 1000000 in
theorem refBefore_w (l c0 c1 c2 c3 sub r1 r2 r3 r4 : Int) (l0 : 0 ≤ l) (hs : l < sub) (s1 : sub < 4294967296)
    (q1 : 0 ≤ r1) (q2 : 0 ≤ r2) (q3 : 0 ≤ r3) (q4 : 0 ≤ r4) (q : r1 + r2 + r3 + r4 < 4294967296)
    (e1 : Hid (at4 l c0 c1 c2 c3 (sub - 1) = r1)) (e2 : Hid (at4 l c0 c1 c2 c3 (sub - 2) = r2)) (e3 : Hid (at4 l c0 c1 c2 c3 (sub - 3) = r3)) (e4 : Hid (at4 l c0 c1 c2 c3 (sub - 4) = r4)) (w : World) :
    Calls Try.prog 35 #[.agg #[.int .u32 l, .int .u32 c0, .int .u32 c1, .int .u32 c2, .int .u32 c3], .int .u32 sub] w fun e w' => e = .returned (.tuple #[.int .u32 (r1 + r2 + r3 + r4), .int .i64 0]) ∧ Below w.heap.size w w' := by
  go_enter Try.func35, Try.ntmps35
  go_wp2
  refine wp_loop_rounds 5 ?_
  rw [rounds_succ]
  go_wp2_with fail
  refine (at_is l c0 c1 c2 c3 (sub - 1) r1 l0 (by omega) e1.out _).mono ?_
  rintro e x ⟨rfl, hb⟩
  obtain ⟨v1, rfl, ha, hv1⟩ := first1 hb
  clear hb
  simp only []
  go_wp2_with fail
  rw [rounds_succ]
  go_wp2_with fail
  refine (at_is l c0 c1 c2 c3 (sub - 2) r2 l0 (by omega) e2.out _).mono ?_
  rintro e x ⟨rfl, hb⟩
  obtain ⟨v2, rfl, ha, hv2⟩ := step1 hb hv1 (Nat.le_refl _) ha
  clear hb hv1
  simp only []
  go_wp2_with fail
  rw [rounds_succ]
  go_wp2_with fail
  refine (at_is l c0 c1 c2 c3 (sub - 3) r3 l0 (by omega) e3.out _).mono ?_
  rintro e x ⟨rfl, hb⟩
  obtain ⟨v3, rfl, ha, hv3⟩ := step1 hb hv2 (Nat.le_refl _) ha
  clear hb hv2
  simp only []
  go_wp2_with fail
  rw [rounds_succ]
  go_wp2_with fail
  refine (at_is l c0 c1 c2 c3 (sub - 4) r4 l0 (by omega) e4.out _).mono ?_
  rintro e x ⟨rfl, hb⟩
  obtain ⟨v4, rfl, ha, hv4⟩ := step1 hb hv3 (Nat.le_refl _) ha
  clear hb hv3
  simp only []
  go_wp2_with fail
  rw [rounds_succ]
  go_wp2_with fail
  go_returns
  exact ⟨rfl, by (repeat' (first | (with_reducible exact Below.refl _ _) | (with_reducible assumption) | (with_reducible refine drw ?_ _) | (with_reducible refine Below.alloc ?_ ?_ _) | (with_reducible refine Below.setCell ?_ ?_ _) | (with_reducible refine below_put _ _ _ _ ?_ ?_) | (with_reducible exact Nat.le_refl _) | (simp; done) | omega | (simp; omega)))⟩

theorem refBefore_yes (l c0 c1 c2 c3 sub : Int) (l0 : 0 ≤ l) (b0 : 0 ≤ c0) (g0 : c0 < 4294967296) (b1 : 0 ≤ c1) (g1 : c1 < 4294967296) (b2 : 0 ≤ c2) (g2 : c2 < 4294967296) (b3 : 0 ≤ c3) (g3 : c3 < 4294967296) (hc : c0 + c1 + c2 + c3 < 4294967296) (hs : l < sub) (s1 : sub < 4294967296) (w : World) :
    Calls Try.prog 35 #[.agg #[.int .u32 l, .int .u32 c0, .int .u32 c1, .int .u32 c2, .int .u32 c3], .int .u32 sub] w fun e w' => e = .returned (.tuple #[.int .u32 (Ring.ahead l c0 c1 c2 c3 sub), .int .i64 0]) ∧ Below w.heap.size w w' := by
  have h := at_ahead l c0 c1 c2 c3 sub hs
  have k0 := keep_bd l sub 0 c0 b0
  have k1 := keep_bd l sub 1 c1 b1
  have k2 := keep_bd l sub 2 c2 b2
  have k3 := keep_bd l sub 3 c3 b3
  have hb : Ring.ahead l c0 c1 c2 c3 sub < 4294967296 := by unfold Ring.ahead; omega
  have w1 := at_bd l c0 c1 c2 c3 (sub - 1) b0 g0 b1 g1 b2 g2 b3 g3
  have w2 := at_bd l c0 c1 c2 c3 (sub - 2) b0 g0 b1 g1 b2 g2 b3 g3
  have w3 := at_bd l c0 c1 c2 c3 (sub - 3) b0 g0 b1 g1 b2 g2 b3 g3
  have w4 := at_bd l c0 c1 c2 c3 (sub - 4) b0 g0 b1 g1 b2 g2 b3 g3
  rw [← h] at hb ⊢
  exact refBefore_w l c0 c1 c2 c3 sub _ _ _ _ l0 hs s1 w1.1 w2.1 w3.1 w4.1 hb rfl rfl rfl rfl w

theorem refPut_slot (l c0 c1 c2 c3 sub : Int) (s0 : 0 ≤ sub) (s1 : sub < 4294967296) (hs : sub < l) (w : World) :
    Calls Try.prog 37 #[.agg #[.int .u32 l, .int .u32 c0, .int .u32 c1, .int .u32 c2, .int .u32 c3], .int .u32 sub] w fun e w' => e = .returned (.tuple #[.agg #[.int .u32 0, .int .u32 0, .int .u32 0, .int .u32 0, .int .u32 0], .int .i64 6]) ∧ Below w.heap.size w w' := by
  go_enter Try.func37, Try.ntmps37
  go_wp2_with fail
  go_returns
  exact ⟨rfl, by (repeat' (first | (with_reducible exact Below.refl _ _) | (with_reducible assumption) | (with_reducible refine drw ?_ _) | (with_reducible refine Below.alloc ?_ ?_ _) | (with_reducible refine Below.setCell ?_ ?_ _) | (with_reducible refine below_put _ _ _ _ ?_ ?_) | (with_reducible exact Nat.le_refl _) | (simp; done) | omega | (simp; omega)))⟩

theorem refPut_full (l c0 c1 c2 c3 r : Int) (s0 : 0 ≤ l) (s1 : l < 4294967296) (hr : Hid (at4 l c0 c1 c2 c3 l = r)) (h : 3 ≤ r) (w : World) :
    Calls Try.prog 37 #[.agg #[.int .u32 l, .int .u32 c0, .int .u32 c1, .int .u32 c2, .int .u32 c3], .int .u32 l] w fun e w' => e = .returned (.tuple #[.agg #[.int .u32 0, .int .u32 0, .int .u32 0, .int .u32 0, .int .u32 0], .int .i64 11]) ∧ Below w.heap.size w w' := by
  go_enter Try.func37, Try.ntmps37
  go_wp2_with fail
  refine (at_is l c0 c1 c2 c3 l r s0 s1 hr.out _).mono ?_
  rintro e x ⟨rfl, hb⟩
  obtain ⟨v, rfl, ha, hc, hv⟩ := first2 hb
  clear hb
  simp only []
  go_wp2_with fail
  refine bodyPost_ret (v := .tuple #[.agg #[.int .u32 0, .int .u32 0, .int .u32 0, .int .u32 0, .int .u32 0], .int .i64 11]) (by simp [results, Try.results37, go_sem, ha, hc]) rfl ⟨rfl, ?_⟩
  (repeat' (first | (with_reducible exact Below.refl _ _) | (with_reducible assumption) | (with_reducible refine drw ?_ _) | (with_reducible refine Below.alloc ?_ ?_ _) | (with_reducible refine Below.setCell ?_ ?_ _) | (with_reducible refine below_put _ _ _ _ ?_ ?_) | (with_reducible exact Nat.le_refl _) | (simp; done) | omega | (simp; omega)))

/-- The count at place q, with the block that comes. -/
def bump (sub q x : Int) : Int := if sub % 4 = q then x + 1 else x
end Go.Proofs.Ytaoelppkognakaa.RefRing
