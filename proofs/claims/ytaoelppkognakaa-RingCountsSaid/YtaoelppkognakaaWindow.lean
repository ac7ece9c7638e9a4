/- Contracts of package window's functions: the first state, whether one may be, the least density as of a slot. -/
import Derived.Test.YtaoelppkognakaaLeast
namespace Go.Proofs.Ytaoelppkognakaa.Window
open Go.RowKit Go.Proofs.Ytaoelppkognakaa.Num Go.Proofs.Ytaoelppkognakaa.Slot Go.Proofs.Ytaoelppkognakaa.Ring Go.Proofs.Ytaoelppkognakaa.RefRing Go.Proofs.Ytaoelppkognakaa.Wd Go.Proofs.Ytaoelppkognakaa.RingU
set_option linter.unusedVariables false
set_option linter.unusedSimpArgs false
set_option maxRecDepth 100000
attribute [local go_sem] size_put cell_put_same cell_put_other frozen_put_same frozen_put_other setCell_put_same setCell_put_other setCell_drewN alloc_drewN put_drewN put_drew

/-- The least density, came a block in a slot. -/
def relV (m l c0 c1 c2 c3 s : Int) : Int := if s < 12 then m else if s / 3 ≤ l then m else if Ring.ahead l c0 c1 c2 c3 (s / 3) < m then Ring.ahead l c0 c1 c2 c3 (s / 3) else m

theorem least_u (m l c0 c1 c2 c3 s : Int) (l0 : 0 ≤ l) (b0 : 0 ≤ c0) (d0 : c0 ≤ 3) (b1 : 0 ≤ c1) (d1 : c1 ≤ 3) (b2 : 0 ≤ c2) (d2 : c2 ≤ 3) (b3 : 0 ≤ c3) (d3 : c3 ≤ 3) (s0 : 0 ≤ s) (s1 : s < 4294967296) (w : World) :
    Calls Try.prog 61 #[.agg #[.int .u32 m, .int .u32 l, .int .u32 c0, .int .u32 c1, .int .u32 c2, .int .u32 c3, .int .u32 s]] w fun e w' => e = .returned (.int .u32 (relV m l c0 c1 c2 c3 s)) ∧ Below w.heap.size w w' := by
  unfold relV
  by_cases h : s < 12
  · rw [if_pos h]; exact least_a m l c0 c1 c2 c3 s _ _ l0 b0 d0 b1 d1 b2 d2 b3 d3 s0 s1 rfl rfl h w
  · rw [if_neg h]
    by_cases g : s / 3 ≤ l
    · rw [if_pos g]; exact least_b m l c0 c1 c2 c3 s _ _ l0 b0 d0 b1 d1 b2 d2 b3 d3 s0 s1 rfl rfl h (by unfold bE; rw [if_pos g]) w
    · rw [if_neg g]
      exact least_c m l c0 c1 c2 c3 s _ _ l0 b0 d0 b1 d1 b2 d2 b3 d3 s0 s1 (show bV l c0 c1 c2 c3 (s / 3) = Ring.ahead l c0 c1 c2 c3 (s / 3) from by unfold bV; rw [if_neg g]) rfl h (by unfold bE; rw [if_neg g]) w

theorem relative_c (m l c0 c1 c2 c3 s : Int) (l0 : 0 ≤ l) (b0 : 0 ≤ c0) (d0 : c0 ≤ 3) (b1 : 0 ≤ c1) (d1 : c1 ≤ 3) (b2 : 0 ≤ c2) (d2 : c2 ≤ 3) (b3 : 0 ≤ c3) (d3 : c3 ≤ 3) (s0 : 0 ≤ s) (s1 : s < 4294967296) (w : World) :
    Calls Try.prog 49 #[.agg #[.int .u32 m, .int .u32 l, .int .u32 c0, .int .u32 c1, .int .u32 c2, .int .u32 c3], .int .u32 s] w fun e w' => e = .returned (.int .u32 (relV m l c0 c1 c2 c3 s)) ∧ Below w.heap.size w w' := by
  go_enter Try.func49, Try.ntmps49
  go_wp2_with fail
  refine (least_u m l c0 c1 c2 c3 s l0 b0 d0 b1 d1 b2 d2 b3 d3 s0 s1 _).mono ?_
  rintro e x ⟨rfl, hb⟩
  obtain ⟨v1, rfl, u1, h1⟩ := first1 hb
  clear hb
  simp only []
  go_wp2_with fail
  go_returns
  exact ⟨rfl, by (repeat' (first | (with_reducible exact Below.refl _ _) | (with_reducible assumption) | (with_reducible refine drw ?_ _) | (with_reducible refine below_put _ _ _ _ ?_ ?_) | (with_reducible refine Below.alloc ?_ ?_ _) | (with_reducible refine Below.setCell ?_ ?_ _) | (with_reducible exact Nat.le_refl _) | (simp; done) | omega | (simp only [size_put]; omega) | (simp; omega)))⟩

theorem genesis_c (w : World) : Calls Try.prog 45 #[] w fun e w' => e = .returned (.agg #[.int .u32 12, .int .u32 0, .int .u32 1, .int .u32 3, .int .u32 3, .int .u32 3]) ∧ Below w.heap.size w w' := by
  go_enter Try.func45, Try.ntmps45
  go_wp2_with fail
  refine (Ring.genesis_c _).mono ?_
  rintro e x ⟨rfl, hb⟩
  obtain ⟨v1, rfl, u1, h1⟩ := first1 hb
  clear hb
  simp only []
  go_wp2_with fail
  refine bodyPost_ret (v := .agg #[.int .u32 12, .int .u32 0, .int .u32 1, .int .u32 3, .int .u32 3, .int .u32 3]) (by simp [results, Try.results45, go_sem, u1]) rfl ⟨rfl, ?_⟩
  (repeat' (first | (with_reducible exact Below.refl _ _) | (with_reducible assumption) | (with_reducible refine drw ?_ _) | (with_reducible refine below_put _ _ _ _ ?_ ?_) | (with_reducible refine Below.alloc ?_ ?_ _) | (with_reducible refine Below.setCell ?_ ?_ _) | (with_reducible exact Nat.le_refl _) | (simp; done) | omega | (simp only [size_put]; omega) | (simp; omega)))

/-- Whether a window state may be. -/
def wrightB (m l c0 c1 c2 c3 : Int) : Bool := decide (m ≤ 12) && rightB l c0 c1 c2 c3
theorem wright_c (m l c0 c1 c2 c3 : Int) (l0 : 0 ≤ l) (l1 : l < 4294967296) (b0 : 0 ≤ c0) (g0 : c0 < 4294967296) (b1 : 0 ≤ c1) (g1 : c1 < 4294967296) (b2 : 0 ≤ c2) (g2 : c2 < 4294967296) (b3 : 0 ≤ c3) (g3 : c3 < 4294967296) (w : World) :
    Calls Try.prog 42 #[.agg #[.int .u32 m, .int .u32 l, .int .u32 c0, .int .u32 c1, .int .u32 c2, .int .u32 c3]] w fun e w' => e = .returned (.bool (wrightB m l c0 c1 c2 c3)) ∧ Below w.heap.size w w' := by
  by_cases h : m ≤ 12
  · go_enter Try.func42, Try.ntmps42
    go_wp2_with fail
    refine (right_c l c0 c1 c2 c3 l0 l1 b0 g0 b1 g1 b2 g2 b3 g3 _).mono ?_
    rintro e x ⟨rfl, hb⟩
    obtain ⟨v1, rfl, u1, h1⟩ := first1 hb
    clear hb
    simp only []
    go_wp2_with fail
    all_goals
      go_returns
      exact ⟨ret_bool (by unfold wrightB; rw [decide_eq_true h]; simp_all), by (repeat' (first | (with_reducible exact Below.refl _ _) | (with_reducible assumption) | (with_reducible refine drw ?_ _) | (with_reducible refine below_put _ _ _ _ ?_ ?_) | (with_reducible refine Below.alloc ?_ ?_ _) | (with_reducible refine Below.setCell ?_ ?_ _) | (with_reducible exact Nat.le_refl _) | (simp; done) | omega | (simp only [size_put]; omega) | (simp; omega)))⟩
  · go_enter Try.func42, Try.ntmps42
    go_wp2_with fail
    go_returns
    exact ⟨ret_bool (by unfold wrightB; rw [decide_eq_false (by omega)]; rfl), by (repeat' (first | (with_reducible exact Below.refl _ _) | (with_reducible assumption) | (with_reducible refine drw ?_ _) | (with_reducible refine below_put _ _ _ _ ?_ ?_) | (with_reducible refine Below.alloc ?_ ?_ _) | (with_reducible refine Below.setCell ?_ ?_ _) | (with_reducible exact Nat.le_refl _) | (simp; done) | omega | (simp only [size_put]; omega) | (simp; omega)))⟩
end Go.Proofs.Ytaoelppkognakaa.Window
