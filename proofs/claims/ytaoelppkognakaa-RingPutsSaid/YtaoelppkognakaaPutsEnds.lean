/- RingPuts at a ring that is not right, or too near the end, returns true. -/
import Derived.Test.YtaoelppkognakaaPutsIs
namespace Go.Proofs.Ytaoelppkognakaa.RingU
open Go.RowKit Go.Proofs.Ytaoelppkognakaa.Num Go.Proofs.Ytaoelppkognakaa.Slot Go.Proofs.Ytaoelppkognakaa.Ring Go.Proofs.Ytaoelppkognakaa.RefRing Go.Proofs.Ytaoelppkognakaa.Wd
set_option linter.unusedVariables false
set_option linter.unusedSimpArgs false
set_option maxRecDepth 100000
attribute [local go_sem] size_put cell_put_same cell_put_other frozen_put_same frozen_put_other setCell_put_same setCell_put_other setCell_drewN alloc_drewN put_drewN put_drew

set_option maxHeartbeats 2000000 in
theorem ringPuts_no (l c0 c1 c2 c3 m b : Int) (l0 : 0 ≤ l) (l1 : l < 4294967296) (b0 : 0 ≤ c0) (g0 : c0 < 4294967296) (b1 : 0 ≤ c1) (g1 : c1 < 4294967296) (b2 : 0 ≤ c2) (g2 : c2 < 4294967296) (b3 : 0 ≤ c3) (g3 : c3 < 4294967296) (m0 : 0 ≤ m) (m1 : m < 256) (b_0 : 0 ≤ b) (b_1 : b < 256) (hR : Hid (rightB l c0 c1 c2 c3 = false)) (w : World) :
    Calls Try.prog 9 #[.agg #[.int .u32 l, .int .u32 c0, .int .u32 c1, .int .u32 c2, .int .u32 c3], .int .u8 m, .int .u8 b] w fun e w' => e = .returned (.bool true) ∧ Below w.heap.size w w' := by
  go_enter Try.func9, Try.ntmps9
  go_wp2_with fail
  refine (awake_c _).mono ?_
  rintro e x ⟨rfl, hb⟩
  obtain ⟨v1, rfl, u1, h1⟩ := first1 hb
  clear hb
  simp only []
  go_wp2_with fail
  refine (refRight_is l c0 c1 c2 c3 l0 (by omega) b0 g0 b1 g1 b2 g2 b3 g3 hR _).mono ?_
  rintro e x ⟨rfl, hb⟩
  obtain ⟨v2, rfl, u2, h2⟩ := step1 hb h1 (Nat.le_refl _) u1
  clear hb h1 u1
  simp only []
  go_wp2_with fail
  go_returns
  exact ⟨rfl, by (repeat' (first | (with_reducible exact Below.refl _ _) | (with_reducible assumption) | (with_reducible refine drw ?_ _) | (with_reducible refine below_put _ _ _ _ ?_ ?_) | (with_reducible refine Below.alloc ?_ ?_ _) | (with_reducible refine Below.setCell ?_ ?_ _) | (with_reducible exact Nat.le_refl _) | (simp; done) | omega | (simp only [size_put]; omega) | (simp; omega)))⟩

set_option maxHeartbeats 2000000 in
theorem ringPuts_end (l c0 c1 c2 c3 m b : Int) (l0 : 0 ≤ l) (l1 : l < 4294967296) (b0 : 0 ≤ c0) (g0 : c0 < 4294967296) (b1 : 0 ≤ c1) (g1 : c1 < 4294967296) (b2 : 0 ≤ c2) (g2 : c2 < 4294967296) (b3 : 0 ≤ c3) (g3 : c3 < 4294967296) (m0 : 0 ≤ m) (m1 : m < 256) (b_0 : 0 ≤ b) (b_1 : b < 256) (hR : Hid (rightB l c0 c1 c2 c3 = true)) (hl : 4294967286 < l) (w : World) :
    Calls Try.prog 9 #[.agg #[.int .u32 l, .int .u32 c0, .int .u32 c1, .int .u32 c2, .int .u32 c3], .int .u8 m, .int .u8 b] w fun e w' => e = .returned (.bool true) ∧ Below w.heap.size w w' := by
  go_enter Try.func9, Try.ntmps9
  go_wp2_with fail
  refine (awake_c _).mono ?_
  rintro e x ⟨rfl, hb⟩
  obtain ⟨v1, rfl, u1, h1⟩ := first1 hb
  clear hb
  simp only []
  go_wp2_with fail
  refine (refRight_is l c0 c1 c2 c3 l0 (by omega) b0 g0 b1 g1 b2 g2 b3 g3 hR _).mono ?_
  rintro e x ⟨rfl, hb⟩
  obtain ⟨v2, rfl, u2, h2⟩ := step1 hb h1 (Nat.le_refl _) u1
  clear hb h1 u1
  simp only []
  go_wp2_with fail
  go_returns
  exact ⟨rfl, by (repeat' (first | (with_reducible exact Below.refl _ _) | (with_reducible assumption) | (with_reducible refine drw ?_ _) | (with_reducible refine below_put _ _ _ _ ?_ ?_) | (with_reducible refine Below.alloc ?_ ?_ _) | (with_reducible refine Below.setCell ?_ ?_ _) | (with_reducible exact Nat.le_refl _) | (simp; done) | omega | (simp only [size_put]; omega) | (simp; omega)))⟩
end Go.Proofs.Ytaoelppkognakaa.RingU
