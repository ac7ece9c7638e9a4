/- Contracts of the document's Relative and Put for window states. -/
import Derived.Test.YtaoelppkognakaaOwnWin
import Derived.Test.YtaoelppkognakaaRefSlot
import Derived.Test.YtaoelppkognakaaWinPut
import Derived.Deep.QuietTactic
import Derived.BigQuiet
namespace Go.Proofs.Ytaoelppkognakaa.Window
open Go.RowKit Go.Proofs.Ytaoelppkognakaa.Num Go.Proofs.Ytaoelppkognakaa.Slot Go.Proofs.Ytaoelppkognakaa.Ring Go.Proofs.Ytaoelppkognakaa.RefRing Go.Proofs.Ytaoelppkognakaa.Wd Go.Proofs.Ytaoelppkognakaa.RingU
set_option linter.unusedVariables false
set_option linter.unusedSimpArgs false
set_option maxRecDepth 100000
attribute [local go_sem] size_put cell_put_same cell_put_other frozen_put_same frozen_put_other setCell_put_same setCell_put_other setCell_drewN alloc_drewN put_drewN put_drew

theorem cells1w {v : World} {a : Nat} {ta : TypeId} {m l c0 c1 c2 c3 : Int} (ha : a < v.heap.size) :
    (put v a #[.int .u32 m, .int .u32 l, .int .u32 c0, .int .u32 c1, .int .u32 c2, .int .u32 c3] ta).cell? ⟨a, 0, none⟩ = some (.int .u32 m) ∧ (put v a #[.int .u32 m, .int .u32 l, .int .u32 c0, .int .u32 c1, .int .u32 c2, .int .u32 c3] ta).cell? ⟨a, 1, none⟩ = some (.int .u32 l) ∧ (put v a #[.int .u32 m, .int .u32 l, .int .u32 c0, .int .u32 c1, .int .u32 c2, .int .u32 c3] ta).cell? ⟨a, 2, none⟩ = some (.int .u32 c0) ∧ (put v a #[.int .u32 m, .int .u32 l, .int .u32 c0, .int .u32 c1, .int .u32 c2, .int .u32 c3] ta).cell? ⟨a, 3, none⟩ = some (.int .u32 c1) ∧ (put v a #[.int .u32 m, .int .u32 l, .int .u32 c0, .int .u32 c1, .int .u32 c2, .int .u32 c3] ta).cell? ⟨a, 4, none⟩ = some (.int .u32 c2) ∧ (put v a #[.int .u32 m, .int .u32 l, .int .u32 c0, .int .u32 c1, .int .u32 c2, .int .u32 c3] ta).cell? ⟨a, 5, none⟩ = some (.int .u32 c3) := by
  simp [cell_put_same, ha]
theorem refBefore_e (l c0 c1 c2 c3 sub A E : Int) (l0 : 0 ≤ l) (b0 : 0 ≤ c0) (d0 : c0 ≤ 3) (b1 : 0 ≤ c1) (d1 : c1 ≤ 3) (b2 : 0 ≤ c2) (d2 : c2 ≤ 3) (b3 : 0 ≤ c3) (d3 : c3 ≤ 3) (s1 : sub < 4294967296) (hA : Hid (bV l c0 c1 c2 c3 sub = A)) (hE : Hid (bE l sub = E)) (w : World) :
    Calls Try.prog 35 #[.agg #[.int .u32 l, .int .u32 c0, .int .u32 c1, .int .u32 c2, .int .u32 c3], .int .u32 sub] w fun e w' => e = .returned (.tuple #[.int .u32 A, .int .i64 E]) ∧ Below w.heap.size w w' := by
  rw [← hA.out, ← hE.out]; exact refBefore_u l c0 c1 c2 c3 sub l0 b0 d0 b1 d1 b2 d2 b3 d3 s1 w

set_option maxHeartbeats 4000000 in
theorem refRel_a (m l c0 c1 c2 c3 s : Int) (l0 : 0 ≤ l) (l1 : l < 4294967296) (b0 : 0 ≤ c0) (d0 : c0 ≤ 3) (b1 : 0 ≤ c1) (d1 : c1 ≤ 3) (b2 : 0 ≤ c2) (d2 : c2 ≤ 3) (b3 : 0 ≤ c3) (d3 : c3 ≤ 3) (s0 : 0 ≤ s) (s1 : s < 4294967296) (h : s < 12) (w : World) :
    Calls Try.prog 50 #[.agg #[.int .u32 m, .int .u32 l, .int .u32 c0, .int .u32 c1, .int .u32 c2, .int .u32 c3], .int .u32 s] w fun e w' => e = .returned (.int .u32 m) ∧ Below w.heap.size w w' := by
  go_enter Try.func50, Try.ntmps50
  go_wp2_with fail
  obtain ⟨v0, e0, u0, q0⟩ := first1 (Below.refl _ (w.alloc (.cells #[.int .u32 m, .int .u32 l, .int .u32 c0, .int .u32 c1, .int .u32 c2, .int .u32 c3] 59)))
  rw [e0]
  clear e0
  go_quiet ((go_at_call 25; exact Calls.quiet_of_same (RefSlot.refSub_c s s0 s1 _)))
  all_goals
    go_wp2_with fail
    go_returns
    exact ⟨rfl, by (repeat' (first | (with_reducible exact Below.refl _ _) | (with_reducible assumption) | (with_reducible refine drw ?_ _) | (with_reducible refine below_put _ _ _ _ ?_ ?_) | (with_reducible refine Below.alloc ?_ ?_ _) | (with_reducible refine Below.setCell ?_ ?_ _) | (with_reducible exact Nat.le_refl _) | (simp; done) | omega | (simp only [size_put]; omega) | (simp; omega)))⟩

set_option maxHeartbeats 4000000 in
theorem refRel_b (m l c0 c1 c2 c3 s : Int) (l0 : 0 ≤ l) (l1 : l < 4294967296) (b0 : 0 ≤ c0) (d0 : c0 ≤ 3) (b1 : 0 ≤ c1) (d1 : c1 ≤ 3) (b2 : 0 ≤ c2) (d2 : c2 ≤ 3) (b3 : 0 ≤ c3) (d3 : c3 ≤ 3) (s0 : 0 ≤ s) (s1 : s < 4294967296) (h : ¬ s < 12) (g : s / 3 ≤ l) (w : World) :
    Calls Try.prog 50 #[.agg #[.int .u32 m, .int .u32 l, .int .u32 c0, .int .u32 c1, .int .u32 c2, .int .u32 c3], .int .u32 s] w fun e w' => e = .returned (.int .u32 m) ∧ Below w.heap.size w w' := by
  go_enter Try.func50, Try.ntmps50
  go_wp2_with fail
  obtain ⟨v0, e0, u0, q0⟩ := first1 (Below.refl _ (w.alloc (.cells #[.int .u32 m, .int .u32 l, .int .u32 c0, .int .u32 c1, .int .u32 c2, .int .u32 c3] 59)))
  rw [e0]
  clear e0
  go_quiet ((go_at_call 25; exact Calls.quiet_of_same (RefSlot.refSub_c s s0 s1 _)))
  all_goals
    go_wp2_with fail
    go_returns
    exact ⟨rfl, by (repeat' (first | (with_reducible exact Below.refl _ _) | (with_reducible assumption) | (with_reducible refine drw ?_ _) | (with_reducible refine below_put _ _ _ _ ?_ ?_) | (with_reducible refine Below.alloc ?_ ?_ _) | (with_reducible refine Below.setCell ?_ ?_ _) | (with_reducible exact Nat.le_refl _) | (simp; done) | omega | (simp only [size_put]; omega) | (simp; omega)))⟩

set_option maxHeartbeats 4000000 in
theorem refRel_c (m l c0 c1 c2 c3 s A E : Int) (l0 : 0 ≤ l) (l1 : l < 4294967296) (b0 : 0 ≤ c0) (d0 : c0 ≤ 3) (b1 : 0 ≤ c1) (d1 : c1 ≤ 3) (b2 : 0 ≤ c2) (d2 : c2 ≤ 3) (b3 : 0 ≤ c3) (d3 : c3 ≤ 3) (s0 : 0 ≤ s) (s1 : s < 4294967296) (h : ¬ s < 12) (g : ¬ s / 3 ≤ l) (hA : Hid (bV l c0 c1 c2 c3 (s / 3) = A)) (hE : Hid (bE l (s / 3) = E)) (w : World) :
    Calls Try.prog 50 #[.agg #[.int .u32 m, .int .u32 l, .int .u32 c0, .int .u32 c1, .int .u32 c2, .int .u32 c3], .int .u32 s] w fun e w' => e = .returned (.int .u32 (if A < m then A else m)) ∧ Below w.heap.size w w' := by
  go_enter Try.func50, Try.ntmps50
  go_wp2_with fail
  obtain ⟨v0, e0, u0, q0⟩ := first1 (Below.refl _ (w.alloc (.cells #[.int .u32 m, .int .u32 l, .int .u32 c0, .int .u32 c1, .int .u32 c2, .int .u32 c3] 59)))
  rw [e0]
  clear e0
  go_upto_region 1 with fail
  go_cut [16] (fun b wx => b = .bool false ∧ ∃ v1, wx = put v1 w.heap.size #[.int .u32 m, .int .u32 l, .int .u32 c0, .int .u32 c1, .int .u32 c2, .int .u32 c3] 59 ∧ w.heap.size < v1.heap.size ∧ Below w.heap.size w v1)
  case first =>
    go_quiet ((go_at_call 25; exact Calls.quiet_of_same (RefSlot.refSub_c s s0 s1 _)))
    all_goals
      go_wp2_with fail
      go_meet
      exact ⟨by rw [decide_eq_false (show ¬ s < 12 by omega), decide_eq_false (show ¬ s / 3 ≤ l by omega)]; rfl, v0.drewN _, rfl, u0, drw q0 _⟩
  case rest =>
    obtain ⟨rfl, v1, rfl, u1, q1⟩ := hcut
    clear u0 q0
    go_wp2_with fail
    go_region_held3 (fun wz => wz.cell? ⟨w.heap.size, 0, none⟩ = some (.int .u32 m) ∧ wz.cell? ⟨w.heap.size, 1, none⟩ = some (.int .u32 l) ∧ wz.cell? ⟨w.heap.size, 2, none⟩ = some (.int .u32 c0) ∧ wz.cell? ⟨w.heap.size, 3, none⟩ = some (.int .u32 c1) ∧ wz.cell? ⟨w.heap.size, 4, none⟩ = some (.int .u32 c2) ∧ wz.cell? ⟨w.heap.size, 5, none⟩ = some (.int .u32 c3)) (first | with_reducible exact keepD (cells1w u0) | with_reducible exact cells1w u1 | with_reducible exact keepD (cells1w u1) | with_reducible exact cells1w u2 | with_reducible assumption)
      (first | (go_at_call 25; refine (RefSlot.refSub_c s s0 s1 _).mono ?_; rintro e x ⟨rfl, rfl⟩; simp only []) | (go_at_call 35; refine (refBefore_e l c0 c1 c2 c3 (s / 3) A E l0 b0 d0 b1 d1 b2 d2 b3 d3 (by omega) hA hE _).mono ?_; rintro e x ⟨rfl, hb⟩; obtain ⟨v2, rfl, u2, q2⟩ := step1r hb q1 (Nat.le_refl _) u1; clear hb; simp only []))
    all_goals
      by_cases hlt : A < m
      all_goals
        go_wp2_with fail
        go_returns
        exact ⟨ret_int (by first | rfl | omega | (simp; omega)), by (repeat' (first | (with_reducible exact Below.refl _ _) | (with_reducible assumption) | (with_reducible refine drw ?_ _) | (with_reducible refine below_put _ _ _ _ ?_ ?_) | (with_reducible refine Below.alloc ?_ ?_ _) | (with_reducible refine Below.setCell ?_ ?_ _) | (with_reducible exact Nat.le_refl _) | (simp; done) | omega | (simp only [size_put]; omega) | (simp; omega)))⟩

theorem refRelative_c (m l c0 c1 c2 c3 s : Int) (l0 : 0 ≤ l) (l1 : l < 4294967296) (b0 : 0 ≤ c0) (d0 : c0 ≤ 3) (b1 : 0 ≤ c1) (d1 : c1 ≤ 3) (b2 : 0 ≤ c2) (d2 : c2 ≤ 3) (b3 : 0 ≤ c3) (d3 : c3 ≤ 3) (s0 : 0 ≤ s) (s1 : s < 4294967296) (w : World) :
    Calls Try.prog 50 #[.agg #[.int .u32 m, .int .u32 l, .int .u32 c0, .int .u32 c1, .int .u32 c2, .int .u32 c3], .int .u32 s] w fun e w' => e = .returned (.int .u32 (relV m l c0 c1 c2 c3 s)) ∧ Below w.heap.size w w' := by
  unfold relV
  by_cases h : s < 12
  · rw [if_pos h]; exact refRel_a m l c0 c1 c2 c3 s l0 l1 b0 d0 b1 d1 b2 d2 b3 d3 s0 s1 h w
  · rw [if_neg h]
    by_cases g : s / 3 ≤ l
    · rw [if_pos g]; exact refRel_b m l c0 c1 c2 c3 s l0 l1 b0 d0 b1 d1 b2 d2 b3 d3 s0 s1 h g w
    · rw [if_neg g]
      exact refRel_c m l c0 c1 c2 c3 s _ _ l0 l1 b0 d0 b1 d1 b2 d2 b3 d3 s0 s1 h g (show bV l c0 c1 c2 c3 (s / 3) = Ring.ahead l c0 c1 c2 c3 (s / 3) from by unfold bV; rw [if_neg g]) rfl w
theorem refRelative_is (m l c0 c1 c2 c3 s r : Int) (l0 : 0 ≤ l) (l1 : l < 4294967296) (b0 : 0 ≤ c0) (d0 : c0 ≤ 3) (b1 : 0 ≤ c1) (d1 : c1 ≤ 3) (b2 : 0 ≤ c2) (d2 : c2 ≤ 3) (b3 : 0 ≤ c3) (d3 : c3 ≤ 3) (s0 : 0 ≤ s) (s1 : s < 4294967296) (hr : Hid (relV m l c0 c1 c2 c3 s = r)) (w : World) :
    Calls Try.prog 50 #[.agg #[.int .u32 m, .int .u32 l, .int .u32 c0, .int .u32 c1, .int .u32 c2, .int .u32 c3], .int .u32 s] w fun e w' => e = .returned (.int .u32 r) ∧ Below w.heap.size w w' := by
  rw [← hr.out]; exact refRelative_c m l c0 c1 c2 c3 s l0 l1 b0 d0 b1 d1 b2 d2 b3 d3 s0 s1 w
/-- The ring's Put answers in the document. -/
theorem refPut_is (l c0 c1 c2 c3 sub y y0 y1 y2 y3 ye : Int) (l0 : 0 ≤ l) (l1 : l < 4294967296) (b0 : 0 ≤ c0) (d0 : c0 ≤ 3) (b1 : 0 ≤ c1) (d1 : c1 ≤ 3) (b2 : 0 ≤ c2) (d2 : c2 ≤ 3) (b3 : 0 ≤ c3) (d3 : c3 ≤ 3) (s0 : 0 ≤ sub) (s1 : sub < 4294967296) (hy : Hid (pL l c0 c1 c2 c3 sub = y)) (h0 : Hid (pC l c0 c1 c2 c3 sub 0 c0 = y0)) (h1 : Hid (pC l c0 c1 c2 c3 sub 1 c1 = y1)) (h2 : Hid (pC l c0 c1 c2 c3 sub 2 c2 = y2)) (h3 : Hid (pC l c0 c1 c2 c3 sub 3 c3 = y3)) (he : Hid (pE l c0 c1 c2 c3 sub = ye)) (w : World) :
    Calls Try.prog 37 #[.agg #[.int .u32 l, .int .u32 c0, .int .u32 c1, .int .u32 c2, .int .u32 c3], .int .u32 sub] w fun e w' => e = .returned (.tuple #[.agg #[.int .u32 y, .int .u32 y0, .int .u32 y1, .int .u32 y2, .int .u32 y3], .int .i64 ye]) ∧ Below w.heap.size w w' := by
  rw [← hy.out, ← h0.out, ← h1.out, ← h2.out, ← h3.out, ← he.out]; exact refPut_u l c0 c1 c2 c3 sub l0 l1 b0 d0 b1 d1 b2 d2 b3 d3 s0 s1 w

set_option maxHeartbeats 4000000 in
theorem refWput_no (m l c0 c1 c2 c3 s y y0 y1 y2 y3 ye : Int) (l0 : 0 ≤ l) (l1 : l < 4294967296) (b0 : 0 ≤ c0) (d0 : c0 ≤ 3) (b1 : 0 ≤ c1) (d1 : c1 ≤ 3) (b2 : 0 ≤ c2) (d2 : c2 ≤ 3) (b3 : 0 ≤ c3) (d3 : c3 ≤ 3) (s0 : 0 ≤ s) (s1 : s < 4294967296) (hy : Hid (pL l c0 c1 c2 c3 (s / 3) = y)) (h0 : Hid (pC l c0 c1 c2 c3 (s / 3) 0 c0 = y0)) (h1 : Hid (pC l c0 c1 c2 c3 (s / 3) 1 c1 = y1)) (h2 : Hid (pC l c0 c1 c2 c3 (s / 3) 2 c2 = y2)) (h3 : Hid (pC l c0 c1 c2 c3 (s / 3) 3 c3 = y3)) (he : Hid (pE l c0 c1 c2 c3 (s / 3) = ye)) (hne : (ye != 0) = true) (w : World) :
    Calls Try.prog 48 #[.agg #[.int .u32 m, .int .u32 l, .int .u32 c0, .int .u32 c1, .int .u32 c2, .int .u32 c3], .int .u32 s] w fun e w' => e = .returned (.tuple #[.agg #[.int .u32 0, .int .u32 0, .int .u32 0, .int .u32 0, .int .u32 0, .int .u32 0], .int .i64 ye]) ∧ Below w.heap.size w w' := by
  have zz : ¬ w.heap.size = w.heap.size + 1 := by omega
  go_enter Try.func48, Try.ntmps48
  go_wp2_with fail
  obtain ⟨v0, e0, u0, k0, q0⟩ := first2 (Below.refl _ ((w.alloc (.cells #[.int .u32 m, .int .u32 l, .int .u32 c0, .int .u32 c1, .int .u32 c2, .int .u32 c3] 59)).alloc (.cells #[.int .u32 0, .int .u32 0, .int .u32 0, .int .u32 0, .int .u32 0, .int .u32 0] 59)))
  rw [e0]
  clear e0
  obtain ⟨p, ep⟩ : ∃ p, v0.heap.size = p := ⟨_, rfl⟩
  have u0p : w.heap.size < p := by omega
  have k0p : w.heap.size + 1 < p := by omega
  have n1 : ¬ w.heap.size = p := by omega
  have n2 : ¬ w.heap.size + 1 = p := by omega
  have n3 : ¬ p = w.heap.size := by omega
  have n4 : ¬ p = w.heap.size + 1 := by omega
  go_upto_region 1 with fail
  go_cut [6, 7] (fun rr ee wx => ∃ (p : Nat) (v : World), rr = .pointer (some ⟨p, 0, none⟩) ∧ ee = .int .i64 ye ∧ wx = (put (put (put v w.heap.size #[.int .u32 m, .int .u32 l, .int .u32 c0, .int .u32 c1, .int .u32 c2, .int .u32 c3] 59) (w.heap.size + 1) #[.int .u32 0, .int .u32 0, .int .u32 0, .int .u32 0, .int .u32 0, .int .u32 0] 59) p #[.int .u32 y, .int .u32 y0, .int .u32 y1, .int .u32 y2, .int .u32 y3] 38) ∧ w.heap.size < v.heap.size ∧ w.heap.size + 1 < v.heap.size ∧ p < v.heap.size ∧ w.heap.size + 1 < p ∧ Below w.heap.size w v)
  case first =>
    go_region_held3 (fun wz => wz.cell? ⟨w.heap.size, 0, none⟩ = some (.int .u32 m) ∧ wz.cell? ⟨w.heap.size, 1, none⟩ = some (.int .u32 l) ∧ wz.cell? ⟨w.heap.size, 2, none⟩ = some (.int .u32 c0) ∧ wz.cell? ⟨w.heap.size, 3, none⟩ = some (.int .u32 c1) ∧ wz.cell? ⟨w.heap.size, 4, none⟩ = some (.int .u32 c2) ∧ wz.cell? ⟨w.heap.size, 5, none⟩ = some (.int .u32 c3)) (first | with_reducible exact keepD (cells6 u0 zz) | with_reducible exact keepN (by assumption) | with_reducible exact keepA (by assumption) | with_reducible exact cells6 u1 zz | with_reducible exact keepA (cells6 u1 zz) | with_reducible exact keepN (keepA (cells6 u0 zz)) | with_reducible exact keepD (keepA (cells6 u0 zz)) | with_reducible exact cells63 u1 zz n1 | with_reducible assumption)
      (first | (go_at_call 25; refine (RefSlot.refSub_c s s0 s1 _).mono ?_; rintro e x ⟨rfl, rfl⟩; simp only []) | (go_at_call 37; refine (refPut_is l c0 c1 c2 c3 (s / 3) y y0 y1 y2 y3 ye l0 l1 b0 d0 b1 d1 b2 d2 b3 d3 (by omega) (by omega) hy h0 h1 h2 h3 he _).mono ?_; rintro e x ⟨rfl, hb⟩; first | (obtain ⟨v1, rfl, u1, k1, j1, q1⟩ := new2d hb q0 ep (Nat.le_refl _) (by omega) u0p k0p zz) | (obtain ⟨v1, rfl, u1, k1, q1⟩ := step2d hb q0 (Nat.le_refl _) (by omega) u0 k0 zz) | (obtain ⟨v1, rfl, u1, k1, j1, q1⟩ := new2r hb q0 ep (Nat.le_refl _) (by omega) u0p k0p zz) | (obtain ⟨v1, rfl, u1, k1, q1⟩ := step2r hb q0 (Nat.le_refl _) (by omega) u0 k0 zz) ; clear hb; simp only []))
    all_goals
      go_wp2_with fail
      go_meet
      first
        | exact ⟨p, v1, rfl, rfl, rfl, u1, k1, j1, k0p, q1⟩
        | (obtain ⟨v2, e2, a2, b2, c2, d2⟩ := new2 (Below.refl _ _) q1 rfl (Nat.le_refl _) (by omega) u1 k1 zz; exact ⟨v1.heap.size, v2, rfl, rfl, e2, a2, b2, c2, k1, d2⟩)
  case rest =>
    clear ep u0p k0p n1 n2 n3 n4 u0 k0 q0
    obtain ⟨p, v, rfl, rfl, rfl, u, k, j, kp, q⟩ := hcut
    have zp : ¬ w.heap.size = p := by omega
    have zq : ¬ w.heap.size + 1 = p := by omega
    have zr : ¬ p = w.heap.size := by omega
    have zs : ¬ p = w.heap.size + 1 := by omega
    have zt : ¬ w.heap.size + 1 = w.heap.size := by omega
    go_wp2_with fail
    refine bodyPost_ret (v := .tuple #[.agg #[.int .u32 0, .int .u32 0, .int .u32 0, .int .u32 0, .int .u32 0, .int .u32 0], .int .i64 ye]) (by simp [results, Try.results48, go_sem, u, k, j, zp, zq, zr, zs, zt]) rfl ⟨rfl, ?_⟩
    (repeat' (first | (with_reducible exact Below.refl _ _) | (with_reducible assumption) | (with_reducible refine drw ?_ _) | (with_reducible refine below_put _ _ _ _ ?_ ?_) | (with_reducible refine Below.alloc ?_ ?_ _) | (with_reducible refine Below.setCell ?_ ?_ _) | (with_reducible exact Nat.le_refl _) | (simp; done) | omega | (simp only [size_put]; omega) | (simp; omega)))

set_option maxHeartbeats 4000000 in
theorem refWput_ok (m l c0 c1 c2 c3 s y y0 y1 y2 y3 r : Int) (l0 : 0 ≤ l) (l1 : l < 4294967296) (b0 : 0 ≤ c0) (d0 : c0 ≤ 3) (b1 : 0 ≤ c1) (d1 : c1 ≤ 3) (b2 : 0 ≤ c2) (d2 : c2 ≤ 3) (b3 : 0 ≤ c3) (d3 : c3 ≤ 3) (s0 : 0 ≤ s) (s1 : s < 4294967296) (hy : Hid (pL l c0 c1 c2 c3 (s / 3) = y)) (h0 : Hid (pC l c0 c1 c2 c3 (s / 3) 0 c0 = y0)) (h1 : Hid (pC l c0 c1 c2 c3 (s / 3) 1 c1 = y1)) (h2 : Hid (pC l c0 c1 c2 c3 (s / 3) 2 c2 = y2)) (h3 : Hid (pC l c0 c1 c2 c3 (s / 3) 3 c3 = y3)) (he : Hid (pE l c0 c1 c2 c3 (s / 3) = 0)) (hr : Hid (relV m l c0 c1 c2 c3 s = r)) (w : World) :
    Calls Try.prog 48 #[.agg #[.int .u32 m, .int .u32 l, .int .u32 c0, .int .u32 c1, .int .u32 c2, .int .u32 c3], .int .u32 s] w fun e w' => e = .returned (.tuple #[.agg #[.int .u32 r, .int .u32 y, .int .u32 y0, .int .u32 y1, .int .u32 y2, .int .u32 y3], .int .i64 0]) ∧ Below w.heap.size w w' := by
  have zz : ¬ w.heap.size = w.heap.size + 1 := by omega
  go_enter Try.func48, Try.ntmps48
  go_wp2_with fail
  obtain ⟨v0, e0, u0, k0, q0⟩ := first2 (Below.refl _ ((w.alloc (.cells #[.int .u32 m, .int .u32 l, .int .u32 c0, .int .u32 c1, .int .u32 c2, .int .u32 c3] 59)).alloc (.cells #[.int .u32 0, .int .u32 0, .int .u32 0, .int .u32 0, .int .u32 0, .int .u32 0] 59)))
  rw [e0]
  clear e0
  obtain ⟨p, ep⟩ : ∃ p, v0.heap.size = p := ⟨_, rfl⟩
  have u0p : w.heap.size < p := by omega
  have k0p : w.heap.size + 1 < p := by omega
  have n1 : ¬ w.heap.size = p := by omega
  have n2 : ¬ w.heap.size + 1 = p := by omega
  have n3 : ¬ p = w.heap.size := by omega
  have n4 : ¬ p = w.heap.size + 1 := by omega
  go_upto_region 1 with fail
  go_cut [6, 7] (fun rr ee wx => ∃ (p : Nat) (v : World), rr = .pointer (some ⟨p, 0, none⟩) ∧ ee = .int .i64 0 ∧ wx = (put (put (put v w.heap.size #[.int .u32 m, .int .u32 l, .int .u32 c0, .int .u32 c1, .int .u32 c2, .int .u32 c3] 59) (w.heap.size + 1) #[.int .u32 0, .int .u32 0, .int .u32 0, .int .u32 0, .int .u32 0, .int .u32 0] 59) p #[.int .u32 y, .int .u32 y0, .int .u32 y1, .int .u32 y2, .int .u32 y3] 38) ∧ w.heap.size < v.heap.size ∧ w.heap.size + 1 < v.heap.size ∧ p < v.heap.size ∧ w.heap.size + 1 < p ∧ Below w.heap.size w v)
  case first =>
    go_region_held3 (fun wz => wz.cell? ⟨w.heap.size, 0, none⟩ = some (.int .u32 m) ∧ wz.cell? ⟨w.heap.size, 1, none⟩ = some (.int .u32 l) ∧ wz.cell? ⟨w.heap.size, 2, none⟩ = some (.int .u32 c0) ∧ wz.cell? ⟨w.heap.size, 3, none⟩ = some (.int .u32 c1) ∧ wz.cell? ⟨w.heap.size, 4, none⟩ = some (.int .u32 c2) ∧ wz.cell? ⟨w.heap.size, 5, none⟩ = some (.int .u32 c3)) (first | with_reducible exact keepD (cells6 u0 zz) | with_reducible exact keepN (by assumption) | with_reducible exact keepA (by assumption) | with_reducible exact cells6 u1 zz | with_reducible exact keepA (cells6 u1 zz) | with_reducible exact keepN (keepA (cells6 u0 zz)) | with_reducible exact keepD (keepA (cells6 u0 zz)) | with_reducible exact cells63 u1 zz n1 | with_reducible assumption)
      (first | (go_at_call 25; refine (RefSlot.refSub_c s s0 s1 _).mono ?_; rintro e x ⟨rfl, rfl⟩; simp only []) | (go_at_call 37; refine (refPut_is l c0 c1 c2 c3 (s / 3) y y0 y1 y2 y3 0 l0 l1 b0 d0 b1 d1 b2 d2 b3 d3 (by omega) (by omega) hy h0 h1 h2 h3 he _).mono ?_; rintro e x ⟨rfl, hb⟩; first | (obtain ⟨v1, rfl, u1, k1, j1, q1⟩ := new2d hb q0 ep (Nat.le_refl _) (by omega) u0p k0p zz) | (obtain ⟨v1, rfl, u1, k1, q1⟩ := step2d hb q0 (Nat.le_refl _) (by omega) u0 k0 zz) | (obtain ⟨v1, rfl, u1, k1, j1, q1⟩ := new2r hb q0 ep (Nat.le_refl _) (by omega) u0p k0p zz) | (obtain ⟨v1, rfl, u1, k1, q1⟩ := step2r hb q0 (Nat.le_refl _) (by omega) u0 k0 zz) ; clear hb; simp only []))
    all_goals
      go_wp2_with fail
      go_meet
      first
        | exact ⟨p, v1, rfl, rfl, rfl, u1, k1, j1, k0p, q1⟩
        | (obtain ⟨v2, e2, a2, b2, c2, d2⟩ := new2 (Below.refl _ _) q1 rfl (Nat.le_refl _) (by omega) u1 k1 zz; exact ⟨v1.heap.size, v2, rfl, rfl, e2, a2, b2, c2, k1, d2⟩)
  case rest =>
    clear ep u0p k0p n1 n2 n3 n4 u0 k0 q0
    obtain ⟨p, v, rfl, rfl, rfl, u, k, j, kp, q⟩ := hcut
    have zp : ¬ w.heap.size = p := by omega
    have zq : ¬ w.heap.size + 1 = p := by omega
    have zr : ¬ p = w.heap.size := by omega
    have zs : ¬ p = w.heap.size + 1 := by omega
    have zt : ¬ w.heap.size + 1 = w.heap.size := by omega
    go_wp2_with fail
    go_region_held3 (fun wz => wz.cell? ⟨w.heap.size, 0, none⟩ = some (.int .u32 m) ∧ wz.cell? ⟨w.heap.size, 1, none⟩ = some (.int .u32 l) ∧ wz.cell? ⟨w.heap.size, 2, none⟩ = some (.int .u32 c0) ∧ wz.cell? ⟨w.heap.size, 3, none⟩ = some (.int .u32 c1) ∧ wz.cell? ⟨w.heap.size, 4, none⟩ = some (.int .u32 c2) ∧ wz.cell? ⟨w.heap.size, 5, none⟩ = some (.int .u32 c3) ∧ wz.cell? ⟨p, 0, none⟩ = some (.int .u32 y) ∧ wz.cell? ⟨p, 1, none⟩ = some (.int .u32 y0) ∧ wz.cell? ⟨p, 2, none⟩ = some (.int .u32 y1) ∧ wz.cell? ⟨p, 3, none⟩ = some (.int .u32 y2) ∧ wz.cell? ⟨p, 4, none⟩ = some (.int .u32 y3)) (first | with_reducible exact cells11d u j zz zp | with_reducible exact cells11 u2 j2 zz zp | with_reducible assumption)
      (first | (go_at_call 50; refine (refRelative_is m l c0 c1 c2 c3 s r l0 l1 b0 d0 b1 d1 b2 d2 b3 d3 s0 s1 hr _).mono ?_; rintro e x ⟨rfl, hb⟩; first | (obtain ⟨v2, rfl, u2, k2, j2, q2⟩ := step3r hb q (Nat.le_refl _) (by omega) (by omega) u k j zz zp (by omega)) | (obtain ⟨v2, rfl, u2, k2, j2, q2⟩ := step3d hb q (Nat.le_refl _) (by omega) (by omega) u k j zz zp (by omega)) | (obtain ⟨v2, rfl, u2, k2, j2, q2⟩ := step3 hb q (Nat.le_refl _) (by omega) (by omega) u k j zz zp (by omega)); clear hb; simp only []))
    all_goals
      go_wp2_with fail
      refine bodyPost_ret (v := .tuple #[.agg #[.int .u32 r, .int .u32 y, .int .u32 y0, .int .u32 y1, .int .u32 y2, .int .u32 y3], .int .i64 0]) (by simp [results, Try.results48, go_sem, u2, k2, j2, zp, zq, zr, zs, zt]) rfl ⟨rfl, ?_⟩
      (repeat' (first | (with_reducible exact Below.refl _ _) | (with_reducible assumption) | (with_reducible refine drw ?_ _) | (with_reducible refine below_put _ _ _ _ ?_ ?_) | (with_reducible refine Below.alloc ?_ ?_ _) | (with_reducible refine Below.setCell ?_ ?_ _) | (with_reducible exact Nat.le_refl _) | (simp; done) | omega | (simp only [size_put]; omega) | (simp; omega)))

theorem refWput_c (m l c0 c1 c2 c3 s : Int) (l0 : 0 ≤ l) (l1 : l < 4294967296) (b0 : 0 ≤ c0) (d0 : c0 ≤ 3) (b1 : 0 ≤ c1) (d1 : c1 ≤ 3) (b2 : 0 ≤ c2) (d2 : c2 ≤ 3) (b3 : 0 ≤ c3) (d3 : c3 ≤ 3) (s0 : 0 ≤ s) (s1 : s < 4294967296) (w : World) :
    Calls Try.prog 48 #[.agg #[.int .u32 m, .int .u32 l, .int .u32 c0, .int .u32 c1, .int .u32 c2, .int .u32 c3], .int .u32 s] w fun e w' => e = .returned (.tuple #[.agg #[.int .u32 (putM m l c0 c1 c2 c3 s), .int .u32 (pL l c0 c1 c2 c3 (s / 3)), .int .u32 (pC l c0 c1 c2 c3 (s / 3) 0 c0), .int .u32 (pC l c0 c1 c2 c3 (s / 3) 1 c1), .int .u32 (pC l c0 c1 c2 c3 (s / 3) 2 c2), .int .u32 (pC l c0 c1 c2 c3 (s / 3) 3 c3)], .int .i64 (pE l c0 c1 c2 c3 (s / 3))]) ∧ Below w.heap.size w w' := by
  unfold putM
  by_cases h : pE l c0 c1 c2 c3 (s / 3) = 0
  · rw [if_pos h, h]
    exact refWput_ok m l c0 c1 c2 c3 s _ _ _ _ _ _ l0 l1 b0 d0 b1 d1 b2 d2 b3 d3 s0 s1 rfl rfl rfl rfl rfl h rfl w
  · have e1 : pL l c0 c1 c2 c3 (s / 3) = 0 := by unfold pL; rw [if_neg h]
    have e2 : ∀ p c, pC l c0 c1 c2 c3 (s / 3) p c = 0 := fun p c => by unfold pC; rw [if_neg h]
    rw [if_neg h, e1, e2, e2, e2, e2]
    exact refWput_no m l c0 c1 c2 c3 s 0 0 0 0 0 _ l0 l1 b0 d0 b1 d1 b2 d2 b3 d3 s0 s1 e1 (e2 _ _) (e2 _ _) (e2 _ _) (e2 _ _) rfl (by simpa using h) w
end Go.Proofs.Ytaoelppkognakaa.Window
