/- Contracts of package window's inner function: the least density behind a block that comes. -/
import Derived.Test.YtaoelppkognakaaRingIs
import Derived.Deep.RegionHeld3
namespace Go.Proofs.Ytaoelppkognakaa.Window
open Go.RowKit Go.Proofs.Ytaoelppkognakaa.Num Go.Proofs.Ytaoelppkognakaa.Slot Go.Proofs.Ytaoelppkognakaa.Ring Go.Proofs.Ytaoelppkognakaa.RefRing Go.Proofs.Ytaoelppkognakaa.Wd Go.Proofs.Ytaoelppkognakaa.RingU
set_option linter.unusedVariables false
set_option linter.unusedSimpArgs false
set_option maxRecDepth 100000
attribute [local go_sem] size_put cell_put_same cell_put_other frozen_put_same frozen_put_other setCell_put_same setCell_put_other setCell_drewN alloc_drewN put_drewN put_drew

theorem before_e (l c0 c1 c2 c3 sub A E : Int) (l0 : 0 ≤ l) (b0 : 0 ≤ c0) (d0 : c0 ≤ 3) (b1 : 0 ≤ c1) (d1 : c1 ≤ 3) (b2 : 0 ≤ c2) (d2 : c2 ≤ 3) (b3 : 0 ≤ c3) (d3 : c3 ≤ 3) (s1 : sub < 4294967296) (hA : Hid (bV l c0 c1 c2 c3 sub = A)) (hE : Hid (bE l sub = E)) (w : World) :
    Calls Try.prog 34 #[.agg #[.int .u32 l, .int .u32 c0, .int .u32 c1, .int .u32 c2, .int .u32 c3], .int .u32 sub] w fun e w' => e = .returned (.tuple #[.int .u32 A, .int .i64 E]) ∧ Below w.heap.size w w' := by
  rw [← hA.out, ← hE.out]; exact before_u l c0 c1 c2 c3 sub l0 b0 d0 b1 d1 b2 d2 b3 d3 s1 w
theorem cells7 {v : World} {a : Nat} {ta : TypeId} {m l c0 c1 c2 c3 s : Int} (ha : a < v.heap.size) :
    (put v a #[.int .u32 m, .int .u32 l, .int .u32 c0, .int .u32 c1, .int .u32 c2, .int .u32 c3, .int .u32 s] ta).cell? ⟨a, 0, none⟩ = some (.int .u32 m) ∧ (put v a #[.int .u32 m, .int .u32 l, .int .u32 c0, .int .u32 c1, .int .u32 c2, .int .u32 c3, .int .u32 s] ta).cell? ⟨a, 1, none⟩ = some (.int .u32 l) ∧ (put v a #[.int .u32 m, .int .u32 l, .int .u32 c0, .int .u32 c1, .int .u32 c2, .int .u32 c3, .int .u32 s] ta).cell? ⟨a, 2, none⟩ = some (.int .u32 c0) ∧ (put v a #[.int .u32 m, .int .u32 l, .int .u32 c0, .int .u32 c1, .int .u32 c2, .int .u32 c3, .int .u32 s] ta).cell? ⟨a, 3, none⟩ = some (.int .u32 c1) ∧ (put v a #[.int .u32 m, .int .u32 l, .int .u32 c0, .int .u32 c1, .int .u32 c2, .int .u32 c3, .int .u32 s] ta).cell? ⟨a, 4, none⟩ = some (.int .u32 c2) ∧ (put v a #[.int .u32 m, .int .u32 l, .int .u32 c0, .int .u32 c1, .int .u32 c2, .int .u32 c3, .int .u32 s] ta).cell? ⟨a, 5, none⟩ = some (.int .u32 c3) ∧ (put v a #[.int .u32 m, .int .u32 l, .int .u32 c0, .int .u32 c1, .int .u32 c2, .int .u32 c3, .int .u32 s] ta).cell? ⟨a, 6, none⟩ = some (.int .u32 s) := by
  simp [cell_put_same, ha]

set_option maxHeartbeats 4000000 in
theorem least_a (m l c0 c1 c2 c3 s A E : Int) (l0 : 0 ≤ l) (b0 : 0 ≤ c0) (d0 : c0 ≤ 3) (b1 : 0 ≤ c1) (d1 : c1 ≤ 3) (b2 : 0 ≤ c2) (d2 : c2 ≤ 3) (b3 : 0 ≤ c3) (d3 : c3 ≤ 3) (s0 : 0 ≤ s) (s1 : s < 4294967296) (hA : Hid (bV l c0 c1 c2 c3 (s / 3) = A)) (hE : Hid (bE l (s / 3) = E)) (h : s < 12) (w : World) :
    Calls Try.prog 61 #[.agg #[.int .u32 m, .int .u32 l, .int .u32 c0, .int .u32 c1, .int .u32 c2, .int .u32 c3, .int .u32 s]] w fun e w' => e = .returned (.int .u32 m) ∧ Below w.heap.size w w' := by
  go_enter Try.func61, Try.ntmps61
  go_wp2_with fail
  go_region_held3 (fun wz => wz.cell? ⟨w.heap.size, 0, none⟩ = some (.int .u32 m) ∧ wz.cell? ⟨w.heap.size, 1, none⟩ = some (.int .u32 l) ∧ wz.cell? ⟨w.heap.size, 2, none⟩ = some (.int .u32 c0) ∧ wz.cell? ⟨w.heap.size, 3, none⟩ = some (.int .u32 c1) ∧ wz.cell? ⟨w.heap.size, 4, none⟩ = some (.int .u32 c2) ∧ wz.cell? ⟨w.heap.size, 5, none⟩ = some (.int .u32 c3) ∧ wz.cell? ⟨w.heap.size, 6, none⟩ = some (.int .u32 s)) (first | (go_keep) | exact cells7 (Nat.le_refl _) | exact cells7 u1)
    (first | (go_at_call 24; refine (sub_c s s0 s1 _).mono ?_; rintro e x ⟨rfl, k, rfl⟩; simp only []) | (go_at_call 34; refine (before_e l c0 c1 c2 c3 (s / 3) A E l0 b0 d0 b1 d1 b2 d2 b3 d3 (by omega) hA hE _).mono ?_; rintro e x ⟨rfl, hb⟩; obtain ⟨v1, rfl, u1, h1⟩ := first1d hb; clear hb; simp only []))
  all_goals
    go_wp2_with fail
    all_goals
      go_returns
      exact ⟨ret_int (by rfl), by (repeat' (first | (with_reducible exact Below.refl _ _) | (with_reducible assumption) | (with_reducible refine drw ?_ _) | (with_reducible refine below_put _ _ _ _ ?_ ?_) | (with_reducible refine Below.alloc ?_ ?_ _) | (with_reducible refine Below.setCell ?_ ?_ _) | (with_reducible exact Nat.le_refl _) | (simp; done) | omega | (simp only [size_put]; omega) | (simp; omega)))⟩

set_option maxHeartbeats 4000000 in
theorem least_b (m l c0 c1 c2 c3 s A E : Int) (l0 : 0 ≤ l) (b0 : 0 ≤ c0) (d0 : c0 ≤ 3) (b1 : 0 ≤ c1) (d1 : c1 ≤ 3) (b2 : 0 ≤ c2) (d2 : c2 ≤ 3) (b3 : 0 ≤ c3) (d3 : c3 ≤ 3) (s0 : 0 ≤ s) (s1 : s < 4294967296) (hA : Hid (bV l c0 c1 c2 c3 (s / 3) = A)) (hE : Hid (bE l (s / 3) = E)) (h : ¬ s < 12) (g : E = 6) (w : World) :
    Calls Try.prog 61 #[.agg #[.int .u32 m, .int .u32 l, .int .u32 c0, .int .u32 c1, .int .u32 c2, .int .u32 c3, .int .u32 s]] w fun e w' => e = .returned (.int .u32 m) ∧ Below w.heap.size w w' := by
  go_enter Try.func61, Try.ntmps61
  go_wp2_with fail
  go_region_held3 (fun wz => wz.cell? ⟨w.heap.size, 0, none⟩ = some (.int .u32 m) ∧ wz.cell? ⟨w.heap.size, 1, none⟩ = some (.int .u32 l) ∧ wz.cell? ⟨w.heap.size, 2, none⟩ = some (.int .u32 c0) ∧ wz.cell? ⟨w.heap.size, 3, none⟩ = some (.int .u32 c1) ∧ wz.cell? ⟨w.heap.size, 4, none⟩ = some (.int .u32 c2) ∧ wz.cell? ⟨w.heap.size, 5, none⟩ = some (.int .u32 c3) ∧ wz.cell? ⟨w.heap.size, 6, none⟩ = some (.int .u32 s)) (first | (go_keep) | exact cells7 (Nat.le_refl _) | exact cells7 u1)
    (first | (go_at_call 24; refine (sub_c s s0 s1 _).mono ?_; rintro e x ⟨rfl, k, rfl⟩; simp only []) | (go_at_call 34; refine (before_e l c0 c1 c2 c3 (s / 3) A E l0 b0 d0 b1 d1 b2 d2 b3 d3 (by omega) hA hE _).mono ?_; rintro e x ⟨rfl, hb⟩; obtain ⟨v1, rfl, u1, h1⟩ := first1d hb; clear hb; simp only []))
  all_goals
    go_wp2_with fail
    all_goals
      go_returns
      exact ⟨ret_int (by rfl), by (repeat' (first | (with_reducible exact Below.refl _ _) | (with_reducible assumption) | (with_reducible refine drw ?_ _) | (with_reducible refine below_put _ _ _ _ ?_ ?_) | (with_reducible refine Below.alloc ?_ ?_ _) | (with_reducible refine Below.setCell ?_ ?_ _) | (with_reducible exact Nat.le_refl _) | (simp; done) | omega | (simp only [size_put]; omega) | (simp; omega)))⟩

set_option maxHeartbeats 4000000 in
theorem least_c (m l c0 c1 c2 c3 s A E : Int) (l0 : 0 ≤ l) (b0 : 0 ≤ c0) (d0 : c0 ≤ 3) (b1 : 0 ≤ c1) (d1 : c1 ≤ 3) (b2 : 0 ≤ c2) (d2 : c2 ≤ 3) (b3 : 0 ≤ c3) (d3 : c3 ≤ 3) (s0 : 0 ≤ s) (s1 : s < 4294967296) (hA : Hid (bV l c0 c1 c2 c3 (s / 3) = A)) (hE : Hid (bE l (s / 3) = E)) (h : ¬ s < 12) (g : E = 0) (w : World) :
    Calls Try.prog 61 #[.agg #[.int .u32 m, .int .u32 l, .int .u32 c0, .int .u32 c1, .int .u32 c2, .int .u32 c3, .int .u32 s]] w fun e w' => e = .returned (.int .u32 (if A < m then A else m)) ∧ Below w.heap.size w w' := by
  go_enter Try.func61, Try.ntmps61
  go_wp2_with fail
  go_region_held3 (fun wz => wz.cell? ⟨w.heap.size, 0, none⟩ = some (.int .u32 m) ∧ wz.cell? ⟨w.heap.size, 1, none⟩ = some (.int .u32 l) ∧ wz.cell? ⟨w.heap.size, 2, none⟩ = some (.int .u32 c0) ∧ wz.cell? ⟨w.heap.size, 3, none⟩ = some (.int .u32 c1) ∧ wz.cell? ⟨w.heap.size, 4, none⟩ = some (.int .u32 c2) ∧ wz.cell? ⟨w.heap.size, 5, none⟩ = some (.int .u32 c3) ∧ wz.cell? ⟨w.heap.size, 6, none⟩ = some (.int .u32 s)) (first | (go_keep) | exact cells7 (Nat.le_refl _) | exact cells7 u1)
    (first | (go_at_call 24; refine (sub_c s s0 s1 _).mono ?_; rintro e x ⟨rfl, k, rfl⟩; simp only []) | (go_at_call 34; refine (before_e l c0 c1 c2 c3 (s / 3) A E l0 b0 d0 b1 d1 b2 d2 b3 d3 (by omega) hA hE _).mono ?_; rintro e x ⟨rfl, hb⟩; obtain ⟨v1, rfl, u1, h1⟩ := first1d hb; clear hb; simp only []))
  all_goals
    go_wp2_with fail
    all_goals
      go_returns
      exact ⟨ret_int (by omega), by (repeat' (first | (with_reducible exact Below.refl _ _) | (with_reducible assumption) | (with_reducible refine drw ?_ _) | (with_reducible refine below_put _ _ _ _ ?_ ?_) | (with_reducible refine Below.alloc ?_ ?_ _) | (with_reducible refine Below.setCell ?_ ?_ _) | (with_reducible exact Nat.le_refl _) | (simp; done) | omega | (simp only [size_put]; omega) | (simp; omega)))⟩
end Go.Proofs.Ytaoelppkognakaa.Window
