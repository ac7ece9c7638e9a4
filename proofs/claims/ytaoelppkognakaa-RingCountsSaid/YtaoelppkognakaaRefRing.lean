/- Contracts of the document's answers for rings: what each returns at every ring (that the statements ask them about), and that it changes nothing that was there. -/
import Derived.Test.YtaoelppkognakaaPut
namespace Go.Proofs.Ytaoelppkognakaa.RefRing
open Go.RowKit Go.Proofs.Ytaoelppkognakaa.Num Go.Proofs.Ytaoelppkognakaa.Slot Go.Proofs.Ytaoelppkognakaa.Ring Go.Proofs.Ytaoelppkognakaa.Wd
set_option linter.unusedVariables false
set_option maxRecDepth 100000
attribute [local go_sem] size_put cell_put_same cell_put_other frozen_put_same frozen_put_other setCell_put_same setCell_put_other setCell_drewN alloc_drewN put_drewN put_drew

theorem refGenesis_c (w : World) : Calls Try.prog 33 #[] w fun e w' => e = .returned (.agg #[.int .u32 0, .int .u32 1, .int .u32 3, .int .u32 3, .int .u32 3]) ∧ Below w.heap.size w w' := by
  go_enter Try.func33, Try.ntmps33
  go_wp2
  go_returns
  exact ⟨rfl, by (repeat' (first | (with_reducible exact Below.refl _ _) | (with_reducible assumption) | (with_reducible refine drw ?_ _) | (with_reducible refine Below.alloc ?_ ?_ _) | (with_reducible refine Below.setCell ?_ ?_ _) | (with_reducible exact Nat.le_refl _) | (simp; done) | (simp; omega)))⟩

theorem refSum_c (l c0 c1 c2 c3 : Int) (b0 : 0 ≤ c0) (g0 : c0 < 4294967296) (b1 : 0 ≤ c1) (g1 : c1 < 4294967296) (b2 : 0 ≤ c2) (g2 : c2 < 4294967296) (b3 : 0 ≤ c3) (g3 : c3 < 4294967296) (hs : c0 + c1 + c2 + c3 < 4294967296) (w : World) :
    Calls Try.prog 39 #[.agg #[.int .u32 l, .int .u32 c0, .int .u32 c1, .int .u32 c2, .int .u32 c3]] w fun e w' => e = .returned (.int .u32 (c0 + c1 + c2 + c3)) ∧ Below w.heap.size w w' := by
  go_enter Try.func39, Try.ntmps39
  go_wp2
  go_returns
  exact ⟨rfl, by (repeat' (first | (with_reducible exact Below.refl _ _) | (with_reducible assumption) | (with_reducible refine drw ?_ _) | (with_reducible refine Below.alloc ?_ ?_ _) | (with_reducible refine Below.setCell ?_ ?_ _) | (with_reducible exact Nat.le_refl _) | (simp; done) | (simp; omega)))⟩

theorem refRight_no0 (l c0 c1 c2 c3 : Int) (b0 : 0 ≤ c0) (g0 : c0 < 4294967296) (b1 : 0 ≤ c1) (g1 : c1 < 4294967296) (b2 : 0 ≤ c2) (g2 : c2 < 4294967296) (b3 : 0 ≤ c3) (g3 : c3 < 4294967296)  (h : 3 < c0) (w : World) :
    Calls Try.prog 31 #[.agg #[.int .u32 l, .int .u32 c0, .int .u32 c1, .int .u32 c2, .int .u32 c3]] w fun e w' => e = .returned (.bool false) ∧ Below w.heap.size w w' := by
  go_enter Try.func31, Try.ntmps31
  go_wp2
  go_rounds 1
  go_returns
  exact ⟨rfl, by (repeat' (first | (with_reducible exact Below.refl _ _) | (with_reducible assumption) | (with_reducible refine drw ?_ _) | (with_reducible refine Below.alloc ?_ ?_ _) | (with_reducible refine Below.setCell ?_ ?_ _) | (with_reducible exact Nat.le_refl _) | (simp; done) | (simp; omega)))⟩

theorem refRight_no1 (l c0 c1 c2 c3 : Int) (b0 : 0 ≤ c0) (g0 : c0 < 4294967296) (b1 : 0 ≤ c1) (g1 : c1 < 4294967296) (b2 : 0 ≤ c2) (g2 : c2 < 4294967296) (b3 : 0 ≤ c3) (g3 : c3 < 4294967296) (h0 : c0 ≤ 3) (h : 3 < c1) (w : World) :
    Calls Try.prog 31 #[.agg #[.int .u32 l, .int .u32 c0, .int .u32 c1, .int .u32 c2, .int .u32 c3]] w fun e w' => e = .returned (.bool false) ∧ Below w.heap.size w w' := by
  go_enter Try.func31, Try.ntmps31
  go_wp2
  go_rounds 2
  go_returns
  exact ⟨rfl, by (repeat' (first | (with_reducible exact Below.refl _ _) | (with_reducible assumption) | (with_reducible refine drw ?_ _) | (with_reducible refine Below.alloc ?_ ?_ _) | (with_reducible refine Below.setCell ?_ ?_ _) | (with_reducible exact Nat.le_refl _) | (simp; done) | (simp; omega)))⟩

theorem refRight_no2 (l c0 c1 c2 c3 : Int) (b0 : 0 ≤ c0) (g0 : c0 < 4294967296) (b1 : 0 ≤ c1) (g1 : c1 < 4294967296) (b2 : 0 ≤ c2) (g2 : c2 < 4294967296) (b3 : 0 ≤ c3) (g3 : c3 < 4294967296) (h0 : c0 ≤ 3) (h1 : c1 ≤ 3) (h : 3 < c2) (w : World) :
    Calls Try.prog 31 #[.agg #[.int .u32 l, .int .u32 c0, .int .u32 c1, .int .u32 c2, .int .u32 c3]] w fun e w' => e = .returned (.bool false) ∧ Below w.heap.size w w' := by
  go_enter Try.func31, Try.ntmps31
  go_wp2
  go_rounds 3
  go_returns
  exact ⟨rfl, by (repeat' (first | (with_reducible exact Below.refl _ _) | (with_reducible assumption) | (with_reducible refine drw ?_ _) | (with_reducible refine Below.alloc ?_ ?_ _) | (with_reducible refine Below.setCell ?_ ?_ _) | (with_reducible exact Nat.le_refl _) | (simp; done) | (simp; omega)))⟩

theorem refRight_no3 (l c0 c1 c2 c3 : Int) (b0 : 0 ≤ c0) (g0 : c0 < 4294967296) (b1 : 0 ≤ c1) (g1 : c1 < 4294967296) (b2 : 0 ≤ c2) (g2 : c2 < 4294967296) (b3 : 0 ≤ c3) (g3 : c3 < 4294967296) (h0 : c0 ≤ 3) (h1 : c1 ≤ 3) (h2 : c2 ≤ 3) (h : 3 < c3) (w : World) :
    Calls Try.prog 31 #[.agg #[.int .u32 l, .int .u32 c0, .int .u32 c1, .int .u32 c2, .int .u32 c3]] w fun e w' => e = .returned (.bool false) ∧ Below w.heap.size w w' := by
  go_enter Try.func31, Try.ntmps31
  go_wp2
  go_rounds 4
  go_returns
  exact ⟨rfl, by (repeat' (first | (with_reducible exact Below.refl _ _) | (with_reducible assumption) | (with_reducible refine drw ?_ _) | (with_reducible refine Below.alloc ?_ ?_ _) | (with_reducible refine Below.setCell ?_ ?_ _) | (with_reducible exact Nat.le_refl _) | (simp; done) | (simp; omega)))⟩

theorem refRight_yes0 (l c0 c1 c2 c3 : Int) (l0 : 0 ≤ l) (l1 : l < 4294967296) (b0 : 0 ≤ c0) (g0 : c0 < 4294967296) (b1 : 0 ≤ c1) (g1 : c1 < 4294967296) (b2 : 0 ≤ c2) (g2 : c2 < 4294967296) (b3 : 0 ≤ c3) (g3 : c3 < 4294967296) (h0 : c0 ≤ 3) (h1 : c1 ≤ 3) (h2 : c2 ≤ 3) (h3 : c3 ≤ 3) (hr : l % 4 = 0) (h : 1 ≤ c0) (w : World) :
    Calls Try.prog 31 #[.agg #[.int .u32 l, .int .u32 c0, .int .u32 c1, .int .u32 c2, .int .u32 c3]] w fun e w' => e = .returned (.bool true) ∧ Below w.heap.size w w' := by
  go_enter Try.func31, Try.ntmps31
  go_wp2
  go_rounds 5
  go_returns
  exact ⟨ret_bool (by first | (simp; done) | (simp; omega)), by (repeat' (first | (with_reducible exact Below.refl _ _) | (with_reducible assumption) | (with_reducible refine drw ?_ _) | (with_reducible refine Below.alloc ?_ ?_ _) | (with_reducible refine Below.setCell ?_ ?_ _) | (with_reducible exact Nat.le_refl _) | (simp; done) | (simp; omega)))⟩

theorem refRight_not0 (l c0 c1 c2 c3 : Int) (l0 : 0 ≤ l) (l1 : l < 4294967296) (b0 : 0 ≤ c0) (g0 : c0 < 4294967296) (b1 : 0 ≤ c1) (g1 : c1 < 4294967296) (b2 : 0 ≤ c2) (g2 : c2 < 4294967296) (b3 : 0 ≤ c3) (g3 : c3 < 4294967296) (h0 : c0 ≤ 3) (h1 : c1 ≤ 3) (h2 : c2 ≤ 3) (h3 : c3 ≤ 3) (hr : l % 4 = 0) (h : c0 < 1) (w : World) :
    Calls Try.prog 31 #[.agg #[.int .u32 l, .int .u32 c0, .int .u32 c1, .int .u32 c2, .int .u32 c3]] w fun e w' => e = .returned (.bool false) ∧ Below w.heap.size w w' := by
  go_enter Try.func31, Try.ntmps31
  go_wp2
  go_rounds 5
  go_returns
  exact ⟨ret_bool (by first | (simp; done) | (simp; omega)), by (repeat' (first | (with_reducible exact Below.refl _ _) | (with_reducible assumption) | (with_reducible refine drw ?_ _) | (with_reducible refine Below.alloc ?_ ?_ _) | (with_reducible refine Below.setCell ?_ ?_ _) | (with_reducible exact Nat.le_refl _) | (simp; done) | (simp; omega)))⟩

theorem refRight_yes1 (l c0 c1 c2 c3 : Int) (l0 : 0 ≤ l) (l1 : l < 4294967296) (b0 : 0 ≤ c0) (g0 : c0 < 4294967296) (b1 : 0 ≤ c1) (g1 : c1 < 4294967296) (b2 : 0 ≤ c2) (g2 : c2 < 4294967296) (b3 : 0 ≤ c3) (g3 : c3 < 4294967296) (h0 : c0 ≤ 3) (h1 : c1 ≤ 3) (h2 : c2 ≤ 3) (h3 : c3 ≤ 3) (hr : l % 4 = 1) (h : 1 ≤ c1) (w : World) :
    Calls Try.prog 31 #[.agg #[.int .u32 l, .int .u32 c0, .int .u32 c1, .int .u32 c2, .int .u32 c3]] w fun e w' => e = .returned (.bool true) ∧ Below w.heap.size w w' := by
  go_enter Try.func31, Try.ntmps31
  go_wp2
  go_rounds 5
  go_returns
  exact ⟨ret_bool (by first | (simp; done) | (simp; omega)), by (repeat' (first | (with_reducible exact Below.refl _ _) | (with_reducible assumption) | (with_reducible refine drw ?_ _) | (with_reducible refine Below.alloc ?_ ?_ _) | (with_reducible refine Below.setCell ?_ ?_ _) | (with_reducible exact Nat.le_refl _) | (simp; done) | (simp; omega)))⟩

theorem refRight_not1 (l c0 c1 c2 c3 : Int) (l0 : 0 ≤ l) (l1 : l < 4294967296) (b0 : 0 ≤ c0) (g0 : c0 < 4294967296) (b1 : 0 ≤ c1) (g1 : c1 < 4294967296) (b2 : 0 ≤ c2) (g2 : c2 < 4294967296) (b3 : 0 ≤ c3) (g3 : c3 < 4294967296) (h0 : c0 ≤ 3) (h1 : c1 ≤ 3) (h2 : c2 ≤ 3) (h3 : c3 ≤ 3) (hr : l % 4 = 1) (h : c1 < 1) (w : World) :
    Calls Try.prog 31 #[.agg #[.int .u32 l, .int .u32 c0, .int .u32 c1, .int .u32 c2, .int .u32 c3]] w fun e w' => e = .returned (.bool false) ∧ Below w.heap.size w w' := by
  go_enter Try.func31, Try.ntmps31
  go_wp2
  go_rounds 5
  go_returns
  exact ⟨ret_bool (by first | (simp; done) | (simp; omega)), by (repeat' (first | (with_reducible exact Below.refl _ _) | (with_reducible assumption) | (with_reducible refine drw ?_ _) | (with_reducible refine Below.alloc ?_ ?_ _) | (with_reducible refine Below.setCell ?_ ?_ _) | (with_reducible exact Nat.le_refl _) | (simp; done) | (simp; omega)))⟩

theorem refRight_yes2 (l c0 c1 c2 c3 : Int) (l0 : 0 ≤ l) (l1 : l < 4294967296) (b0 : 0 ≤ c0) (g0 : c0 < 4294967296) (b1 : 0 ≤ c1) (g1 : c1 < 4294967296) (b2 : 0 ≤ c2) (g2 : c2 < 4294967296) (b3 : 0 ≤ c3) (g3 : c3 < 4294967296) (h0 : c0 ≤ 3) (h1 : c1 ≤ 3) (h2 : c2 ≤ 3) (h3 : c3 ≤ 3) (hr : l % 4 = 2) (h : 1 ≤ c2) (w : World) :
    Calls Try.prog 31 #[.agg #[.int .u32 l, .int .u32 c0, .int .u32 c1, .int .u32 c2, .int .u32 c3]] w fun e w' => e = .returned (.bool true) ∧ Below w.heap.size w w' := by
  go_enter Try.func31, Try.ntmps31
  go_wp2
  go_rounds 5
  go_returns
  exact ⟨ret_bool (by first | (simp; done) | (simp; omega)), by (repeat' (first | (with_reducible exact Below.refl _ _) | (with_reducible assumption) | (with_reducible refine drw ?_ _) | (with_reducible refine Below.alloc ?_ ?_ _) | (with_reducible refine Below.setCell ?_ ?_ _) | (with_reducible exact Nat.le_refl _) | (simp; done) | (simp; omega)))⟩

theorem refRight_not2 (l c0 c1 c2 c3 : Int) (l0 : 0 ≤ l) (l1 : l < 4294967296) (b0 : 0 ≤ c0) (g0 : c0 < 4294967296) (b1 : 0 ≤ c1) (g1 : c1 < 4294967296) (b2 : 0 ≤ c2) (g2 : c2 < 4294967296) (b3 : 0 ≤ c3) (g3 : c3 < 4294967296) (h0 : c0 ≤ 3) (h1 : c1 ≤ 3) (h2 : c2 ≤ 3) (h3 : c3 ≤ 3) (hr : l % 4 = 2) (h : c2 < 1) (w : World) :
    Calls Try.prog 31 #[.agg #[.int .u32 l, .int .u32 c0, .int .u32 c1, .int .u32 c2, .int .u32 c3]] w fun e w' => e = .returned (.bool false) ∧ Below w.heap.size w w' := by
  go_enter Try.func31, Try.ntmps31
  go_wp2
  go_rounds 5
  go_returns
  exact ⟨ret_bool (by first | (simp; done) | (simp; omega)), by (repeat' (first | (with_reducible exact Below.refl _ _) | (with_reducible assumption) | (with_reducible refine drw ?_ _) | (with_reducible refine Below.alloc ?_ ?_ _) | (with_reducible refine Below.setCell ?_ ?_ _) | (with_reducible exact Nat.le_refl _) | (simp; done) | (simp; omega)))⟩

theorem refRight_yes3 (l c0 c1 c2 c3 : Int) (l0 : 0 ≤ l) (l1 : l < 4294967296) (b0 : 0 ≤ c0) (g0 : c0 < 4294967296) (b1 : 0 ≤ c1) (g1 : c1 < 4294967296) (b2 : 0 ≤ c2) (g2 : c2 < 4294967296) (b3 : 0 ≤ c3) (g3 : c3 < 4294967296) (h0 : c0 ≤ 3) (h1 : c1 ≤ 3) (h2 : c2 ≤ 3) (h3 : c3 ≤ 3) (hr : l % 4 = 3) (h : 1 ≤ c3) (w : World) :
    Calls Try.prog 31 #[.agg #[.int .u32 l, .int .u32 c0, .int .u32 c1, .int .u32 c2, .int .u32 c3]] w fun e w' => e = .returned (.bool true) ∧ Below w.heap.size w w' := by
  go_enter Try.func31, Try.ntmps31
  go_wp2
  go_rounds 5
  go_returns
  exact ⟨ret_bool (by first | (simp; done) | (simp; omega)), by (repeat' (first | (with_reducible exact Below.refl _ _) | (with_reducible assumption) | (with_reducible refine drw ?_ _) | (with_reducible refine Below.alloc ?_ ?_ _) | (with_reducible refine Below.setCell ?_ ?_ _) | (with_reducible exact Nat.le_refl _) | (simp; done) | (simp; omega)))⟩

theorem refRight_not3 (l c0 c1 c2 c3 : Int) (l0 : 0 ≤ l) (l1 : l < 4294967296) (b0 : 0 ≤ c0) (g0 : c0 < 4294967296) (b1 : 0 ≤ c1) (g1 : c1 < 4294967296) (b2 : 0 ≤ c2) (g2 : c2 < 4294967296) (b3 : 0 ≤ c3) (g3 : c3 < 4294967296) (h0 : c0 ≤ 3) (h1 : c1 ≤ 3) (h2 : c2 ≤ 3) (h3 : c3 ≤ 3) (hr : l % 4 = 3) (h : c3 < 1) (w : World) :
    Calls Try.prog 31 #[.agg #[.int .u32 l, .int .u32 c0, .int .u32 c1, .int .u32 c2, .int .u32 c3]] w fun e w' => e = .returned (.bool false) ∧ Below w.heap.size w w' := by
  go_enter Try.func31, Try.ntmps31
  go_wp2
  go_rounds 5
  go_returns
  exact ⟨ret_bool (by first | (simp; done) | (simp; omega)), by (repeat' (first | (with_reducible exact Below.refl _ _) | (with_reducible assumption) | (with_reducible refine drw ?_ _) | (with_reducible refine Below.alloc ?_ ?_ _) | (with_reducible refine Below.setCell ?_ ?_ _) | (with_reducible exact Nat.le_refl _) | (simp; done) | (simp; omega)))⟩

theorem refRight_c (l c0 c1 c2 c3 : Int) (l0 : 0 ≤ l) (l1 : l < 4294967296) (b0 : 0 ≤ c0) (g0 : c0 < 4294967296) (b1 : 0 ≤ c1) (g1 : c1 < 4294967296) (b2 : 0 ≤ c2) (g2 : c2 < 4294967296) (b3 : 0 ≤ c3) (g3 : c3 < 4294967296) (w : World) :
    Calls Try.prog 31 #[.agg #[.int .u32 l, .int .u32 c0, .int .u32 c1, .int .u32 c2, .int .u32 c3]] w fun e w' => e = .returned (.bool (rightB l c0 c1 c2 c3)) ∧ Below w.heap.size w w' := by
  by_cases h0 : c0 ≤ 3
  · by_cases h1 : c1 ≤ 3
    · by_cases h2 : c2 ≤ 3
      · by_cases h3 : c3 ≤ 3
        · have hr : l % 4 = 0 ∨ l % 4 = 1 ∨ l % 4 = 2 ∨ l % 4 = 3 := by omega
          rcases hr with hr | hr | hr | hr
          · by_cases h : 1 ≤ c0
            · rw [show rightB l c0 c1 c2 c3 = true from by unfold rightB pick; rw [decide_eq_true_iff]; omega]
              exact refRight_yes0 l c0 c1 c2 c3 l0 l1 b0 g0 b1 g1 b2 g2 b3 g3 h0 h1 h2 h3 hr h w
            · rw [show rightB l c0 c1 c2 c3 = false from by unfold rightB pick; rw [decide_eq_false_iff_not]; omega]
              exact refRight_not0 l c0 c1 c2 c3 l0 l1 b0 g0 b1 g1 b2 g2 b3 g3 h0 h1 h2 h3 hr (by omega) w
          · by_cases h : 1 ≤ c1
            · rw [show rightB l c0 c1 c2 c3 = true from by unfold rightB pick; rw [decide_eq_true_iff]; omega]
              exact refRight_yes1 l c0 c1 c2 c3 l0 l1 b0 g0 b1 g1 b2 g2 b3 g3 h0 h1 h2 h3 hr h w
            · rw [show rightB l c0 c1 c2 c3 = false from by unfold rightB pick; rw [decide_eq_false_iff_not]; omega]
              exact refRight_not1 l c0 c1 c2 c3 l0 l1 b0 g0 b1 g1 b2 g2 b3 g3 h0 h1 h2 h3 hr (by omega) w
          · by_cases h : 1 ≤ c2
            · rw [show rightB l c0 c1 c2 c3 = true from by unfold rightB pick; rw [decide_eq_true_iff]; omega]
              exact refRight_yes2 l c0 c1 c2 c3 l0 l1 b0 g0 b1 g1 b2 g2 b3 g3 h0 h1 h2 h3 hr h w
            · rw [show rightB l c0 c1 c2 c3 = false from by unfold rightB pick; rw [decide_eq_false_iff_not]; omega]
              exact refRight_not2 l c0 c1 c2 c3 l0 l1 b0 g0 b1 g1 b2 g2 b3 g3 h0 h1 h2 h3 hr (by omega) w
          · by_cases h : 1 ≤ c3
            · rw [show rightB l c0 c1 c2 c3 = true from by unfold rightB pick; rw [decide_eq_true_iff]; omega]
              exact refRight_yes3 l c0 c1 c2 c3 l0 l1 b0 g0 b1 g1 b2 g2 b3 g3 h0 h1 h2 h3 hr h w
            · rw [show rightB l c0 c1 c2 c3 = false from by unfold rightB pick; rw [decide_eq_false_iff_not]; omega]
              exact refRight_not3 l c0 c1 c2 c3 l0 l1 b0 g0 b1 g1 b2 g2 b3 g3 h0 h1 h2 h3 hr (by omega) w
        · rw [show rightB l c0 c1 c2 c3 = false from by unfold rightB; rw [decide_eq_false_iff_not]; omega]
          exact refRight_no3 l c0 c1 c2 c3 b0 g0 b1 g1 b2 g2 b3 g3 h0 h1 h2 (by omega) w
      · rw [show rightB l c0 c1 c2 c3 = false from by unfold rightB; rw [decide_eq_false_iff_not]; omega]
        exact refRight_no2 l c0 c1 c2 c3 b0 g0 b1 g1 b2 g2 b3 g3 h0 h1 (by omega) w
    · rw [show rightB l c0 c1 c2 c3 = false from by unfold rightB; rw [decide_eq_false_iff_not]; omega]
      exact refRight_no1 l c0 c1 c2 c3 b0 g0 b1 g1 b2 g2 b3 g3 h0 (by omega) w
  · rw [show rightB l c0 c1 c2 c3 = false from by unfold rightB; rw [decide_eq_false_iff_not]; omega]
    exact refRight_no0 l c0 c1 c2 c3 b0 g0 b1 g1 b2 g2 b3 g3  (by omega) w

theorem tmod4 (x : Int) : ∃ y, x.tmod 4 = y ∧ -4 < y ∧ y < 4 ∧ y % 4 = x % 4 := by
  refine ⟨_, rfl, ?_⟩
  rcases Int.lt_or_le x 0 with h | h
  · obtain ⟨c, rfl⟩ : ∃ c, x = -c := ⟨-x, by omega⟩
    rw [Int.neg_tmod, Int.tmod_eq_emod_of_nonneg (by omega : 0 ≤ c)]
    omega
  · rw [Int.tmod_eq_emod_of_nonneg h]; omega

/-- The latest sub-window of a ring place that isn't behind Last. -/
theorem of_c (l c0 c1 c2 c3 p : Int) (l0 : 0 ≤ l) (l1 : l < 4294967296) (p0 : 0 ≤ p) (p1 : p < 4) (w : World) :
    Calls Try.prog 60 #[.agg #[.int .u32 l, .int .u32 c0, .int .u32 c1, .int .u32 c2, .int .u32 c3], .int .i64 p] w fun e w' => e = .returned (.int .i64 (l - (l - p) % 4)) ∧ Below w.heap.size w w' := by
  go_enter Try.func60, Try.ntmps60
  go_wp2
  go_loopw [5] (fun g wr => ∃ (j : Nat), (j : Int) ≤ (l - p) % 4 ∧ g = .int .i64 (l - j) ∧ Below w.heap.size w wr) (fun g _ => (intOf g - (l - (l - p) % 4)).toNat)
  case atStart => exact ⟨0, by omega, by simp, by (repeat' (first | (with_reducible exact Below.refl _ _) | (with_reducible assumption) | (with_reducible refine drw ?_ _) | (with_reducible refine Below.alloc ?_ ?_ _) | (with_reducible refine Below.setCell ?_ ?_ _) | (with_reducible exact Nat.le_refl _) | (simp; done) | (simp; omega)))⟩
  case round =>
    obtain ⟨j, hj, rfl, hbw⟩ := hrel
    obtain ⟨y, hy, hy0, hy1, hy2⟩ := tmod4 (l - j)
    by_cases hlt : (j : Int) < (l - p) % 4
    · have ht : ((y + 4) % 4 != p) = true := by rw [bne_iff_ne]; omega
      go_wp2
      go_roundw
      case rel => exact ⟨j + 1, by omega, by go_num, hbw⟩
      case measure => simp [intOf]; omega
    · have ht : ((y + 4) % 4 != p) = false := by rw [bne_eq_false_iff_eq]; omega
      go_wp2
      go_returns
      exact ⟨ret_int (by omega), hbw⟩
end Go.Proofs.Ytaoelppkognakaa.RefRing
