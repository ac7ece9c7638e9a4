/- Contracts of package ring's functions: the first ring, whether a ring is right, its sum, a window ahead; at every ring. -/
import Derived.Test.YtaoelppkognakaaPassed
import Derived.Test.YtaoelppkognakaaRingEq
namespace Go.Proofs.Ytaoelppkognakaa.Ring
open Go.RowKit Go.Proofs.Ytaoelppkognakaa.Num Go.Proofs.Ytaoelppkognakaa.Slot
set_option linter.unusedVariables false
set_option maxRecDepth 100000

theorem genesis_c (w : World) : Calls Try.prog 32 #[] w fun e w' => e = .returned (.agg #[.int .u32 0, .int .u32 1, .int .u32 3, .int .u32 3, .int .u32 3]) ∧ Below w.heap.size w w' := by
  go_enter Try.func32, Try.ntmps32
  go_wp2
  go_rounds 5
  go_returns
  exact ⟨rfl, by (repeat' (first | (with_reducible exact Below.refl _ _) | (with_reducible assumption) | (with_reducible refine drw ?_ _) | (with_reducible refine Below.alloc ?_ ?_ _) | (with_reducible refine Below.setCell ?_ ?_ _) | (with_reducible exact Nat.le_refl _) | (simp; done) | (simp; omega)))⟩

theorem sum_c (l c0 c1 c2 c3 : Int) (b0 : 0 ≤ c0) (g0 : c0 < 4294967296) (b1 : 0 ≤ c1) (g1 : c1 < 4294967296) (b2 : 0 ≤ c2) (g2 : c2 < 4294967296) (b3 : 0 ≤ c3) (g3 : c3 < 4294967296) (hs : c0 + c1 + c2 + c3 < 4294967296) (w : World) :
    Calls Try.prog 38 #[.agg #[.int .u32 l, .int .u32 c0, .int .u32 c1, .int .u32 c2, .int .u32 c3]] w fun e w' => e = .returned (.int .u32 (c0 + c1 + c2 + c3)) ∧ Below w.heap.size w w' := by
  have i0 : ∀ w, (Instr.index 33 (.agg #[.int .u32 c0, .int .u32 c1, .int .u32 c2, .int .u32 c3]) (.int .i64 0)).run Try.prog w = .ok (.int .u32 c0) w := fun _ => by kernel_rfl
  have i1 : ∀ w, (Instr.index 33 (.agg #[.int .u32 c0, .int .u32 c1, .int .u32 c2, .int .u32 c3]) (.int .i64 1)).run Try.prog w = .ok (.int .u32 c1) w := fun _ => by kernel_rfl
  have i2 : ∀ w, (Instr.index 33 (.agg #[.int .u32 c0, .int .u32 c1, .int .u32 c2, .int .u32 c3]) (.int .i64 2)).run Try.prog w = .ok (.int .u32 c2) w := fun _ => by kernel_rfl
  have i3 : ∀ w, (Instr.index 33 (.agg #[.int .u32 c0, .int .u32 c1, .int .u32 c2, .int .u32 c3]) (.int .i64 3)).run Try.prog w = .ok (.int .u32 c3) w := fun _ => by kernel_rfl
  go_enter Try.func38, Try.ntmps38
  go_wp2
  go_rounds 5
  go_returns
  exact ⟨rfl, by (repeat' (first | (with_reducible exact Below.refl _ _) | (with_reducible assumption) | (with_reducible refine drw ?_ _) | (with_reducible refine Below.alloc ?_ ?_ _) | (with_reducible refine Below.setCell ?_ ?_ _) | (with_reducible exact Nat.le_refl _) | (simp; done) | (simp; omega)))⟩

/-- The count at the place of a sub-window. -/
def pick (l c0 c1 c2 c3 : Int) : Int := if l % 4 = 0 then c0 else if l % 4 = 1 then c1 else if l % 4 = 2 then c2 else c3
/-- Whether a ring may be. -/
def rightB (l c0 c1 c2 c3 : Int) : Bool := decide (c0 ≤ 3 ∧ c1 ≤ 3 ∧ c2 ≤ 3 ∧ c3 ≤ 3 ∧ 1 ≤ pick l c0 c1 c2 c3)

theorem right_no0 (l c0 c1 c2 c3 : Int) (b0 : 0 ≤ c0) (g0 : c0 < 4294967296) (b1 : 0 ≤ c1) (g1 : c1 < 4294967296) (b2 : 0 ≤ c2) (g2 : c2 < 4294967296) (b3 : 0 ≤ c3) (g3 : c3 < 4294967296)  (h : 3 < c0) (w : World) :
    Calls Try.prog 30 #[.agg #[.int .u32 l, .int .u32 c0, .int .u32 c1, .int .u32 c2, .int .u32 c3]] w fun e w' => e = .returned (.bool false) ∧ Below w.heap.size w w' := by
  have i0 : ∀ w, (Instr.index 33 (.agg #[.int .u32 c0, .int .u32 c1, .int .u32 c2, .int .u32 c3]) (.int .i64 0)).run Try.prog w = .ok (.int .u32 c0) w := fun _ => by kernel_rfl
  have i1 : ∀ w, (Instr.index 33 (.agg #[.int .u32 c0, .int .u32 c1, .int .u32 c2, .int .u32 c3]) (.int .i64 1)).run Try.prog w = .ok (.int .u32 c1) w := fun _ => by kernel_rfl
  have i2 : ∀ w, (Instr.index 33 (.agg #[.int .u32 c0, .int .u32 c1, .int .u32 c2, .int .u32 c3]) (.int .i64 2)).run Try.prog w = .ok (.int .u32 c2) w := fun _ => by kernel_rfl
  have i3 : ∀ w, (Instr.index 33 (.agg #[.int .u32 c0, .int .u32 c1, .int .u32 c2, .int .u32 c3]) (.int .i64 3)).run Try.prog w = .ok (.int .u32 c3) w := fun _ => by kernel_rfl
  go_enter Try.func30, Try.ntmps30
  go_wp2
  go_rounds 1
  go_returns
  exact ⟨rfl, by (repeat' (first | (with_reducible exact Below.refl _ _) | (with_reducible assumption) | (with_reducible refine drw ?_ _) | (with_reducible refine Below.alloc ?_ ?_ _) | (with_reducible refine Below.setCell ?_ ?_ _) | (with_reducible exact Nat.le_refl _) | (simp; done) | (simp; omega)))⟩

theorem right_no1 (l c0 c1 c2 c3 : Int) (b0 : 0 ≤ c0) (g0 : c0 < 4294967296) (b1 : 0 ≤ c1) (g1 : c1 < 4294967296) (b2 : 0 ≤ c2) (g2 : c2 < 4294967296) (b3 : 0 ≤ c3) (g3 : c3 < 4294967296) (h0 : c0 ≤ 3) (h : 3 < c1) (w : World) :
    Calls Try.prog 30 #[.agg #[.int .u32 l, .int .u32 c0, .int .u32 c1, .int .u32 c2, .int .u32 c3]] w fun e w' => e = .returned (.bool false) ∧ Below w.heap.size w w' := by
  have i0 : ∀ w, (Instr.index 33 (.agg #[.int .u32 c0, .int .u32 c1, .int .u32 c2, .int .u32 c3]) (.int .i64 0)).run Try.prog w = .ok (.int .u32 c0) w := fun _ => by kernel_rfl
  have i1 : ∀ w, (Instr.index 33 (.agg #[.int .u32 c0, .int .u32 c1, .int .u32 c2, .int .u32 c3]) (.int .i64 1)).run Try.prog w = .ok (.int .u32 c1) w := fun _ => by kernel_rfl
  have i2 : ∀ w, (Instr.index 33 (.agg #[.int .u32 c0, .int .u32 c1, .int .u32 c2, .int .u32 c3]) (.int .i64 2)).run Try.prog w = .ok (.int .u32 c2) w := fun _ => by kernel_rfl
  have i3 : ∀ w, (Instr.index 33 (.agg #[.int .u32 c0, .int .u32 c1, .int .u32 c2, .int .u32 c3]) (.int .i64 3)).run Try.prog w = .ok (.int .u32 c3) w := fun _ => by kernel_rfl
  go_enter Try.func30, Try.ntmps30
  go_wp2
  go_rounds 2
  go_returns
  exact ⟨rfl, by (repeat' (first | (with_reducible exact Below.refl _ _) | (with_reducible assumption) | (with_reducible refine drw ?_ _) | (with_reducible refine Below.alloc ?_ ?_ _) | (with_reducible refine Below.setCell ?_ ?_ _) | (with_reducible exact Nat.le_refl _) | (simp; done) | (simp; omega)))⟩

theorem right_no2 (l c0 c1 c2 c3 : Int) (b0 : 0 ≤ c0) (g0 : c0 < 4294967296) (b1 : 0 ≤ c1) (g1 : c1 < 4294967296) (b2 : 0 ≤ c2) (g2 : c2 < 4294967296) (b3 : 0 ≤ c3) (g3 : c3 < 4294967296) (h0 : c0 ≤ 3) (h1 : c1 ≤ 3) (h : 3 < c2) (w : World) :
    Calls Try.prog 30 #[.agg #[.int .u32 l, .int .u32 c0, .int .u32 c1, .int .u32 c2, .int .u32 c3]] w fun e w' => e = .returned (.bool false) ∧ Below w.heap.size w w' := by
  have i0 : ∀ w, (Instr.index 33 (.agg #[.int .u32 c0, .int .u32 c1, .int .u32 c2, .int .u32 c3]) (.int .i64 0)).run Try.prog w = .ok (.int .u32 c0) w := fun _ => by kernel_rfl
  have i1 : ∀ w, (Instr.index 33 (.agg #[.int .u32 c0, .int .u32 c1, .int .u32 c2, .int .u32 c3]) (.int .i64 1)).run Try.prog w = .ok (.int .u32 c1) w := fun _ => by kernel_rfl
  have i2 : ∀ w, (Instr.index 33 (.agg #[.int .u32 c0, .int .u32 c1, .int .u32 c2, .int .u32 c3]) (.int .i64 2)).run Try.prog w = .ok (.int .u32 c2) w := fun _ => by kernel_rfl
  have i3 : ∀ w, (Instr.index 33 (.agg #[.int .u32 c0, .int .u32 c1, .int .u32 c2, .int .u32 c3]) (.int .i64 3)).run Try.prog w = .ok (.int .u32 c3) w := fun _ => by kernel_rfl
  go_enter Try.func30, Try.ntmps30
  go_wp2
  go_rounds 3
  go_returns
  exact ⟨rfl, by (repeat' (first | (with_reducible exact Below.refl _ _) | (with_reducible assumption) | (with_reducible refine drw ?_ _) | (with_reducible refine Below.alloc ?_ ?_ _) | (with_reducible refine Below.setCell ?_ ?_ _) | (with_reducible exact Nat.le_refl _) | (simp; done) | (simp; omega)))⟩

theorem right_no3 (l c0 c1 c2 c3 : Int) (b0 : 0 ≤ c0) (g0 : c0 < 4294967296) (b1 : 0 ≤ c1) (g1 : c1 < 4294967296) (b2 : 0 ≤ c2) (g2 : c2 < 4294967296) (b3 : 0 ≤ c3) (g3 : c3 < 4294967296) (h0 : c0 ≤ 3) (h1 : c1 ≤ 3) (h2 : c2 ≤ 3) (h : 3 < c3) (w : World) :
    Calls Try.prog 30 #[.agg #[.int .u32 l, .int .u32 c0, .int .u32 c1, .int .u32 c2, .int .u32 c3]] w fun e w' => e = .returned (.bool false) ∧ Below w.heap.size w w' := by
  have i0 : ∀ w, (Instr.index 33 (.agg #[.int .u32 c0, .int .u32 c1, .int .u32 c2, .int .u32 c3]) (.int .i64 0)).run Try.prog w = .ok (.int .u32 c0) w := fun _ => by kernel_rfl
  have i1 : ∀ w, (Instr.index 33 (.agg #[.int .u32 c0, .int .u32 c1, .int .u32 c2, .int .u32 c3]) (.int .i64 1)).run Try.prog w = .ok (.int .u32 c1) w := fun _ => by kernel_rfl
  have i2 : ∀ w, (Instr.index 33 (.agg #[.int .u32 c0, .int .u32 c1, .int .u32 c2, .int .u32 c3]) (.int .i64 2)).run Try.prog w = .ok (.int .u32 c2) w := fun _ => by kernel_rfl
  have i3 : ∀ w, (Instr.index 33 (.agg #[.int .u32 c0, .int .u32 c1, .int .u32 c2, .int .u32 c3]) (.int .i64 3)).run Try.prog w = .ok (.int .u32 c3) w := fun _ => by kernel_rfl
  go_enter Try.func30, Try.ntmps30
  go_wp2
  go_rounds 4
  go_returns
  exact ⟨rfl, by (repeat' (first | (with_reducible exact Below.refl _ _) | (with_reducible assumption) | (with_reducible refine drw ?_ _) | (with_reducible refine Below.alloc ?_ ?_ _) | (with_reducible refine Below.setCell ?_ ?_ _) | (with_reducible exact Nat.le_refl _) | (simp; done) | (simp; omega)))⟩

theorem right_yes0 (l c0 c1 c2 c3 : Int) (l0 : 0 ≤ l) (l1 : l < 4294967296) (b0 : 0 ≤ c0) (g0 : c0 < 4294967296) (b1 : 0 ≤ c1) (g1 : c1 < 4294967296) (b2 : 0 ≤ c2) (g2 : c2 < 4294967296) (b3 : 0 ≤ c3) (g3 : c3 < 4294967296) (h0 : c0 ≤ 3) (h1 : c1 ≤ 3) (h2 : c2 ≤ 3) (h3 : c3 ≤ 3) (hr : l % 4 = 0) (h : 0 < c0) (w : World) :
    Calls Try.prog 30 #[.agg #[.int .u32 l, .int .u32 c0, .int .u32 c1, .int .u32 c2, .int .u32 c3]] w fun e w' => e = .returned (.bool true) ∧ Below w.heap.size w w' := by
  have i0 : ∀ w, (Instr.index 33 (.agg #[.int .u32 c0, .int .u32 c1, .int .u32 c2, .int .u32 c3]) (.int .i64 0)).run Try.prog w = .ok (.int .u32 c0) w := fun _ => by kernel_rfl
  have i1 : ∀ w, (Instr.index 33 (.agg #[.int .u32 c0, .int .u32 c1, .int .u32 c2, .int .u32 c3]) (.int .i64 1)).run Try.prog w = .ok (.int .u32 c1) w := fun _ => by kernel_rfl
  have i2 : ∀ w, (Instr.index 33 (.agg #[.int .u32 c0, .int .u32 c1, .int .u32 c2, .int .u32 c3]) (.int .i64 2)).run Try.prog w = .ok (.int .u32 c2) w := fun _ => by kernel_rfl
  have i3 : ∀ w, (Instr.index 33 (.agg #[.int .u32 c0, .int .u32 c1, .int .u32 c2, .int .u32 c3]) (.int .i64 3)).run Try.prog w = .ok (.int .u32 c3) w := fun _ => by kernel_rfl
  have hq : ∀ w, (binOp .neq 35 (.agg #[.int .u32 l, .int .u32 c0, .int .u32 c1, .int .u32 c2, .int .u32 c3]) (.agg #[.int .u32 l, .int .u32 0, .int .u32 0, .int .u32 0, .int .u32 0])).run Try.prog w = .ok (.bool true) w := fun w => by
    rw [neq_ring, show same5 l c0 c1 c2 c3 l 0 0 0 0 = false from by unfold same5 same4; simp; omega]
    rfl
  go_enter Try.func30, Try.ntmps30
  go_wp2
  refine wp_loop_rounds 5 ?_
  iterate 4 (rw [rounds_succ]; go_wp2)
  rw [rounds_succ]
  go_wp2_with (go_at_call 26; refine (ring_c _ (by omega) (by omega) _).mono ?_; rintro e w' ⟨rfl, k, rfl⟩)
  go_returns
  exact ⟨rfl, by (repeat' (first | (with_reducible exact Below.refl _ _) | (with_reducible assumption) | (with_reducible refine drw ?_ _) | (with_reducible refine Below.alloc ?_ ?_ _) | (with_reducible refine Below.setCell ?_ ?_ _) | (with_reducible exact Nat.le_refl _) | (simp; done) | (simp; omega)))⟩

theorem right_not0 (l c0 c1 c2 c3 : Int) (l0 : 0 ≤ l) (l1 : l < 4294967296) (b0 : 0 ≤ c0) (g0 : c0 < 4294967296) (b1 : 0 ≤ c1) (g1 : c1 < 4294967296) (b2 : 0 ≤ c2) (g2 : c2 < 4294967296) (b3 : 0 ≤ c3) (g3 : c3 < 4294967296) (h0 : c0 ≤ 3) (h1 : c1 ≤ 3) (h2 : c2 ≤ 3) (h3 : c3 ≤ 3) (hr : l % 4 = 0) (h : c0 = 0) (hn : same5 l c0 c1 c2 c3 l 0 0 0 0 = false) (w : World) :
    Calls Try.prog 30 #[.agg #[.int .u32 l, .int .u32 c0, .int .u32 c1, .int .u32 c2, .int .u32 c3]] w fun e w' => e = .returned (.bool false) ∧ Below w.heap.size w w' := by
  have i0 : ∀ w, (Instr.index 33 (.agg #[.int .u32 c0, .int .u32 c1, .int .u32 c2, .int .u32 c3]) (.int .i64 0)).run Try.prog w = .ok (.int .u32 c0) w := fun _ => by kernel_rfl
  have i1 : ∀ w, (Instr.index 33 (.agg #[.int .u32 c0, .int .u32 c1, .int .u32 c2, .int .u32 c3]) (.int .i64 1)).run Try.prog w = .ok (.int .u32 c1) w := fun _ => by kernel_rfl
  have i2 : ∀ w, (Instr.index 33 (.agg #[.int .u32 c0, .int .u32 c1, .int .u32 c2, .int .u32 c3]) (.int .i64 2)).run Try.prog w = .ok (.int .u32 c2) w := fun _ => by kernel_rfl
  have i3 : ∀ w, (Instr.index 33 (.agg #[.int .u32 c0, .int .u32 c1, .int .u32 c2, .int .u32 c3]) (.int .i64 3)).run Try.prog w = .ok (.int .u32 c3) w := fun _ => by kernel_rfl
  have hq : ∀ w, (binOp .neq 35 (.agg #[.int .u32 l, .int .u32 c0, .int .u32 c1, .int .u32 c2, .int .u32 c3]) (.agg #[.int .u32 l, .int .u32 0, .int .u32 0, .int .u32 0, .int .u32 0])).run Try.prog w = .ok (.bool true) w := fun w => by
    rw [neq_ring, show same5 l c0 c1 c2 c3 l 0 0 0 0 = false from hn]
    rfl
  clear hn
  subst h
  go_enter Try.func30, Try.ntmps30
  go_wp2
  refine wp_loop_rounds 5 ?_
  iterate 4 (rw [rounds_succ]; go_wp2)
  rw [rounds_succ]
  go_wp2_with (go_at_call 26; refine (ring_c _ (by omega) (by omega) _).mono ?_; rintro e w' ⟨rfl, k, rfl⟩)
  go_returns
  exact ⟨rfl, by (repeat' (first | (with_reducible exact Below.refl _ _) | (with_reducible assumption) | (with_reducible refine drw ?_ _) | (with_reducible refine Below.alloc ?_ ?_ _) | (with_reducible refine Below.setCell ?_ ?_ _) | (with_reducible exact Nat.le_refl _) | (simp; done) | (simp; omega)))⟩

theorem right_yes1 (l c0 c1 c2 c3 : Int) (l0 : 0 ≤ l) (l1 : l < 4294967296) (b0 : 0 ≤ c0) (g0 : c0 < 4294967296) (b1 : 0 ≤ c1) (g1 : c1 < 4294967296) (b2 : 0 ≤ c2) (g2 : c2 < 4294967296) (b3 : 0 ≤ c3) (g3 : c3 < 4294967296) (h0 : c0 ≤ 3) (h1 : c1 ≤ 3) (h2 : c2 ≤ 3) (h3 : c3 ≤ 3) (hr : l % 4 = 1) (h : 0 < c1) (w : World) :
    Calls Try.prog 30 #[.agg #[.int .u32 l, .int .u32 c0, .int .u32 c1, .int .u32 c2, .int .u32 c3]] w fun e w' => e = .returned (.bool true) ∧ Below w.heap.size w w' := by
  have i0 : ∀ w, (Instr.index 33 (.agg #[.int .u32 c0, .int .u32 c1, .int .u32 c2, .int .u32 c3]) (.int .i64 0)).run Try.prog w = .ok (.int .u32 c0) w := fun _ => by kernel_rfl
  have i1 : ∀ w, (Instr.index 33 (.agg #[.int .u32 c0, .int .u32 c1, .int .u32 c2, .int .u32 c3]) (.int .i64 1)).run Try.prog w = .ok (.int .u32 c1) w := fun _ => by kernel_rfl
  have i2 : ∀ w, (Instr.index 33 (.agg #[.int .u32 c0, .int .u32 c1, .int .u32 c2, .int .u32 c3]) (.int .i64 2)).run Try.prog w = .ok (.int .u32 c2) w := fun _ => by kernel_rfl
  have i3 : ∀ w, (Instr.index 33 (.agg #[.int .u32 c0, .int .u32 c1, .int .u32 c2, .int .u32 c3]) (.int .i64 3)).run Try.prog w = .ok (.int .u32 c3) w := fun _ => by kernel_rfl
  have hq : ∀ w, (binOp .neq 35 (.agg #[.int .u32 l, .int .u32 c0, .int .u32 c1, .int .u32 c2, .int .u32 c3]) (.agg #[.int .u32 l, .int .u32 0, .int .u32 0, .int .u32 0, .int .u32 0])).run Try.prog w = .ok (.bool true) w := fun w => by
    rw [neq_ring, show same5 l c0 c1 c2 c3 l 0 0 0 0 = false from by unfold same5 same4; simp; omega]
    rfl
  go_enter Try.func30, Try.ntmps30
  go_wp2
  refine wp_loop_rounds 5 ?_
  iterate 4 (rw [rounds_succ]; go_wp2)
  rw [rounds_succ]
  go_wp2_with (go_at_call 26; refine (ring_c _ (by omega) (by omega) _).mono ?_; rintro e w' ⟨rfl, k, rfl⟩)
  go_returns
  exact ⟨rfl, by (repeat' (first | (with_reducible exact Below.refl _ _) | (with_reducible assumption) | (with_reducible refine drw ?_ _) | (with_reducible refine Below.alloc ?_ ?_ _) | (with_reducible refine Below.setCell ?_ ?_ _) | (with_reducible exact Nat.le_refl _) | (simp; done) | (simp; omega)))⟩

theorem right_not1 (l c0 c1 c2 c3 : Int) (l0 : 0 ≤ l) (l1 : l < 4294967296) (b0 : 0 ≤ c0) (g0 : c0 < 4294967296) (b1 : 0 ≤ c1) (g1 : c1 < 4294967296) (b2 : 0 ≤ c2) (g2 : c2 < 4294967296) (b3 : 0 ≤ c3) (g3 : c3 < 4294967296) (h0 : c0 ≤ 3) (h1 : c1 ≤ 3) (h2 : c2 ≤ 3) (h3 : c3 ≤ 3) (hr : l % 4 = 1) (h : c1 = 0) (hn : same5 l c0 c1 c2 c3 l 0 0 0 0 = false) (w : World) :
    Calls Try.prog 30 #[.agg #[.int .u32 l, .int .u32 c0, .int .u32 c1, .int .u32 c2, .int .u32 c3]] w fun e w' => e = .returned (.bool false) ∧ Below w.heap.size w w' := by
  have i0 : ∀ w, (Instr.index 33 (.agg #[.int .u32 c0, .int .u32 c1, .int .u32 c2, .int .u32 c3]) (.int .i64 0)).run Try.prog w = .ok (.int .u32 c0) w := fun _ => by kernel_rfl
  have i1 : ∀ w, (Instr.index 33 (.agg #[.int .u32 c0, .int .u32 c1, .int .u32 c2, .int .u32 c3]) (.int .i64 1)).run Try.prog w = .ok (.int .u32 c1) w := fun _ => by kernel_rfl
  have i2 : ∀ w, (Instr.index 33 (.agg #[.int .u32 c0, .int .u32 c1, .int .u32 c2, .int .u32 c3]) (.int .i64 2)).run Try.prog w = .ok (.int .u32 c2) w := fun _ => by kernel_rfl
  have i3 : ∀ w, (Instr.index 33 (.agg #[.int .u32 c0, .int .u32 c1, .int .u32 c2, .int .u32 c3]) (.int .i64 3)).run Try.prog w = .ok (.int .u32 c3) w := fun _ => by kernel_rfl
  have hq : ∀ w, (binOp .neq 35 (.agg #[.int .u32 l, .int .u32 c0, .int .u32 c1, .int .u32 c2, .int .u32 c3]) (.agg #[.int .u32 l, .int .u32 0, .int .u32 0, .int .u32 0, .int .u32 0])).run Try.prog w = .ok (.bool true) w := fun w => by
    rw [neq_ring, show same5 l c0 c1 c2 c3 l 0 0 0 0 = false from hn]
    rfl
  clear hn
  subst h
  go_enter Try.func30, Try.ntmps30
  go_wp2
  refine wp_loop_rounds 5 ?_
  iterate 4 (rw [rounds_succ]; go_wp2)
  rw [rounds_succ]
  go_wp2_with (go_at_call 26; refine (ring_c _ (by omega) (by omega) _).mono ?_; rintro e w' ⟨rfl, k, rfl⟩)
  go_returns
  exact ⟨rfl, by (repeat' (first | (with_reducible exact Below.refl _ _) | (with_reducible assumption) | (with_reducible refine drw ?_ _) | (with_reducible refine Below.alloc ?_ ?_ _) | (with_reducible refine Below.setCell ?_ ?_ _) | (with_reducible exact Nat.le_refl _) | (simp; done) | (simp; omega)))⟩

theorem right_yes2 (l c0 c1 c2 c3 : Int) (l0 : 0 ≤ l) (l1 : l < 4294967296) (b0 : 0 ≤ c0) (g0 : c0 < 4294967296) (b1 : 0 ≤ c1) (g1 : c1 < 4294967296) (b2 : 0 ≤ c2) (g2 : c2 < 4294967296) (b3 : 0 ≤ c3) (g3 : c3 < 4294967296) (h0 : c0 ≤ 3) (h1 : c1 ≤ 3) (h2 : c2 ≤ 3) (h3 : c3 ≤ 3) (hr : l % 4 = 2) (h : 0 < c2) (w : World) :
    Calls Try.prog 30 #[.agg #[.int .u32 l, .int .u32 c0, .int .u32 c1, .int .u32 c2, .int .u32 c3]] w fun e w' => e = .returned (.bool true) ∧ Below w.heap.size w w' := by
  have i0 : ∀ w, (Instr.index 33 (.agg #[.int .u32 c0, .int .u32 c1, .int .u32 c2, .int .u32 c3]) (.int .i64 0)).run Try.prog w = .ok (.int .u32 c0) w := fun _ => by kernel_rfl
  have i1 : ∀ w, (Instr.index 33 (.agg #[.int .u32 c0, .int .u32 c1, .int .u32 c2, .int .u32 c3]) (.int .i64 1)).run Try.prog w = .ok (.int .u32 c1) w := fun _ => by kernel_rfl
  have i2 : ∀ w, (Instr.index 33 (.agg #[.int .u32 c0, .int .u32 c1, .int .u32 c2, .int .u32 c3]) (.int .i64 2)).run Try.prog w = .ok (.int .u32 c2) w := fun _ => by kernel_rfl
  have i3 : ∀ w, (Instr.index 33 (.agg #[.int .u32 c0, .int .u32 c1, .int .u32 c2, .int .u32 c3]) (.int .i64 3)).run Try.prog w = .ok (.int .u32 c3) w := fun _ => by kernel_rfl
  have hq : ∀ w, (binOp .neq 35 (.agg #[.int .u32 l, .int .u32 c0, .int .u32 c1, .int .u32 c2, .int .u32 c3]) (.agg #[.int .u32 l, .int .u32 0, .int .u32 0, .int .u32 0, .int .u32 0])).run Try.prog w = .ok (.bool true) w := fun w => by
    rw [neq_ring, show same5 l c0 c1 c2 c3 l 0 0 0 0 = false from by unfold same5 same4; simp; omega]
    rfl
  go_enter Try.func30, Try.ntmps30
  go_wp2
  refine wp_loop_rounds 5 ?_
  iterate 4 (rw [rounds_succ]; go_wp2)
  rw [rounds_succ]
  go_wp2_with (go_at_call 26; refine (ring_c _ (by omega) (by omega) _).mono ?_; rintro e w' ⟨rfl, k, rfl⟩)
  go_returns
  exact ⟨rfl, by (repeat' (first | (with_reducible exact Below.refl _ _) | (with_reducible assumption) | (with_reducible refine drw ?_ _) | (with_reducible refine Below.alloc ?_ ?_ _) | (with_reducible refine Below.setCell ?_ ?_ _) | (with_reducible exact Nat.le_refl _) | (simp; done) | (simp; omega)))⟩

theorem right_not2 (l c0 c1 c2 c3 : Int) (l0 : 0 ≤ l) (l1 : l < 4294967296) (b0 : 0 ≤ c0) (g0 : c0 < 4294967296) (b1 : 0 ≤ c1) (g1 : c1 < 4294967296) (b2 : 0 ≤ c2) (g2 : c2 < 4294967296) (b3 : 0 ≤ c3) (g3 : c3 < 4294967296) (h0 : c0 ≤ 3) (h1 : c1 ≤ 3) (h2 : c2 ≤ 3) (h3 : c3 ≤ 3) (hr : l % 4 = 2) (h : c2 = 0) (hn : same5 l c0 c1 c2 c3 l 0 0 0 0 = false) (w : World) :
    Calls Try.prog 30 #[.agg #[.int .u32 l, .int .u32 c0, .int .u32 c1, .int .u32 c2, .int .u32 c3]] w fun e w' => e = .returned (.bool false) ∧ Below w.heap.size w w' := by
  have i0 : ∀ w, (Instr.index 33 (.agg #[.int .u32 c0, .int .u32 c1, .int .u32 c2, .int .u32 c3]) (.int .i64 0)).run Try.prog w = .ok (.int .u32 c0) w := fun _ => by kernel_rfl
  have i1 : ∀ w, (Instr.index 33 (.agg #[.int .u32 c0, .int .u32 c1, .int .u32 c2, .int .u32 c3]) (.int .i64 1)).run Try.prog w = .ok (.int .u32 c1) w := fun _ => by kernel_rfl
  have i2 : ∀ w, (Instr.index 33 (.agg #[.int .u32 c0, .int .u32 c1, .int .u32 c2, .int .u32 c3]) (.int .i64 2)).run Try.prog w = .ok (.int .u32 c2) w := fun _ => by kernel_rfl
  have i3 : ∀ w, (Instr.index 33 (.agg #[.int .u32 c0, .int .u32 c1, .int .u32 c2, .int .u32 c3]) (.int .i64 3)).run Try.prog w = .ok (.int .u32 c3) w := fun _ => by kernel_rfl
  have hq : ∀ w, (binOp .neq 35 (.agg #[.int .u32 l, .int .u32 c0, .int .u32 c1, .int .u32 c2, .int .u32 c3]) (.agg #[.int .u32 l, .int .u32 0, .int .u32 0, .int .u32 0, .int .u32 0])).run Try.prog w = .ok (.bool true) w := fun w => by
    rw [neq_ring, show same5 l c0 c1 c2 c3 l 0 0 0 0 = false from hn]
    rfl
  clear hn
  subst h
  go_enter Try.func30, Try.ntmps30
  go_wp2
  refine wp_loop_rounds 5 ?_
  iterate 4 (rw [rounds_succ]; go_wp2)
  rw [rounds_succ]
  go_wp2_with (go_at_call 26; refine (ring_c _ (by omega) (by omega) _).mono ?_; rintro e w' ⟨rfl, k, rfl⟩)
  go_returns
  exact ⟨rfl, by (repeat' (first | (with_reducible exact Below.refl _ _) | (with_reducible assumption) | (with_reducible refine drw ?_ _) | (with_reducible refine Below.alloc ?_ ?_ _) | (with_reducible refine Below.setCell ?_ ?_ _) | (with_reducible exact Nat.le_refl _) | (simp; done) | (simp; omega)))⟩

theorem right_yes3 (l c0 c1 c2 c3 : Int) (l0 : 0 ≤ l) (l1 : l < 4294967296) (b0 : 0 ≤ c0) (g0 : c0 < 4294967296) (b1 : 0 ≤ c1) (g1 : c1 < 4294967296) (b2 : 0 ≤ c2) (g2 : c2 < 4294967296) (b3 : 0 ≤ c3) (g3 : c3 < 4294967296) (h0 : c0 ≤ 3) (h1 : c1 ≤ 3) (h2 : c2 ≤ 3) (h3 : c3 ≤ 3) (hr : l % 4 = 3) (h : 0 < c3) (w : World) :
    Calls Try.prog 30 #[.agg #[.int .u32 l, .int .u32 c0, .int .u32 c1, .int .u32 c2, .int .u32 c3]] w fun e w' => e = .returned (.bool true) ∧ Below w.heap.size w w' := by
  have i0 : ∀ w, (Instr.index 33 (.agg #[.int .u32 c0, .int .u32 c1, .int .u32 c2, .int .u32 c3]) (.int .i64 0)).run Try.prog w = .ok (.int .u32 c0) w := fun _ => by kernel_rfl
  have i1 : ∀ w, (Instr.index 33 (.agg #[.int .u32 c0, .int .u32 c1, .int .u32 c2, .int .u32 c3]) (.int .i64 1)).run Try.prog w = .ok (.int .u32 c1) w := fun _ => by kernel_rfl
  have i2 : ∀ w, (Instr.index 33 (.agg #[.int .u32 c0, .int .u32 c1, .int .u32 c2, .int .u32 c3]) (.int .i64 2)).run Try.prog w = .ok (.int .u32 c2) w := fun _ => by kernel_rfl
  have i3 : ∀ w, (Instr.index 33 (.agg #[.int .u32 c0, .int .u32 c1, .int .u32 c2, .int .u32 c3]) (.int .i64 3)).run Try.prog w = .ok (.int .u32 c3) w := fun _ => by kernel_rfl
  have hq : ∀ w, (binOp .neq 35 (.agg #[.int .u32 l, .int .u32 c0, .int .u32 c1, .int .u32 c2, .int .u32 c3]) (.agg #[.int .u32 l, .int .u32 0, .int .u32 0, .int .u32 0, .int .u32 0])).run Try.prog w = .ok (.bool true) w := fun w => by
    rw [neq_ring, show same5 l c0 c1 c2 c3 l 0 0 0 0 = false from by unfold same5 same4; simp; omega]
    rfl
  go_enter Try.func30, Try.ntmps30
  go_wp2
  refine wp_loop_rounds 5 ?_
  iterate 4 (rw [rounds_succ]; go_wp2)
  rw [rounds_succ]
  go_wp2_with (go_at_call 26; refine (ring_c _ (by omega) (by omega) _).mono ?_; rintro e w' ⟨rfl, k, rfl⟩)
  go_returns
  exact ⟨rfl, by (repeat' (first | (with_reducible exact Below.refl _ _) | (with_reducible assumption) | (with_reducible refine drw ?_ _) | (with_reducible refine Below.alloc ?_ ?_ _) | (with_reducible refine Below.setCell ?_ ?_ _) | (with_reducible exact Nat.le_refl _) | (simp; done) | (simp; omega)))⟩

theorem right_not3 (l c0 c1 c2 c3 : Int) (l0 : 0 ≤ l) (l1 : l < 4294967296) (b0 : 0 ≤ c0) (g0 : c0 < 4294967296) (b1 : 0 ≤ c1) (g1 : c1 < 4294967296) (b2 : 0 ≤ c2) (g2 : c2 < 4294967296) (b3 : 0 ≤ c3) (g3 : c3 < 4294967296) (h0 : c0 ≤ 3) (h1 : c1 ≤ 3) (h2 : c2 ≤ 3) (h3 : c3 ≤ 3) (hr : l % 4 = 3) (h : c3 = 0) (hn : same5 l c0 c1 c2 c3 l 0 0 0 0 = false) (w : World) :
    Calls Try.prog 30 #[.agg #[.int .u32 l, .int .u32 c0, .int .u32 c1, .int .u32 c2, .int .u32 c3]] w fun e w' => e = .returned (.bool false) ∧ Below w.heap.size w w' := by
  have i0 : ∀ w, (Instr.index 33 (.agg #[.int .u32 c0, .int .u32 c1, .int .u32 c2, .int .u32 c3]) (.int .i64 0)).run Try.prog w = .ok (.int .u32 c0) w := fun _ => by kernel_rfl
  have i1 : ∀ w, (Instr.index 33 (.agg #[.int .u32 c0, .int .u32 c1, .int .u32 c2, .int .u32 c3]) (.int .i64 1)).run Try.prog w = .ok (.int .u32 c1) w := fun _ => by kernel_rfl
  have i2 : ∀ w, (Instr.index 33 (.agg #[.int .u32 c0, .int .u32 c1, .int .u32 c2, .int .u32 c3]) (.int .i64 2)).run Try.prog w = .ok (.int .u32 c2) w := fun _ => by kernel_rfl
  have i3 : ∀ w, (Instr.index 33 (.agg #[.int .u32 c0, .int .u32 c1, .int .u32 c2, .int .u32 c3]) (.int .i64 3)).run Try.prog w = .ok (.int .u32 c3) w := fun _ => by kernel_rfl
  have hq : ∀ w, (binOp .neq 35 (.agg #[.int .u32 l, .int .u32 c0, .int .u32 c1, .int .u32 c2, .int .u32 c3]) (.agg #[.int .u32 l, .int .u32 0, .int .u32 0, .int .u32 0, .int .u32 0])).run Try.prog w = .ok (.bool true) w := fun w => by
    rw [neq_ring, show same5 l c0 c1 c2 c3 l 0 0 0 0 = false from hn]
    rfl
  clear hn
  subst h
  go_enter Try.func30, Try.ntmps30
  go_wp2
  refine wp_loop_rounds 5 ?_
  iterate 4 (rw [rounds_succ]; go_wp2)
  rw [rounds_succ]
  go_wp2_with (go_at_call 26; refine (ring_c _ (by omega) (by omega) _).mono ?_; rintro e w' ⟨rfl, k, rfl⟩)
  go_returns
  exact ⟨rfl, by (repeat' (first | (with_reducible exact Below.refl _ _) | (with_reducible assumption) | (with_reducible refine drw ?_ _) | (with_reducible refine Below.alloc ?_ ?_ _) | (with_reducible refine Below.setCell ?_ ?_ _) | (with_reducible exact Nat.le_refl _) | (simp; done) | (simp; omega)))⟩

theorem right_zero (l : Int) (l0 : 0 ≤ l) (l1 : l < 4294967296) (w : World) :
    Calls Try.prog 30 #[.agg #[.int .u32 l, .int .u32 0, .int .u32 0, .int .u32 0, .int .u32 0]] w fun e w' => e = .returned (.bool false) ∧ Below w.heap.size w w' := by
  have i0 : ∀ w, (Instr.index 33 (.agg #[.int .u32 0, .int .u32 0, .int .u32 0, .int .u32 0]) (.int .i64 0)).run Try.prog w = .ok (.int .u32 0) w := fun _ => by kernel_rfl
  have i1 : ∀ w, (Instr.index 33 (.agg #[.int .u32 0, .int .u32 0, .int .u32 0, .int .u32 0]) (.int .i64 1)).run Try.prog w = .ok (.int .u32 0) w := fun _ => by kernel_rfl
  have i2 : ∀ w, (Instr.index 33 (.agg #[.int .u32 0, .int .u32 0, .int .u32 0, .int .u32 0]) (.int .i64 2)).run Try.prog w = .ok (.int .u32 0) w := fun _ => by kernel_rfl
  have i3 : ∀ w, (Instr.index 33 (.agg #[.int .u32 0, .int .u32 0, .int .u32 0, .int .u32 0]) (.int .i64 3)).run Try.prog w = .ok (.int .u32 0) w := fun _ => by kernel_rfl
  have hq : ∀ w, (binOp .neq 35 (.agg #[.int .u32 l, .int .u32 0, .int .u32 0, .int .u32 0, .int .u32 0]) (.agg #[.int .u32 l, .int .u32 0, .int .u32 0, .int .u32 0, .int .u32 0])).run Try.prog w = .ok (.bool false) w := fun w => by
    rw [neq_ring, show same5 l 0 0 0 0 l 0 0 0 0 = true from by unfold same5 same4; simp]
    rfl
  go_enter Try.func30, Try.ntmps30
  go_wp2
  refine wp_loop_rounds 5 ?_
  iterate 5 (rw [rounds_succ]; go_wp2)
  go_returns
  exact ⟨rfl, by (repeat' (first | (with_reducible exact Below.refl _ _) | (with_reducible assumption) | (with_reducible refine drw ?_ _) | (with_reducible refine Below.alloc ?_ ?_ _) | (with_reducible refine Below.setCell ?_ ?_ _) | (with_reducible exact Nat.le_refl _) | (simp; done) | (simp; omega)))⟩

theorem right_c (l c0 c1 c2 c3 : Int) (l0 : 0 ≤ l) (l1 : l < 4294967296) (b0 : 0 ≤ c0) (g0 : c0 < 4294967296) (b1 : 0 ≤ c1) (g1 : c1 < 4294967296) (b2 : 0 ≤ c2) (g2 : c2 < 4294967296) (b3 : 0 ≤ c3) (g3 : c3 < 4294967296) (w : World) :
    Calls Try.prog 30 #[.agg #[.int .u32 l, .int .u32 c0, .int .u32 c1, .int .u32 c2, .int .u32 c3]] w fun e w' => e = .returned (.bool (rightB l c0 c1 c2 c3)) ∧ Below w.heap.size w w' := by
  by_cases h0 : c0 ≤ 3
  · by_cases h1 : c1 ≤ 3
    · by_cases h2 : c2 ≤ 3
      · by_cases h3 : c3 ≤ 3
        · have hr : l % 4 = 0 ∨ l % 4 = 1 ∨ l % 4 = 2 ∨ l % 4 = 3 := by omega
          by_cases hz : same5 l c0 c1 c2 c3 l 0 0 0 0 = true
          · have hz' : c0 = 0 ∧ c1 = 0 ∧ c2 = 0 ∧ c3 = 0 := by unfold same5 same4 at hz; simpa using hz
            obtain ⟨rfl, rfl, rfl, rfl⟩ := hz'
            rw [show rightB l 0 0 0 0 = false from by unfold rightB pick; simp]
            exact right_zero l l0 l1 w
          · have hz' : same5 l c0 c1 c2 c3 l 0 0 0 0 = false := by simpa using hz
            rcases hr with hr | hr | hr | hr
            · by_cases h : 0 < c0
              · rw [show rightB l c0 c1 c2 c3 = true from by unfold rightB pick; rw [decide_eq_true_iff]; omega]
                exact right_yes0 l c0 c1 c2 c3 l0 l1 b0 g0 b1 g1 b2 g2 b3 g3 h0 h1 h2 h3 hr h w
              · rw [show rightB l c0 c1 c2 c3 = false from by unfold rightB pick; rw [decide_eq_false_iff_not]; omega]
                exact right_not0 l c0 c1 c2 c3 l0 l1 b0 g0 b1 g1 b2 g2 b3 g3 h0 h1 h2 h3 hr (by omega) hz' w
            · by_cases h : 0 < c1
              · rw [show rightB l c0 c1 c2 c3 = true from by unfold rightB pick; rw [decide_eq_true_iff]; omega]
                exact right_yes1 l c0 c1 c2 c3 l0 l1 b0 g0 b1 g1 b2 g2 b3 g3 h0 h1 h2 h3 hr h w
              · rw [show rightB l c0 c1 c2 c3 = false from by unfold rightB pick; rw [decide_eq_false_iff_not]; omega]
                exact right_not1 l c0 c1 c2 c3 l0 l1 b0 g0 b1 g1 b2 g2 b3 g3 h0 h1 h2 h3 hr (by omega) hz' w
            · by_cases h : 0 < c2
              · rw [show rightB l c0 c1 c2 c3 = true from by unfold rightB pick; rw [decide_eq_true_iff]; omega]
                exact right_yes2 l c0 c1 c2 c3 l0 l1 b0 g0 b1 g1 b2 g2 b3 g3 h0 h1 h2 h3 hr h w
              · rw [show rightB l c0 c1 c2 c3 = false from by unfold rightB pick; rw [decide_eq_false_iff_not]; omega]
                exact right_not2 l c0 c1 c2 c3 l0 l1 b0 g0 b1 g1 b2 g2 b3 g3 h0 h1 h2 h3 hr (by omega) hz' w
            · by_cases h : 0 < c3
              · rw [show rightB l c0 c1 c2 c3 = true from by unfold rightB pick; rw [decide_eq_true_iff]; omega]
                exact right_yes3 l c0 c1 c2 c3 l0 l1 b0 g0 b1 g1 b2 g2 b3 g3 h0 h1 h2 h3 hr h w
              · rw [show rightB l c0 c1 c2 c3 = false from by unfold rightB pick; rw [decide_eq_false_iff_not]; omega]
                exact right_not3 l c0 c1 c2 c3 l0 l1 b0 g0 b1 g1 b2 g2 b3 g3 h0 h1 h2 h3 hr (by omega) hz' w
        · rw [show rightB l c0 c1 c2 c3 = false from by unfold rightB; rw [decide_eq_false_iff_not]; omega]
          exact right_no3 l c0 c1 c2 c3 b0 g0 b1 g1 b2 g2 b3 g3 h0 h1 h2 (by omega) w
      · rw [show rightB l c0 c1 c2 c3 = false from by unfold rightB; rw [decide_eq_false_iff_not]; omega]
        exact right_no2 l c0 c1 c2 c3 b0 g0 b1 g1 b2 g2 b3 g3 h0 h1 (by omega) w
    · rw [show rightB l c0 c1 c2 c3 = false from by unfold rightB; rw [decide_eq_false_iff_not]; omega]
      exact right_no1 l c0 c1 c2 c3 b0 g0 b1 g1 b2 g2 b3 g3 h0 (by omega) w
  · rw [show rightB l c0 c1 c2 c3 = false from by unfold rightB; rw [decide_eq_false_iff_not]; omega]
    exact right_no0 l c0 c1 c2 c3 b0 g0 b1 g1 b2 g2 b3 g3  (by omega) w
end Go.Proofs.Ytaoelppkognakaa.Ring
