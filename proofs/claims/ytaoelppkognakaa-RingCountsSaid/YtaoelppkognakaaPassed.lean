/- Contract of ring.passed: the ring's counts when a later sub-window comes; at every ring. -/
import Derived.Test.YtaoelppkognakaaSlot
namespace Go.Proofs.Ytaoelppkognakaa.Ring
open Go.RowKit Go.Proofs.Ytaoelppkognakaa.Num Go.Proofs.Ytaoelppkognakaa.Slot
set_option linter.unusedVariables false

/-- What is left of the count at a place p: the count, if the latest sub-window of that place ahead of sub isn't behind Last; else none. -/
def keep (l sub p c : Int) : Int := if sub - 1 - (sub - 1 - p) % 4 ≤ l then c else 0

theorem run_clear (w : World) (l c0 c1 c2 c3 : Int) (B : Obj) :
    Sem.run Try.prog (Builtin.clear_ #[50] 0 #[Value.slice (some { block := w.heap.size, off := 1 }) 4 4]) ((w.alloc (.cells #[.int .u32 l, .int .u32 c0, .int .u32 c1, .int .u32 c2, .int .u32 c3] 35)).alloc B)
      = .ok (.tuple #[]) ((((((w.alloc (.cells #[.int .u32 l, .int .u32 c0, .int .u32 c1, .int .u32 c2, .int .u32 c3] 35)).alloc B).setCell ⟨w.heap.size, 1, none⟩ (.int .u32 0)).setCell ⟨w.heap.size, 2, none⟩ (.int .u32 0)).setCell ⟨w.heap.size, 3, none⟩ (.int .u32 0)).setCell ⟨w.heap.size, 4, none⟩ (.int .u32 0)) := by
  have hz : ∀ w, (zeroValue 22).run Try.prog w = .ok (.int .u32 0) w := fun _ => by kernel_rfl
  have hzc : (Builtin.zeroCells (Value.int IntKind.u32 0).cells 4).toList = [.int .u32 0, .int .u32 0, .int .u32 0, .int .u32 0] := by kernel_rfl
  simp [Builtin.clear_, run_underlying Try.underlying50, hz, Result.andThen]
  rw [hzc]
  simp [storeCells, go_sem, Result.andThen, Addr.add]

theorem passed_0_0 (l c0 c1 c2 c3 : Int) (l0 : 0 ≤ l) (l1 : l + 1 < 4294967296) (h : l % 4 = 0) (w : World) :
    Calls Try.prog 58 #[.agg #[.int .u32 l, .int .u32 c0, .int .u32 c1, .int .u32 c2, .int .u32 c3], .int .u32 (l + 1)] w fun e w' => e = .returned (.agg #[.int .u32 l, .int .u32 c0, .int .u32 c1, .int .u32 c2, .int .u32 c3]) ∧ Below w.heap.size w w' := by
  go_enter Try.func58, Try.ntmps58
  go_wp2
  refine wp_loop_rounds 1 ?_
  rw [rounds_succ]
  go_wp2
  go_returns
  exact ⟨rfl, by (repeat' (first | (with_reducible exact Below.refl _ _) | (with_reducible assumption) | (with_reducible refine drw ?_ _) | (with_reducible refine Below.alloc ?_ ?_ _) | (with_reducible refine Below.setCell ?_ ?_ _) | (with_reducible exact Nat.le_refl _) | (simp; done) | (simp; omega)))⟩

theorem passed_0_1 (l c0 c1 c2 c3 : Int) (l0 : 0 ≤ l) (l1 : l + 1 < 4294967296) (h : l % 4 = 1) (w : World) :
    Calls Try.prog 58 #[.agg #[.int .u32 l, .int .u32 c0, .int .u32 c1, .int .u32 c2, .int .u32 c3], .int .u32 (l + 1)] w fun e w' => e = .returned (.agg #[.int .u32 l, .int .u32 c0, .int .u32 c1, .int .u32 c2, .int .u32 c3]) ∧ Below w.heap.size w w' := by
  go_enter Try.func58, Try.ntmps58
  go_wp2
  refine wp_loop_rounds 1 ?_
  rw [rounds_succ]
  go_wp2
  go_returns
  exact ⟨rfl, by (repeat' (first | (with_reducible exact Below.refl _ _) | (with_reducible assumption) | (with_reducible refine drw ?_ _) | (with_reducible refine Below.alloc ?_ ?_ _) | (with_reducible refine Below.setCell ?_ ?_ _) | (with_reducible exact Nat.le_refl _) | (simp; done) | (simp; omega)))⟩

theorem passed_0_2 (l c0 c1 c2 c3 : Int) (l0 : 0 ≤ l) (l1 : l + 1 < 4294967296) (h : l % 4 = 2) (w : World) :
    Calls Try.prog 58 #[.agg #[.int .u32 l, .int .u32 c0, .int .u32 c1, .int .u32 c2, .int .u32 c3], .int .u32 (l + 1)] w fun e w' => e = .returned (.agg #[.int .u32 l, .int .u32 c0, .int .u32 c1, .int .u32 c2, .int .u32 c3]) ∧ Below w.heap.size w w' := by
  go_enter Try.func58, Try.ntmps58
  go_wp2
  refine wp_loop_rounds 1 ?_
  rw [rounds_succ]
  go_wp2
  go_returns
  exact ⟨rfl, by (repeat' (first | (with_reducible exact Below.refl _ _) | (with_reducible assumption) | (with_reducible refine drw ?_ _) | (with_reducible refine Below.alloc ?_ ?_ _) | (with_reducible refine Below.setCell ?_ ?_ _) | (with_reducible exact Nat.le_refl _) | (simp; done) | (simp; omega)))⟩

theorem passed_0_3 (l c0 c1 c2 c3 : Int) (l0 : 0 ≤ l) (l1 : l + 1 < 4294967296) (h : l % 4 = 3) (w : World) :
    Calls Try.prog 58 #[.agg #[.int .u32 l, .int .u32 c0, .int .u32 c1, .int .u32 c2, .int .u32 c3], .int .u32 (l + 1)] w fun e w' => e = .returned (.agg #[.int .u32 l, .int .u32 c0, .int .u32 c1, .int .u32 c2, .int .u32 c3]) ∧ Below w.heap.size w w' := by
  go_enter Try.func58, Try.ntmps58
  go_wp2
  refine wp_loop_rounds 1 ?_
  rw [rounds_succ]
  go_wp2
  go_returns
  exact ⟨rfl, by (repeat' (first | (with_reducible exact Below.refl _ _) | (with_reducible assumption) | (with_reducible refine drw ?_ _) | (with_reducible refine Below.alloc ?_ ?_ _) | (with_reducible refine Below.setCell ?_ ?_ _) | (with_reducible exact Nat.le_refl _) | (simp; done) | (simp; omega)))⟩

theorem passed_1_0 (l c0 c1 c2 c3 : Int) (l0 : 0 ≤ l) (l1 : l + 2 < 4294967296) (h : l % 4 = 0) (w : World) :
    Calls Try.prog 58 #[.agg #[.int .u32 l, .int .u32 c0, .int .u32 c1, .int .u32 c2, .int .u32 c3], .int .u32 (l + 2)] w fun e w' => e = .returned (.agg #[.int .u32 l, .int .u32 c0, .int .u32 0, .int .u32 c2, .int .u32 c3]) ∧ Below w.heap.size w w' := by
  go_enter Try.func58, Try.ntmps58
  go_wp2
  refine wp_loop_rounds 2 ?_
  rw [rounds_succ]
  go_wp2_with (go_at_call 26; refine (ring_c _ (by omega) (by omega) _).mono ?_; rintro e w' ⟨rfl, k, rfl⟩)
  rw [rounds_succ]
  go_wp2
  go_returns
  exact ⟨rfl, by (repeat' (first | (with_reducible exact Below.refl _ _) | (with_reducible assumption) | (with_reducible refine drw ?_ _) | (with_reducible refine Below.alloc ?_ ?_ _) | (with_reducible refine Below.setCell ?_ ?_ _) | (with_reducible exact Nat.le_refl _) | (simp; done) | (simp; omega)))⟩

theorem passed_1_1 (l c0 c1 c2 c3 : Int) (l0 : 0 ≤ l) (l1 : l + 2 < 4294967296) (h : l % 4 = 1) (w : World) :
    Calls Try.prog 58 #[.agg #[.int .u32 l, .int .u32 c0, .int .u32 c1, .int .u32 c2, .int .u32 c3], .int .u32 (l + 2)] w fun e w' => e = .returned (.agg #[.int .u32 l, .int .u32 c0, .int .u32 c1, .int .u32 0, .int .u32 c3]) ∧ Below w.heap.size w w' := by
  go_enter Try.func58, Try.ntmps58
  go_wp2
  refine wp_loop_rounds 2 ?_
  rw [rounds_succ]
  go_wp2_with (go_at_call 26; refine (ring_c _ (by omega) (by omega) _).mono ?_; rintro e w' ⟨rfl, k, rfl⟩)
  rw [rounds_succ]
  go_wp2
  go_returns
  exact ⟨rfl, by (repeat' (first | (with_reducible exact Below.refl _ _) | (with_reducible assumption) | (with_reducible refine drw ?_ _) | (with_reducible refine Below.alloc ?_ ?_ _) | (with_reducible refine Below.setCell ?_ ?_ _) | (with_reducible exact Nat.le_refl _) | (simp; done) | (simp; omega)))⟩

theorem passed_1_2 (l c0 c1 c2 c3 : Int) (l0 : 0 ≤ l) (l1 : l + 2 < 4294967296) (h : l % 4 = 2) (w : World) :
    Calls Try.prog 58 #[.agg #[.int .u32 l, .int .u32 c0, .int .u32 c1, .int .u32 c2, .int .u32 c3], .int .u32 (l + 2)] w fun e w' => e = .returned (.agg #[.int .u32 l, .int .u32 c0, .int .u32 c1, .int .u32 c2, .int .u32 0]) ∧ Below w.heap.size w w' := by
  go_enter Try.func58, Try.ntmps58
  go_wp2
  refine wp_loop_rounds 2 ?_
  rw [rounds_succ]
  go_wp2_with (go_at_call 26; refine (ring_c _ (by omega) (by omega) _).mono ?_; rintro e w' ⟨rfl, k, rfl⟩)
  rw [rounds_succ]
  go_wp2
  go_returns
  exact ⟨rfl, by (repeat' (first | (with_reducible exact Below.refl _ _) | (with_reducible assumption) | (with_reducible refine drw ?_ _) | (with_reducible refine Below.alloc ?_ ?_ _) | (with_reducible refine Below.setCell ?_ ?_ _) | (with_reducible exact Nat.le_refl _) | (simp; done) | (simp; omega)))⟩

theorem passed_1_3 (l c0 c1 c2 c3 : Int) (l0 : 0 ≤ l) (l1 : l + 2 < 4294967296) (h : l % 4 = 3) (w : World) :
    Calls Try.prog 58 #[.agg #[.int .u32 l, .int .u32 c0, .int .u32 c1, .int .u32 c2, .int .u32 c3], .int .u32 (l + 2)] w fun e w' => e = .returned (.agg #[.int .u32 l, .int .u32 0, .int .u32 c1, .int .u32 c2, .int .u32 c3]) ∧ Below w.heap.size w w' := by
  go_enter Try.func58, Try.ntmps58
  go_wp2
  refine wp_loop_rounds 2 ?_
  rw [rounds_succ]
  go_wp2_with (go_at_call 26; refine (ring_c _ (by omega) (by omega) _).mono ?_; rintro e w' ⟨rfl, k, rfl⟩)
  rw [rounds_succ]
  go_wp2
  go_returns
  exact ⟨rfl, by (repeat' (first | (with_reducible exact Below.refl _ _) | (with_reducible assumption) | (with_reducible refine drw ?_ _) | (with_reducible refine Below.alloc ?_ ?_ _) | (with_reducible refine Below.setCell ?_ ?_ _) | (with_reducible exact Nat.le_refl _) | (simp; done) | (simp; omega)))⟩

theorem passed_2_0 (l c0 c1 c2 c3 : Int) (l0 : 0 ≤ l) (l1 : l + 3 < 4294967296) (h : l % 4 = 0) (w : World) :
    Calls Try.prog 58 #[.agg #[.int .u32 l, .int .u32 c0, .int .u32 c1, .int .u32 c2, .int .u32 c3], .int .u32 (l + 3)] w fun e w' => e = .returned (.agg #[.int .u32 l, .int .u32 c0, .int .u32 0, .int .u32 0, .int .u32 c3]) ∧ Below w.heap.size w w' := by
  go_enter Try.func58, Try.ntmps58
  go_wp2
  refine wp_loop_rounds 3 ?_
  rw [rounds_succ]
  go_wp2_with (go_at_call 26; refine (ring_c _ (by omega) (by omega) _).mono ?_; rintro e w' ⟨rfl, k, rfl⟩)
  rw [rounds_succ]
  go_wp2_with (go_at_call 26; refine (ring_c _ (by omega) (by omega) _).mono ?_; rintro e w' ⟨rfl, k, rfl⟩)
  rw [rounds_succ]
  go_wp2
  go_returns
  exact ⟨rfl, by (repeat' (first | (with_reducible exact Below.refl _ _) | (with_reducible assumption) | (with_reducible refine drw ?_ _) | (with_reducible refine Below.alloc ?_ ?_ _) | (with_reducible refine Below.setCell ?_ ?_ _) | (with_reducible exact Nat.le_refl _) | (simp; done) | (simp; omega)))⟩

theorem passed_2_1 (l c0 c1 c2 c3 : Int) (l0 : 0 ≤ l) (l1 : l + 3 < 4294967296) (h : l % 4 = 1) (w : World) :
    Calls Try.prog 58 #[.agg #[.int .u32 l, .int .u32 c0, .int .u32 c1, .int .u32 c2, .int .u32 c3], .int .u32 (l + 3)] w fun e w' => e = .returned (.agg #[.int .u32 l, .int .u32 c0, .int .u32 c1, .int .u32 0, .int .u32 0]) ∧ Below w.heap.size w w' := by
  go_enter Try.func58, Try.ntmps58
  go_wp2
  refine wp_loop_rounds 3 ?_
  rw [rounds_succ]
  go_wp2_with (go_at_call 26; refine (ring_c _ (by omega) (by omega) _).mono ?_; rintro e w' ⟨rfl, k, rfl⟩)
  rw [rounds_succ]
  go_wp2_with (go_at_call 26; refine (ring_c _ (by omega) (by omega) _).mono ?_; rintro e w' ⟨rfl, k, rfl⟩)
  rw [rounds_succ]
  go_wp2
  go_returns
  exact ⟨rfl, by (repeat' (first | (with_reducible exact Below.refl _ _) | (with_reducible assumption) | (with_reducible refine drw ?_ _) | (with_reducible refine Below.alloc ?_ ?_ _) | (with_reducible refine Below.setCell ?_ ?_ _) | (with_reducible exact Nat.le_refl _) | (simp; done) | (simp; omega)))⟩

theorem passed_2_2 (l c0 c1 c2 c3 : Int) (l0 : 0 ≤ l) (l1 : l + 3 < 4294967296) (h : l % 4 = 2) (w : World) :
    Calls Try.prog 58 #[.agg #[.int .u32 l, .int .u32 c0, .int .u32 c1, .int .u32 c2, .int .u32 c3], .int .u32 (l + 3)] w fun e w' => e = .returned (.agg #[.int .u32 l, .int .u32 0, .int .u32 c1, .int .u32 c2, .int .u32 0]) ∧ Below w.heap.size w w' := by
  go_enter Try.func58, Try.ntmps58
  go_wp2
  refine wp_loop_rounds 3 ?_
  rw [rounds_succ]
  go_wp2_with (go_at_call 26; refine (ring_c _ (by omega) (by omega) _).mono ?_; rintro e w' ⟨rfl, k, rfl⟩)
  rw [rounds_succ]
  go_wp2_with (go_at_call 26; refine (ring_c _ (by omega) (by omega) _).mono ?_; rintro e w' ⟨rfl, k, rfl⟩)
  rw [rounds_succ]
  go_wp2
  go_returns
  exact ⟨rfl, by (repeat' (first | (with_reducible exact Below.refl _ _) | (with_reducible assumption) | (with_reducible refine drw ?_ _) | (with_reducible refine Below.alloc ?_ ?_ _) | (with_reducible refine Below.setCell ?_ ?_ _) | (with_reducible exact Nat.le_refl _) | (simp; done) | (simp; omega)))⟩

theorem passed_2_3 (l c0 c1 c2 c3 : Int) (l0 : 0 ≤ l) (l1 : l + 3 < 4294967296) (h : l % 4 = 3) (w : World) :
    Calls Try.prog 58 #[.agg #[.int .u32 l, .int .u32 c0, .int .u32 c1, .int .u32 c2, .int .u32 c3], .int .u32 (l + 3)] w fun e w' => e = .returned (.agg #[.int .u32 l, .int .u32 0, .int .u32 0, .int .u32 c2, .int .u32 c3]) ∧ Below w.heap.size w w' := by
  go_enter Try.func58, Try.ntmps58
  go_wp2
  refine wp_loop_rounds 3 ?_
  rw [rounds_succ]
  go_wp2_with (go_at_call 26; refine (ring_c _ (by omega) (by omega) _).mono ?_; rintro e w' ⟨rfl, k, rfl⟩)
  rw [rounds_succ]
  go_wp2_with (go_at_call 26; refine (ring_c _ (by omega) (by omega) _).mono ?_; rintro e w' ⟨rfl, k, rfl⟩)
  rw [rounds_succ]
  go_wp2
  go_returns
  exact ⟨rfl, by (repeat' (first | (with_reducible exact Below.refl _ _) | (with_reducible assumption) | (with_reducible refine drw ?_ _) | (with_reducible refine Below.alloc ?_ ?_ _) | (with_reducible refine Below.setCell ?_ ?_ _) | (with_reducible exact Nat.le_refl _) | (simp; done) | (simp; omega)))⟩

theorem passed_3_0 (l c0 c1 c2 c3 : Int) (l0 : 0 ≤ l) (l1 : l + 4 < 4294967296) (h : l % 4 = 0) (w : World) :
    Calls Try.prog 58 #[.agg #[.int .u32 l, .int .u32 c0, .int .u32 c1, .int .u32 c2, .int .u32 c3], .int .u32 (l + 4)] w fun e w' => e = .returned (.agg #[.int .u32 l, .int .u32 c0, .int .u32 0, .int .u32 0, .int .u32 0]) ∧ Below w.heap.size w w' := by
  go_enter Try.func58, Try.ntmps58
  go_wp2
  refine wp_loop_rounds 4 ?_
  rw [rounds_succ]
  go_wp2_with (go_at_call 26; refine (ring_c _ (by omega) (by omega) _).mono ?_; rintro e w' ⟨rfl, k, rfl⟩)
  rw [rounds_succ]
  go_wp2_with (go_at_call 26; refine (ring_c _ (by omega) (by omega) _).mono ?_; rintro e w' ⟨rfl, k, rfl⟩)
  rw [rounds_succ]
  go_wp2_with (go_at_call 26; refine (ring_c _ (by omega) (by omega) _).mono ?_; rintro e w' ⟨rfl, k, rfl⟩)
  rw [rounds_succ]
  go_wp2
  go_returns
  exact ⟨rfl, by (repeat' (first | (with_reducible exact Below.refl _ _) | (with_reducible assumption) | (with_reducible refine drw ?_ _) | (with_reducible refine Below.alloc ?_ ?_ _) | (with_reducible refine Below.setCell ?_ ?_ _) | (with_reducible exact Nat.le_refl _) | (simp; done) | (simp; omega)))⟩

theorem passed_3_1 (l c0 c1 c2 c3 : Int) (l0 : 0 ≤ l) (l1 : l + 4 < 4294967296) (h : l % 4 = 1) (w : World) :
    Calls Try.prog 58 #[.agg #[.int .u32 l, .int .u32 c0, .int .u32 c1, .int .u32 c2, .int .u32 c3], .int .u32 (l + 4)] w fun e w' => e = .returned (.agg #[.int .u32 l, .int .u32 0, .int .u32 c1, .int .u32 0, .int .u32 0]) ∧ Below w.heap.size w w' := by
  go_enter Try.func58, Try.ntmps58
  go_wp2
  refine wp_loop_rounds 4 ?_
  rw [rounds_succ]
  go_wp2_with (go_at_call 26; refine (ring_c _ (by omega) (by omega) _).mono ?_; rintro e w' ⟨rfl, k, rfl⟩)
  rw [rounds_succ]
  go_wp2_with (go_at_call 26; refine (ring_c _ (by omega) (by omega) _).mono ?_; rintro e w' ⟨rfl, k, rfl⟩)
  rw [rounds_succ]
  go_wp2_with (go_at_call 26; refine (ring_c _ (by omega) (by omega) _).mono ?_; rintro e w' ⟨rfl, k, rfl⟩)
  rw [rounds_succ]
  go_wp2
  go_returns
  exact ⟨rfl, by (repeat' (first | (with_reducible exact Below.refl _ _) | (with_reducible assumption) | (with_reducible refine drw ?_ _) | (with_reducible refine Below.alloc ?_ ?_ _) | (with_reducible refine Below.setCell ?_ ?_ _) | (with_reducible exact Nat.le_refl _) | (simp; done) | (simp; omega)))⟩

theorem passed_3_2 (l c0 c1 c2 c3 : Int) (l0 : 0 ≤ l) (l1 : l + 4 < 4294967296) (h : l % 4 = 2) (w : World) :
    Calls Try.prog 58 #[.agg #[.int .u32 l, .int .u32 c0, .int .u32 c1, .int .u32 c2, .int .u32 c3], .int .u32 (l + 4)] w fun e w' => e = .returned (.agg #[.int .u32 l, .int .u32 0, .int .u32 0, .int .u32 c2, .int .u32 0]) ∧ Below w.heap.size w w' := by
  go_enter Try.func58, Try.ntmps58
  go_wp2
  refine wp_loop_rounds 4 ?_
  rw [rounds_succ]
  go_wp2_with (go_at_call 26; refine (ring_c _ (by omega) (by omega) _).mono ?_; rintro e w' ⟨rfl, k, rfl⟩)
  rw [rounds_succ]
  go_wp2_with (go_at_call 26; refine (ring_c _ (by omega) (by omega) _).mono ?_; rintro e w' ⟨rfl, k, rfl⟩)
  rw [rounds_succ]
  go_wp2_with (go_at_call 26; refine (ring_c _ (by omega) (by omega) _).mono ?_; rintro e w' ⟨rfl, k, rfl⟩)
  rw [rounds_succ]
  go_wp2
  go_returns
  exact ⟨rfl, by (repeat' (first | (with_reducible exact Below.refl _ _) | (with_reducible assumption) | (with_reducible refine drw ?_ _) | (with_reducible refine Below.alloc ?_ ?_ _) | (with_reducible refine Below.setCell ?_ ?_ _) | (with_reducible exact Nat.le_refl _) | (simp; done) | (simp; omega)))⟩

theorem passed_3_3 (l c0 c1 c2 c3 : Int) (l0 : 0 ≤ l) (l1 : l + 4 < 4294967296) (h : l % 4 = 3) (w : World) :
    Calls Try.prog 58 #[.agg #[.int .u32 l, .int .u32 c0, .int .u32 c1, .int .u32 c2, .int .u32 c3], .int .u32 (l + 4)] w fun e w' => e = .returned (.agg #[.int .u32 l, .int .u32 0, .int .u32 0, .int .u32 0, .int .u32 c3]) ∧ Below w.heap.size w w' := by
  go_enter Try.func58, Try.ntmps58
  go_wp2
  refine wp_loop_rounds 4 ?_
  rw [rounds_succ]
  go_wp2_with (go_at_call 26; refine (ring_c _ (by omega) (by omega) _).mono ?_; rintro e w' ⟨rfl, k, rfl⟩)
  rw [rounds_succ]
  go_wp2_with (go_at_call 26; refine (ring_c _ (by omega) (by omega) _).mono ?_; rintro e w' ⟨rfl, k, rfl⟩)
  rw [rounds_succ]
  go_wp2_with (go_at_call 26; refine (ring_c _ (by omega) (by omega) _).mono ?_; rintro e w' ⟨rfl, k, rfl⟩)
  rw [rounds_succ]
  go_wp2
  go_returns
  exact ⟨rfl, by (repeat' (first | (with_reducible exact Below.refl _ _) | (with_reducible assumption) | (with_reducible refine drw ?_ _) | (with_reducible refine Below.alloc ?_ ?_ _) | (with_reducible refine Below.setCell ?_ ?_ _) | (with_reducible exact Nat.le_refl _) | (simp; done) | (simp; omega)))⟩

theorem passed_4_0 (l c0 c1 c2 c3 : Int) (l0 : 0 ≤ l) (l1 : l + 5 < 4294967296) (h : l % 4 = 0) (w : World) :
    Calls Try.prog 58 #[.agg #[.int .u32 l, .int .u32 c0, .int .u32 c1, .int .u32 c2, .int .u32 c3], .int .u32 (l + 5)] w fun e w' => e = .returned (.agg #[.int .u32 l, .int .u32 0, .int .u32 0, .int .u32 0, .int .u32 0]) ∧ Below w.heap.size w w' := by
  have hcl := run_clear w l c0 c1 c2 c3
  go_enter Try.func58, Try.ntmps58
  go_wp2
  refine wp_loop_rounds 5 ?_
  rw [rounds_succ]
  go_wp2_with (go_at_call 26; refine (ring_c _ (by omega) (by omega) _).mono ?_; rintro e w' ⟨rfl, k, rfl⟩)
  rw [rounds_succ]
  go_wp2_with (go_at_call 26; refine (ring_c _ (by omega) (by omega) _).mono ?_; rintro e w' ⟨rfl, k, rfl⟩)
  rw [rounds_succ]
  go_wp2_with (go_at_call 26; refine (ring_c _ (by omega) (by omega) _).mono ?_; rintro e w' ⟨rfl, k, rfl⟩)
  rw [rounds_succ]
  go_wp2_with (go_at_call 26; refine (ring_c _ (by omega) (by omega) _).mono ?_; rintro e w' ⟨rfl, k, rfl⟩)
  rw [rounds_succ]
  go_wp2
  go_returns
  exact ⟨rfl, by (repeat' (first | (with_reducible exact Below.refl _ _) | (with_reducible assumption) | (with_reducible refine drw ?_ _) | (with_reducible refine Below.alloc ?_ ?_ _) | (with_reducible refine Below.setCell ?_ ?_ _) | (with_reducible exact Nat.le_refl _) | (simp; done) | (simp; omega)))⟩

theorem passed_4_1 (l c0 c1 c2 c3 : Int) (l0 : 0 ≤ l) (l1 : l + 5 < 4294967296) (h : l % 4 = 1) (w : World) :
    Calls Try.prog 58 #[.agg #[.int .u32 l, .int .u32 c0, .int .u32 c1, .int .u32 c2, .int .u32 c3], .int .u32 (l + 5)] w fun e w' => e = .returned (.agg #[.int .u32 l, .int .u32 0, .int .u32 0, .int .u32 0, .int .u32 0]) ∧ Below w.heap.size w w' := by
  have hcl := run_clear w l c0 c1 c2 c3
  go_enter Try.func58, Try.ntmps58
  go_wp2
  refine wp_loop_rounds 5 ?_
  rw [rounds_succ]
  go_wp2_with (go_at_call 26; refine (ring_c _ (by omega) (by omega) _).mono ?_; rintro e w' ⟨rfl, k, rfl⟩)
  rw [rounds_succ]
  go_wp2_with (go_at_call 26; refine (ring_c _ (by omega) (by omega) _).mono ?_; rintro e w' ⟨rfl, k, rfl⟩)
  rw [rounds_succ]
  go_wp2_with (go_at_call 26; refine (ring_c _ (by omega) (by omega) _).mono ?_; rintro e w' ⟨rfl, k, rfl⟩)
  rw [rounds_succ]
  go_wp2_with (go_at_call 26; refine (ring_c _ (by omega) (by omega) _).mono ?_; rintro e w' ⟨rfl, k, rfl⟩)
  rw [rounds_succ]
  go_wp2
  go_returns
  exact ⟨rfl, by (repeat' (first | (with_reducible exact Below.refl _ _) | (with_reducible assumption) | (with_reducible refine drw ?_ _) | (with_reducible refine Below.alloc ?_ ?_ _) | (with_reducible refine Below.setCell ?_ ?_ _) | (with_reducible exact Nat.le_refl _) | (simp; done) | (simp; omega)))⟩

theorem passed_4_2 (l c0 c1 c2 c3 : Int) (l0 : 0 ≤ l) (l1 : l + 5 < 4294967296) (h : l % 4 = 2) (w : World) :
    Calls Try.prog 58 #[.agg #[.int .u32 l, .int .u32 c0, .int .u32 c1, .int .u32 c2, .int .u32 c3], .int .u32 (l + 5)] w fun e w' => e = .returned (.agg #[.int .u32 l, .int .u32 0, .int .u32 0, .int .u32 0, .int .u32 0]) ∧ Below w.heap.size w w' := by
  have hcl := run_clear w l c0 c1 c2 c3
  go_enter Try.func58, Try.ntmps58
  go_wp2
  refine wp_loop_rounds 5 ?_
  rw [rounds_succ]
  go_wp2_with (go_at_call 26; refine (ring_c _ (by omega) (by omega) _).mono ?_; rintro e w' ⟨rfl, k, rfl⟩)
  rw [rounds_succ]
  go_wp2_with (go_at_call 26; refine (ring_c _ (by omega) (by omega) _).mono ?_; rintro e w' ⟨rfl, k, rfl⟩)
  rw [rounds_succ]
  go_wp2_with (go_at_call 26; refine (ring_c _ (by omega) (by omega) _).mono ?_; rintro e w' ⟨rfl, k, rfl⟩)
  rw [rounds_succ]
  go_wp2_with (go_at_call 26; refine (ring_c _ (by omega) (by omega) _).mono ?_; rintro e w' ⟨rfl, k, rfl⟩)
  rw [rounds_succ]
  go_wp2
  go_returns
  exact ⟨rfl, by (repeat' (first | (with_reducible exact Below.refl _ _) | (with_reducible assumption) | (with_reducible refine drw ?_ _) | (with_reducible refine Below.alloc ?_ ?_ _) | (with_reducible refine Below.setCell ?_ ?_ _) | (with_reducible exact Nat.le_refl _) | (simp; done) | (simp; omega)))⟩

theorem passed_4_3 (l c0 c1 c2 c3 : Int) (l0 : 0 ≤ l) (l1 : l + 5 < 4294967296) (h : l % 4 = 3) (w : World) :
    Calls Try.prog 58 #[.agg #[.int .u32 l, .int .u32 c0, .int .u32 c1, .int .u32 c2, .int .u32 c3], .int .u32 (l + 5)] w fun e w' => e = .returned (.agg #[.int .u32 l, .int .u32 0, .int .u32 0, .int .u32 0, .int .u32 0]) ∧ Below w.heap.size w w' := by
  have hcl := run_clear w l c0 c1 c2 c3
  go_enter Try.func58, Try.ntmps58
  go_wp2
  refine wp_loop_rounds 5 ?_
  rw [rounds_succ]
  go_wp2_with (go_at_call 26; refine (ring_c _ (by omega) (by omega) _).mono ?_; rintro e w' ⟨rfl, k, rfl⟩)
  rw [rounds_succ]
  go_wp2_with (go_at_call 26; refine (ring_c _ (by omega) (by omega) _).mono ?_; rintro e w' ⟨rfl, k, rfl⟩)
  rw [rounds_succ]
  go_wp2_with (go_at_call 26; refine (ring_c _ (by omega) (by omega) _).mono ?_; rintro e w' ⟨rfl, k, rfl⟩)
  rw [rounds_succ]
  go_wp2_with (go_at_call 26; refine (ring_c _ (by omega) (by omega) _).mono ?_; rintro e w' ⟨rfl, k, rfl⟩)
  rw [rounds_succ]
  go_wp2
  go_returns
  exact ⟨rfl, by (repeat' (first | (with_reducible exact Below.refl _ _) | (with_reducible assumption) | (with_reducible refine drw ?_ _) | (with_reducible refine Below.alloc ?_ ?_ _) | (with_reducible refine Below.setCell ?_ ?_ _) | (with_reducible exact Nat.le_refl _) | (simp; done) | (simp; omega)))⟩

theorem passed_5_0 (l c0 c1 c2 c3 : Int) (l0 : 0 ≤ l) (sub : Int) (l1 : l + 6 ≤ sub) (s1 : sub < 4294967296) (h : l % 4 = 0) (w : World) :
    Calls Try.prog 58 #[.agg #[.int .u32 l, .int .u32 c0, .int .u32 c1, .int .u32 c2, .int .u32 c3], .int .u32 (sub)] w fun e w' => e = .returned (.agg #[.int .u32 l, .int .u32 0, .int .u32 0, .int .u32 0, .int .u32 0]) ∧ Below w.heap.size w w' := by
  have hcl := run_clear w l c0 c1 c2 c3
  go_enter Try.func58, Try.ntmps58
  go_wp2
  refine wp_loop_rounds 5 ?_
  rw [rounds_succ]
  go_wp2_with (go_at_call 26; refine (ring_c _ (by omega) (by omega) _).mono ?_; rintro e w' ⟨rfl, k, rfl⟩)
  rw [rounds_succ]
  go_wp2_with (go_at_call 26; refine (ring_c _ (by omega) (by omega) _).mono ?_; rintro e w' ⟨rfl, k, rfl⟩)
  rw [rounds_succ]
  go_wp2_with (go_at_call 26; refine (ring_c _ (by omega) (by omega) _).mono ?_; rintro e w' ⟨rfl, k, rfl⟩)
  rw [rounds_succ]
  go_wp2_with (go_at_call 26; refine (ring_c _ (by omega) (by omega) _).mono ?_; rintro e w' ⟨rfl, k, rfl⟩)
  rw [rounds_succ]
  go_wp2
  go_returns
  exact ⟨rfl, by (repeat' (first | (with_reducible exact Below.refl _ _) | (with_reducible assumption) | (with_reducible refine drw ?_ _) | (with_reducible refine Below.alloc ?_ ?_ _) | (with_reducible refine Below.setCell ?_ ?_ _) | (with_reducible exact Nat.le_refl _) | (simp; done) | (simp; omega)))⟩

theorem passed_5_1 (l c0 c1 c2 c3 : Int) (l0 : 0 ≤ l) (sub : Int) (l1 : l + 6 ≤ sub) (s1 : sub < 4294967296) (h : l % 4 = 1) (w : World) :
    Calls Try.prog 58 #[.agg #[.int .u32 l, .int .u32 c0, .int .u32 c1, .int .u32 c2, .int .u32 c3], .int .u32 (sub)] w fun e w' => e = .returned (.agg #[.int .u32 l, .int .u32 0, .int .u32 0, .int .u32 0, .int .u32 0]) ∧ Below w.heap.size w w' := by
  have hcl := run_clear w l c0 c1 c2 c3
  go_enter Try.func58, Try.ntmps58
  go_wp2
  refine wp_loop_rounds 5 ?_
  rw [rounds_succ]
  go_wp2_with (go_at_call 26; refine (ring_c _ (by omega) (by omega) _).mono ?_; rintro e w' ⟨rfl, k, rfl⟩)
  rw [rounds_succ]
  go_wp2_with (go_at_call 26; refine (ring_c _ (by omega) (by omega) _).mono ?_; rintro e w' ⟨rfl, k, rfl⟩)
  rw [rounds_succ]
  go_wp2_with (go_at_call 26; refine (ring_c _ (by omega) (by omega) _).mono ?_; rintro e w' ⟨rfl, k, rfl⟩)
  rw [rounds_succ]
  go_wp2_with (go_at_call 26; refine (ring_c _ (by omega) (by omega) _).mono ?_; rintro e w' ⟨rfl, k, rfl⟩)
  rw [rounds_succ]
  go_wp2
  go_returns
  exact ⟨rfl, by (repeat' (first | (with_reducible exact Below.refl _ _) | (with_reducible assumption) | (with_reducible refine drw ?_ _) | (with_reducible refine Below.alloc ?_ ?_ _) | (with_reducible refine Below.setCell ?_ ?_ _) | (with_reducible exact Nat.le_refl _) | (simp; done) | (simp; omega)))⟩

theorem passed_5_2 (l c0 c1 c2 c3 : Int) (l0 : 0 ≤ l) (sub : Int) (l1 : l + 6 ≤ sub) (s1 : sub < 4294967296) (h : l % 4 = 2) (w : World) :
    Calls Try.prog 58 #[.agg #[.int .u32 l, .int .u32 c0, .int .u32 c1, .int .u32 c2, .int .u32 c3], .int .u32 (sub)] w fun e w' => e = .returned (.agg #[.int .u32 l, .int .u32 0, .int .u32 0, .int .u32 0, .int .u32 0]) ∧ Below w.heap.size w w' := by
  have hcl := run_clear w l c0 c1 c2 c3
  go_enter Try.func58, Try.ntmps58
  go_wp2
  refine wp_loop_rounds 5 ?_
  rw [rounds_succ]
  go_wp2_with (go_at_call 26; refine (ring_c _ (by omega) (by omega) _).mono ?_; rintro e w' ⟨rfl, k, rfl⟩)
  rw [rounds_succ]
  go_wp2_with (go_at_call 26; refine (ring_c _ (by omega) (by omega) _).mono ?_; rintro e w' ⟨rfl, k, rfl⟩)
  rw [rounds_succ]
  go_wp2_with (go_at_call 26; refine (ring_c _ (by omega) (by omega) _).mono ?_; rintro e w' ⟨rfl, k, rfl⟩)
  rw [rounds_succ]
  go_wp2_with (go_at_call 26; refine (ring_c _ (by omega) (by omega) _).mono ?_; rintro e w' ⟨rfl, k, rfl⟩)
  rw [rounds_succ]
  go_wp2
  go_returns
  exact ⟨rfl, by (repeat' (first | (with_reducible exact Below.refl _ _) | (with_reducible assumption) | (with_reducible refine drw ?_ _) | (with_reducible refine Below.alloc ?_ ?_ _) | (with_reducible refine Below.setCell ?_ ?_ _) | (with_reducible exact Nat.le_refl _) | (simp; done) | (simp; omega)))⟩

theorem passed_5_3 (l c0 c1 c2 c3 : Int) (l0 : 0 ≤ l) (sub : Int) (l1 : l + 6 ≤ sub) (s1 : sub < 4294967296) (h : l % 4 = 3) (w : World) :
    Calls Try.prog 58 #[.agg #[.int .u32 l, .int .u32 c0, .int .u32 c1, .int .u32 c2, .int .u32 c3], .int .u32 (sub)] w fun e w' => e = .returned (.agg #[.int .u32 l, .int .u32 0, .int .u32 0, .int .u32 0, .int .u32 0]) ∧ Below w.heap.size w w' := by
  have hcl := run_clear w l c0 c1 c2 c3
  go_enter Try.func58, Try.ntmps58
  go_wp2
  refine wp_loop_rounds 5 ?_
  rw [rounds_succ]
  go_wp2_with (go_at_call 26; refine (ring_c _ (by omega) (by omega) _).mono ?_; rintro e w' ⟨rfl, k, rfl⟩)
  rw [rounds_succ]
  go_wp2_with (go_at_call 26; refine (ring_c _ (by omega) (by omega) _).mono ?_; rintro e w' ⟨rfl, k, rfl⟩)
  rw [rounds_succ]
  go_wp2_with (go_at_call 26; refine (ring_c _ (by omega) (by omega) _).mono ?_; rintro e w' ⟨rfl, k, rfl⟩)
  rw [rounds_succ]
  go_wp2_with (go_at_call 26; refine (ring_c _ (by omega) (by omega) _).mono ?_; rintro e w' ⟨rfl, k, rfl⟩)
  rw [rounds_succ]
  go_wp2
  go_returns
  exact ⟨rfl, by (repeat' (first | (with_reducible exact Below.refl _ _) | (with_reducible assumption) | (with_reducible refine drw ?_ _) | (with_reducible refine Below.alloc ?_ ?_ _) | (with_reducible refine Below.setCell ?_ ?_ _) | (with_reducible exact Nat.le_refl _) | (simp; done) | (simp; omega)))⟩

theorem ring_eq {l a0 a1 a2 a3 b0 b1 b2 b3 : Int} (h0 : a0 = b0) (h1 : a1 = b1) (h2 : a2 = b2) (h3 : a3 = b3) :
    Ending.returned (.agg #[.int .u32 l, .int .u32 a0, .int .u32 a1, .int .u32 a2, .int .u32 a3]) = .returned (.agg #[.int .u32 l, .int .u32 b0, .int .u32 b1, .int .u32 b2, .int .u32 b3]) := by rw [h0, h1, h2, h3]

theorem passed_c (l c0 c1 c2 c3 sub : Int) (l0 : 0 ≤ l) (hl : l < sub) (s1 : sub < 4294967296) (w : World) :
    Calls Try.prog 58 #[.agg #[.int .u32 l, .int .u32 c0, .int .u32 c1, .int .u32 c2, .int .u32 c3], .int .u32 sub] w fun e w' => e = .returned (.agg #[.int .u32 l, .int .u32 (keep l sub 0 c0), .int .u32 (keep l sub 1 c1), .int .u32 (keep l sub 2 c2), .int .u32 (keep l sub 3 c3)]) ∧ Below w.heap.size w w' := by
  have hr : l % 4 = 0 ∨ l % 4 = 1 ∨ l % 4 = 2 ∨ l % 4 = 3 := by omega
  have hd : sub = l + 1 ∨ sub = l + 2 ∨ sub = l + 3 ∨ sub = l + 4 ∨ sub = l + 5 ∨ l + 6 ≤ sub := by omega
  rcases hd with rfl | rfl | rfl | rfl | rfl | hd
  · rcases hr with h | h | h | h
    · refine (passed_0_0 l c0 c1 c2 c3 l0 (by omega) h w).mono ?_
      rintro e w' ⟨rfl, hb⟩
      exact ⟨ring_eq (by unfold keep; omega) (by unfold keep; omega) (by unfold keep; omega) (by unfold keep; omega), hb⟩
    · refine (passed_0_1 l c0 c1 c2 c3 l0 (by omega) h w).mono ?_
      rintro e w' ⟨rfl, hb⟩
      exact ⟨ring_eq (by unfold keep; omega) (by unfold keep; omega) (by unfold keep; omega) (by unfold keep; omega), hb⟩
    · refine (passed_0_2 l c0 c1 c2 c3 l0 (by omega) h w).mono ?_
      rintro e w' ⟨rfl, hb⟩
      exact ⟨ring_eq (by unfold keep; omega) (by unfold keep; omega) (by unfold keep; omega) (by unfold keep; omega), hb⟩
    · refine (passed_0_3 l c0 c1 c2 c3 l0 (by omega) h w).mono ?_
      rintro e w' ⟨rfl, hb⟩
      exact ⟨ring_eq (by unfold keep; omega) (by unfold keep; omega) (by unfold keep; omega) (by unfold keep; omega), hb⟩
  · rcases hr with h | h | h | h
    · refine (passed_1_0 l c0 c1 c2 c3 l0 (by omega) h w).mono ?_
      rintro e w' ⟨rfl, hb⟩
      exact ⟨ring_eq (by unfold keep; omega) (by unfold keep; omega) (by unfold keep; omega) (by unfold keep; omega), hb⟩
    · refine (passed_1_1 l c0 c1 c2 c3 l0 (by omega) h w).mono ?_
      rintro e w' ⟨rfl, hb⟩
      exact ⟨ring_eq (by unfold keep; omega) (by unfold keep; omega) (by unfold keep; omega) (by unfold keep; omega), hb⟩
    · refine (passed_1_2 l c0 c1 c2 c3 l0 (by omega) h w).mono ?_
      rintro e w' ⟨rfl, hb⟩
      exact ⟨ring_eq (by unfold keep; omega) (by unfold keep; omega) (by unfold keep; omega) (by unfold keep; omega), hb⟩
    · refine (passed_1_3 l c0 c1 c2 c3 l0 (by omega) h w).mono ?_
      rintro e w' ⟨rfl, hb⟩
      exact ⟨ring_eq (by unfold keep; omega) (by unfold keep; omega) (by unfold keep; omega) (by unfold keep; omega), hb⟩
  · rcases hr with h | h | h | h
    · refine (passed_2_0 l c0 c1 c2 c3 l0 (by omega) h w).mono ?_
      rintro e w' ⟨rfl, hb⟩
      exact ⟨ring_eq (by unfold keep; omega) (by unfold keep; omega) (by unfold keep; omega) (by unfold keep; omega), hb⟩
    · refine (passed_2_1 l c0 c1 c2 c3 l0 (by omega) h w).mono ?_
      rintro e w' ⟨rfl, hb⟩
      exact ⟨ring_eq (by unfold keep; omega) (by unfold keep; omega) (by unfold keep; omega) (by unfold keep; omega), hb⟩
    · refine (passed_2_2 l c0 c1 c2 c3 l0 (by omega) h w).mono ?_
      rintro e w' ⟨rfl, hb⟩
      exact ⟨ring_eq (by unfold keep; omega) (by unfold keep; omega) (by unfold keep; omega) (by unfold keep; omega), hb⟩
    · refine (passed_2_3 l c0 c1 c2 c3 l0 (by omega) h w).mono ?_
      rintro e w' ⟨rfl, hb⟩
      exact ⟨ring_eq (by unfold keep; omega) (by unfold keep; omega) (by unfold keep; omega) (by unfold keep; omega), hb⟩
  · rcases hr with h | h | h | h
    · refine (passed_3_0 l c0 c1 c2 c3 l0 (by omega) h w).mono ?_
      rintro e w' ⟨rfl, hb⟩
      exact ⟨ring_eq (by unfold keep; omega) (by unfold keep; omega) (by unfold keep; omega) (by unfold keep; omega), hb⟩
    · refine (passed_3_1 l c0 c1 c2 c3 l0 (by omega) h w).mono ?_
      rintro e w' ⟨rfl, hb⟩
      exact ⟨ring_eq (by unfold keep; omega) (by unfold keep; omega) (by unfold keep; omega) (by unfold keep; omega), hb⟩
    · refine (passed_3_2 l c0 c1 c2 c3 l0 (by omega) h w).mono ?_
      rintro e w' ⟨rfl, hb⟩
      exact ⟨ring_eq (by unfold keep; omega) (by unfold keep; omega) (by unfold keep; omega) (by unfold keep; omega), hb⟩
    · refine (passed_3_3 l c0 c1 c2 c3 l0 (by omega) h w).mono ?_
      rintro e w' ⟨rfl, hb⟩
      exact ⟨ring_eq (by unfold keep; omega) (by unfold keep; omega) (by unfold keep; omega) (by unfold keep; omega), hb⟩
  · rcases hr with h | h | h | h
    · refine (passed_4_0 l c0 c1 c2 c3 l0 (by omega) h w).mono ?_
      rintro e w' ⟨rfl, hb⟩
      exact ⟨ring_eq (by unfold keep; omega) (by unfold keep; omega) (by unfold keep; omega) (by unfold keep; omega), hb⟩
    · refine (passed_4_1 l c0 c1 c2 c3 l0 (by omega) h w).mono ?_
      rintro e w' ⟨rfl, hb⟩
      exact ⟨ring_eq (by unfold keep; omega) (by unfold keep; omega) (by unfold keep; omega) (by unfold keep; omega), hb⟩
    · refine (passed_4_2 l c0 c1 c2 c3 l0 (by omega) h w).mono ?_
      rintro e w' ⟨rfl, hb⟩
      exact ⟨ring_eq (by unfold keep; omega) (by unfold keep; omega) (by unfold keep; omega) (by unfold keep; omega), hb⟩
    · refine (passed_4_3 l c0 c1 c2 c3 l0 (by omega) h w).mono ?_
      rintro e w' ⟨rfl, hb⟩
      exact ⟨ring_eq (by unfold keep; omega) (by unfold keep; omega) (by unfold keep; omega) (by unfold keep; omega), hb⟩
  · rcases hr with h | h | h | h
    · refine (passed_5_0 l c0 c1 c2 c3 l0 sub hd s1 h w).mono ?_
      rintro e w' ⟨rfl, hb⟩
      exact ⟨ring_eq (by unfold keep; omega) (by unfold keep; omega) (by unfold keep; omega) (by unfold keep; omega), hb⟩
    · refine (passed_5_1 l c0 c1 c2 c3 l0 sub hd s1 h w).mono ?_
      rintro e w' ⟨rfl, hb⟩
      exact ⟨ring_eq (by unfold keep; omega) (by unfold keep; omega) (by unfold keep; omega) (by unfold keep; omega), hb⟩
    · refine (passed_5_2 l c0 c1 c2 c3 l0 sub hd s1 h w).mono ?_
      rintro e w' ⟨rfl, hb⟩
      exact ⟨ring_eq (by unfold keep; omega) (by unfold keep; omega) (by unfold keep; omega) (by unfold keep; omega), hb⟩
    · refine (passed_5_3 l c0 c1 c2 c3 l0 sub hd s1 h w).mono ?_
      rintro e w' ⟨rfl, hb⟩
      exact ⟨ring_eq (by unfold keep; omega) (by unfold keep; omega) (by unfold keep; omega) (by unfold keep; omega), hb⟩
end Go.Proofs.Ytaoelppkognakaa.Ring
