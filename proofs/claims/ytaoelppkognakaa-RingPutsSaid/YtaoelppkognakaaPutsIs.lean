/- Contracts for RingPuts: one block more behind a ring, at known counts. -/
import Derived.Test.YtaoelppkognakaaRingFades
namespace Go.Proofs.Ytaoelppkognakaa.RingU
open Go.RowKit Go.Proofs.Ytaoelppkognakaa.Num Go.Proofs.Ytaoelppkognakaa.Slot Go.Proofs.Ytaoelppkognakaa.Ring Go.Proofs.Ytaoelppkognakaa.RefRing Go.Proofs.Ytaoelppkognakaa.Wd
set_option linter.unusedVariables false
set_option linter.unusedSimpArgs false
set_option maxRecDepth 100000

/-- Three own blocks, of which the last one is let go. -/
theorem drop3 {w0 v : World} {a : Nat} {AA : Array Value} {ta : TypeId} {b : Nat} {BB : Array Value} {tb : TypeId} {c : Nat} {CC : Array Value} {tc : TypeId} (hB : Below w0.heap.size w0 v)
    (la : w0.heap.size ≤ a) (lb : w0.heap.size ≤ b) (lc : w0.heap.size ≤ c) (ua : a < v.heap.size) (ub : b < v.heap.size) (nab : a ≠ b) (nac : a ≠ c) (nbc : b ≠ c) :
    ∃ v', put (put (put v a AA ta) b BB tb) c CC tc = put (put v' a AA ta) b BB tb ∧ a < v'.heap.size ∧ b < v'.heap.size ∧ Below w0.heap.size w0 v' := by
  refine ⟨put (put (put v a AA ta) b BB tb) c CC tc, ?_, by simp only [size_put]; exact ua, by simp only [size_put]; exact ub, below_put _ _ _ _ (below_put _ _ _ _ (below_put _ _ _ _ hB la) lb) lc⟩
  rw [put_self (put (put (put v a AA ta) b BB tb) c CC tc) a AA ta, put_self (put (put (put v a AA ta) b BB tb) c CC tc) b BB tb]
  · rw [heap_put_other _ _ _ _ nbc]
    exact heap_put_same _ _ _ _ (by simp only [size_put]; exact ub)
  · rw [heap_put_other _ _ _ _ nac, heap_put_other _ _ _ _ nab]
    exact heap_put_same _ _ _ _ ua

theorem put_first0 (l c0 c1 c2 c3 a k0 k1 k2 k3 : Int) (l0 : 0 ≤ l) (a0 : 0 ≤ a) (s1 : l + (a + 1) < 4294967296) (b0 : 0 ≤ c0) (d0 : c0 ≤ 3) (b1 : 0 ≤ c1) (d1 : c1 ≤ 3) (b2 : 0 ≤ c2) (d2 : c2 ≤ 3) (b3 : 0 ≤ c3) (d3 : c3 ≤ 3) (hq : (l + (a + 1)) % 4 = 0) (e0 : Hid (keep l (l + (a + 1)) 0 c0 = k0)) (e1 : Hid (keep l (l + (a + 1)) 1 c1 = k1)) (e2 : Hid (keep l (l + (a + 1)) 2 c2 = k2)) (e3 : Hid (keep l (l + (a + 1)) 3 c3 = k3)) (w : World) :
    Calls Try.prog 36 #[.agg #[.int .u32 l, .int .u32 c0, .int .u32 c1, .int .u32 c2, .int .u32 c3], .int .u32 (l + (a + 1))] w fun e w' => e = .returned (.tuple #[.agg #[.int .u32 (l + (a + 1)), .int .u32 1, .int .u32 k1, .int .u32 k2, .int .u32 k3], .int .i64 0]) ∧ Below w.heap.size w w' := by
  refine (put_later0 l c0 c1 c2 c3 (l + (a + 1)) l0 s1 (by omega) hq w).mono ?_
  rintro e w' ⟨rfl, hb⟩
  exact ⟨two_eq rfl rfl e1.out e2.out e3.out, hb⟩
theorem put_more0 (l a j k1 k2 k3 : Int) (l0 : 0 ≤ l) (a0 : 0 ≤ a) (s1 : l + (a + 1) < 4294967296) (hq : (l + (a + 1)) % 4 = 0) (j0 : 0 ≤ j) (j1 : j < 3) (w : World) :
    Calls Try.prog 36 #[.agg #[.int .u32 (l + (a + 1)), .int .u32 j, .int .u32 k1, .int .u32 k2, .int .u32 k3], .int .u32 (l + (a + 1))] w fun e w' => e = .returned (.tuple #[.agg #[.int .u32 (l + (a + 1)), .int .u32 (j + 1), .int .u32 k1, .int .u32 k2, .int .u32 k3], .int .i64 0]) ∧ Below w.heap.size w w' :=
  put_here0 (l + (a + 1)) j k1 k2 k3 (by omega) s1 hq j0 j1 w
theorem put_three0 (l a k1 k2 k3 : Int) (l0 : 0 ≤ l) (a0 : 0 ≤ a) (s1 : l + (a + 1) < 4294967296) (hq : (l + (a + 1)) % 4 = 0) (w : World) :
    Calls Try.prog 36 #[.agg #[.int .u32 (l + (a + 1)), .int .u32 3, .int .u32 k1, .int .u32 k2, .int .u32 k3], .int .u32 (l + (a + 1))] w fun e w' => e = .returned (.tuple #[.agg #[.int .u32 0, .int .u32 0, .int .u32 0, .int .u32 0, .int .u32 0], .int .i64 11]) ∧ Below w.heap.size w w' :=
  put_full0 (l + (a + 1)) 3 k1 k2 k3 (by omega) s1 hq (by decide) w

theorem put_first1 (l c0 c1 c2 c3 a k0 k1 k2 k3 : Int) (l0 : 0 ≤ l) (a0 : 0 ≤ a) (s1 : l + (a + 1) < 4294967296) (b0 : 0 ≤ c0) (d0 : c0 ≤ 3) (b1 : 0 ≤ c1) (d1 : c1 ≤ 3) (b2 : 0 ≤ c2) (d2 : c2 ≤ 3) (b3 : 0 ≤ c3) (d3 : c3 ≤ 3) (hq : (l + (a + 1)) % 4 = 1) (e0 : Hid (keep l (l + (a + 1)) 0 c0 = k0)) (e1 : Hid (keep l (l + (a + 1)) 1 c1 = k1)) (e2 : Hid (keep l (l + (a + 1)) 2 c2 = k2)) (e3 : Hid (keep l (l + (a + 1)) 3 c3 = k3)) (w : World) :
    Calls Try.prog 36 #[.agg #[.int .u32 l, .int .u32 c0, .int .u32 c1, .int .u32 c2, .int .u32 c3], .int .u32 (l + (a + 1))] w fun e w' => e = .returned (.tuple #[.agg #[.int .u32 (l + (a + 1)), .int .u32 k0, .int .u32 1, .int .u32 k2, .int .u32 k3], .int .i64 0]) ∧ Below w.heap.size w w' := by
  refine (put_later1 l c0 c1 c2 c3 (l + (a + 1)) l0 s1 (by omega) hq w).mono ?_
  rintro e w' ⟨rfl, hb⟩
  exact ⟨two_eq rfl e0.out rfl e2.out e3.out, hb⟩
theorem put_more1 (l a j k0 k2 k3 : Int) (l0 : 0 ≤ l) (a0 : 0 ≤ a) (s1 : l + (a + 1) < 4294967296) (hq : (l + (a + 1)) % 4 = 1) (j0 : 0 ≤ j) (j1 : j < 3) (w : World) :
    Calls Try.prog 36 #[.agg #[.int .u32 (l + (a + 1)), .int .u32 k0, .int .u32 j, .int .u32 k2, .int .u32 k3], .int .u32 (l + (a + 1))] w fun e w' => e = .returned (.tuple #[.agg #[.int .u32 (l + (a + 1)), .int .u32 k0, .int .u32 (j + 1), .int .u32 k2, .int .u32 k3], .int .i64 0]) ∧ Below w.heap.size w w' :=
  put_here1 (l + (a + 1)) k0 j k2 k3 (by omega) s1 hq j0 j1 w
theorem put_three1 (l a k0 k2 k3 : Int) (l0 : 0 ≤ l) (a0 : 0 ≤ a) (s1 : l + (a + 1) < 4294967296) (hq : (l + (a + 1)) % 4 = 1) (w : World) :
    Calls Try.prog 36 #[.agg #[.int .u32 (l + (a + 1)), .int .u32 k0, .int .u32 3, .int .u32 k2, .int .u32 k3], .int .u32 (l + (a + 1))] w fun e w' => e = .returned (.tuple #[.agg #[.int .u32 0, .int .u32 0, .int .u32 0, .int .u32 0, .int .u32 0], .int .i64 11]) ∧ Below w.heap.size w w' :=
  put_full1 (l + (a + 1)) k0 3 k2 k3 (by omega) s1 hq (by decide) w

theorem put_first2 (l c0 c1 c2 c3 a k0 k1 k2 k3 : Int) (l0 : 0 ≤ l) (a0 : 0 ≤ a) (s1 : l + (a + 1) < 4294967296) (b0 : 0 ≤ c0) (d0 : c0 ≤ 3) (b1 : 0 ≤ c1) (d1 : c1 ≤ 3) (b2 : 0 ≤ c2) (d2 : c2 ≤ 3) (b3 : 0 ≤ c3) (d3 : c3 ≤ 3) (hq : (l + (a + 1)) % 4 = 2) (e0 : Hid (keep l (l + (a + 1)) 0 c0 = k0)) (e1 : Hid (keep l (l + (a + 1)) 1 c1 = k1)) (e2 : Hid (keep l (l + (a + 1)) 2 c2 = k2)) (e3 : Hid (keep l (l + (a + 1)) 3 c3 = k3)) (w : World) :
    Calls Try.prog 36 #[.agg #[.int .u32 l, .int .u32 c0, .int .u32 c1, .int .u32 c2, .int .u32 c3], .int .u32 (l + (a + 1))] w fun e w' => e = .returned (.tuple #[.agg #[.int .u32 (l + (a + 1)), .int .u32 k0, .int .u32 k1, .int .u32 1, .int .u32 k3], .int .i64 0]) ∧ Below w.heap.size w w' := by
  refine (put_later2 l c0 c1 c2 c3 (l + (a + 1)) l0 s1 (by omega) hq w).mono ?_
  rintro e w' ⟨rfl, hb⟩
  exact ⟨two_eq rfl e0.out e1.out rfl e3.out, hb⟩
theorem put_more2 (l a j k0 k1 k3 : Int) (l0 : 0 ≤ l) (a0 : 0 ≤ a) (s1 : l + (a + 1) < 4294967296) (hq : (l + (a + 1)) % 4 = 2) (j0 : 0 ≤ j) (j1 : j < 3) (w : World) :
    Calls Try.prog 36 #[.agg #[.int .u32 (l + (a + 1)), .int .u32 k0, .int .u32 k1, .int .u32 j, .int .u32 k3], .int .u32 (l + (a + 1))] w fun e w' => e = .returned (.tuple #[.agg #[.int .u32 (l + (a + 1)), .int .u32 k0, .int .u32 k1, .int .u32 (j + 1), .int .u32 k3], .int .i64 0]) ∧ Below w.heap.size w w' :=
  put_here2 (l + (a + 1)) k0 k1 j k3 (by omega) s1 hq j0 j1 w
theorem put_three2 (l a k0 k1 k3 : Int) (l0 : 0 ≤ l) (a0 : 0 ≤ a) (s1 : l + (a + 1) < 4294967296) (hq : (l + (a + 1)) % 4 = 2) (w : World) :
    Calls Try.prog 36 #[.agg #[.int .u32 (l + (a + 1)), .int .u32 k0, .int .u32 k1, .int .u32 3, .int .u32 k3], .int .u32 (l + (a + 1))] w fun e w' => e = .returned (.tuple #[.agg #[.int .u32 0, .int .u32 0, .int .u32 0, .int .u32 0, .int .u32 0], .int .i64 11]) ∧ Below w.heap.size w w' :=
  put_full2 (l + (a + 1)) k0 k1 3 k3 (by omega) s1 hq (by decide) w

theorem put_first3 (l c0 c1 c2 c3 a k0 k1 k2 k3 : Int) (l0 : 0 ≤ l) (a0 : 0 ≤ a) (s1 : l + (a + 1) < 4294967296) (b0 : 0 ≤ c0) (d0 : c0 ≤ 3) (b1 : 0 ≤ c1) (d1 : c1 ≤ 3) (b2 : 0 ≤ c2) (d2 : c2 ≤ 3) (b3 : 0 ≤ c3) (d3 : c3 ≤ 3) (hq : (l + (a + 1)) % 4 = 3) (e0 : Hid (keep l (l + (a + 1)) 0 c0 = k0)) (e1 : Hid (keep l (l + (a + 1)) 1 c1 = k1)) (e2 : Hid (keep l (l + (a + 1)) 2 c2 = k2)) (e3 : Hid (keep l (l + (a + 1)) 3 c3 = k3)) (w : World) :
    Calls Try.prog 36 #[.agg #[.int .u32 l, .int .u32 c0, .int .u32 c1, .int .u32 c2, .int .u32 c3], .int .u32 (l + (a + 1))] w fun e w' => e = .returned (.tuple #[.agg #[.int .u32 (l + (a + 1)), .int .u32 k0, .int .u32 k1, .int .u32 k2, .int .u32 1], .int .i64 0]) ∧ Below w.heap.size w w' := by
  refine (put_later3 l c0 c1 c2 c3 (l + (a + 1)) l0 s1 (by omega) hq w).mono ?_
  rintro e w' ⟨rfl, hb⟩
  exact ⟨two_eq rfl e0.out e1.out e2.out rfl, hb⟩
theorem put_more3 (l a j k0 k1 k2 : Int) (l0 : 0 ≤ l) (a0 : 0 ≤ a) (s1 : l + (a + 1) < 4294967296) (hq : (l + (a + 1)) % 4 = 3) (j0 : 0 ≤ j) (j1 : j < 3) (w : World) :
    Calls Try.prog 36 #[.agg #[.int .u32 (l + (a + 1)), .int .u32 k0, .int .u32 k1, .int .u32 k2, .int .u32 j], .int .u32 (l + (a + 1))] w fun e w' => e = .returned (.tuple #[.agg #[.int .u32 (l + (a + 1)), .int .u32 k0, .int .u32 k1, .int .u32 k2, .int .u32 (j + 1)], .int .i64 0]) ∧ Below w.heap.size w w' :=
  put_here3 (l + (a + 1)) k0 k1 k2 j (by omega) s1 hq j0 j1 w
theorem put_three3 (l a k0 k1 k2 : Int) (l0 : 0 ≤ l) (a0 : 0 ≤ a) (s1 : l + (a + 1) < 4294967296) (hq : (l + (a + 1)) % 4 = 3) (w : World) :
    Calls Try.prog 36 #[.agg #[.int .u32 (l + (a + 1)), .int .u32 k0, .int .u32 k1, .int .u32 k2, .int .u32 3], .int .u32 (l + (a + 1))] w fun e w' => e = .returned (.tuple #[.agg #[.int .u32 0, .int .u32 0, .int .u32 0, .int .u32 0, .int .u32 0], .int .i64 11]) ∧ Below w.heap.size w w' :=
  put_full3 (l + (a + 1)) k0 k1 k2 3 (by omega) s1 hq (by decide) w
end Go.Proofs.Ytaoelppkognakaa.RingU
