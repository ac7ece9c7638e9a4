/- Contracts of rings' functions at a known answer. -/
import Derived.Test.YtaoelppkognakaaRingAwake
import Derived.Test.YtaoelppkognakaaWorld3
namespace Go.Proofs.Ytaoelppkognakaa.RingU
open Go.RowKit Go.Proofs.Ytaoelppkognakaa.Num Go.Proofs.Ytaoelppkognakaa.Slot Go.Proofs.Ytaoelppkognakaa.Ring Go.Proofs.Ytaoelppkognakaa.RefRing Go.Proofs.Ytaoelppkognakaa.Wd
set_option linter.unusedVariables false

theorem right_is {r : Bool} (l c0 c1 c2 c3 : Int) (l0 : 0 ≤ l) (l1 : l < 4294967296) (b0 : 0 ≤ c0) (g0 : c0 < 4294967296) (b1 : 0 ≤ c1) (g1 : c1 < 4294967296) (b2 : 0 ≤ c2) (g2 : c2 < 4294967296) (b3 : 0 ≤ c3) (g3 : c3 < 4294967296) (h : Hid (rightB l c0 c1 c2 c3 = r)) (w : World) :
    Calls Try.prog 30 #[.agg #[.int .u32 l, .int .u32 c0, .int .u32 c1, .int .u32 c2, .int .u32 c3]] w fun e w' => e = .returned (.bool r) ∧ Below w.heap.size w w' := by
  rw [← h.out]; exact right_c l c0 c1 c2 c3 l0 l1 b0 g0 b1 g1 b2 g2 b3 g3 w
theorem refRight_is {r : Bool} (l c0 c1 c2 c3 : Int) (l0 : 0 ≤ l) (l1 : l < 4294967296) (b0 : 0 ≤ c0) (g0 : c0 < 4294967296) (b1 : 0 ≤ c1) (g1 : c1 < 4294967296) (b2 : 0 ≤ c2) (g2 : c2 < 4294967296) (b3 : 0 ≤ c3) (g3 : c3 < 4294967296) (h : Hid (rightB l c0 c1 c2 c3 = r)) (w : World) :
    Calls Try.prog 31 #[.agg #[.int .u32 l, .int .u32 c0, .int .u32 c1, .int .u32 c2, .int .u32 c3]] w fun e w' => e = .returned (.bool r) ∧ Below w.heap.size w w' := by
  rw [← h.out]; exact refRight_c l c0 c1 c2 c3 l0 l1 b0 g0 b1 g1 b2 g2 b3 g3 w
theorem sum_is (l c0 c1 c2 c3 s : Int) (b0 : 0 ≤ c0) (g0 : c0 < 4294967296) (b1 : 0 ≤ c1) (g1 : c1 < 4294967296) (b2 : 0 ≤ c2) (g2 : c2 < 4294967296) (b3 : 0 ≤ c3) (g3 : c3 < 4294967296) (hs : c0 + c1 + c2 + c3 < 4294967296) (h : Hid (c0 + c1 + c2 + c3 = s)) (w : World) :
    Calls Try.prog 38 #[.agg #[.int .u32 l, .int .u32 c0, .int .u32 c1, .int .u32 c2, .int .u32 c3]] w fun e w' => e = .returned (.int .u32 s) ∧ Below w.heap.size w w' := by
  rw [← h.out]; exact sum_c l c0 c1 c2 c3 b0 g0 b1 g1 b2 g2 b3 g3 hs w
theorem neq_same (a0 a1 a2 a3 a4 : Int) (w : World) : (binOp .neq 35 (.agg #[.int .u32 a0, .int .u32 a1, .int .u32 a2, .int .u32 a3, .int .u32 a4]) (.agg #[.int .u32 a0, .int .u32 a1, .int .u32 a2, .int .u32 a3, .int .u32 a4])).run Try.prog w = .ok (.bool false) w := by
  rw [neq_ring, show same5 a0 a1 a2 a3 a4 a0 a1 a2 a3 a4 = true from by unfold same5 same4; simp]
  rfl
theorem eql_same (a0 a1 a2 a3 a4 : Int) (w : World) : (binOp .eql 38 (.agg #[.int .u32 a0, .int .u32 a1, .int .u32 a2, .int .u32 a3, .int .u32 a4]) (.agg #[.int .u32 a0, .int .u32 a1, .int .u32 a2, .int .u32 a3, .int .u32 a4])).run Try.prog w = .ok (.bool true) w := by
  rw [eql_rring, show same5 a0 a1 a2 a3 a4 a0 a1 a2 a3 a4 = true from by unfold same5 same4; simp]
theorem eql_self (a0 a1 a2 a3 a4 : Int) (w : World) : (binOp .eql 35 (.agg #[.int .u32 a0, .int .u32 a1, .int .u32 a2, .int .u32 a3, .int .u32 a4]) (.agg #[.int .u32 a0, .int .u32 a1, .int .u32 a2, .int .u32 a3, .int .u32 a4])).run Try.prog w = .ok (.bool true) w := by
  rw [eql_ring, show same5 a0 a1 a2 a3 a4 a0 a1 a2 a3 a4 = true from by unfold same5 same4; simp]
end Go.Proofs.Ytaoelppkognakaa.RingU
