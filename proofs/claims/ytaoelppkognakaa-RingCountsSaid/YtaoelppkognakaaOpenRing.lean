/- A ring that comes in by value shows its five numbers: how the argument is opened. -/
import Derived.Test.YtaoelppkognakaaNum
import Derived.ProofKit
import Derived.OpenShut
import Derived.Lib.SmallJoins
namespace Go.Proofs.Ytaoelppkognakaa.OpenRing
open Go.ChangeShapes Go.WideShapes Go.ChangeAt Go.RowKit
set_option linter.unusedVariables false

theorem laidOut : laidOutB Try.prog = true := by kernel_rfl
theorem cells_ring : Try.prog.cellsOf 35 = 5 := by kernel_rfl
theorem cells_arr : Try.prog.cellsOf 33 = 4 := by kernel_rfl
theorem cells_u32 : Try.prog.cellsOf 22 = 1 := by kernel_rfl

theorem array5 (T : Array Value) (h : T.size = 5) : ∃ v0 v1 v2 v3 v4 : Value, T = #[v0, v1, v2, v3, v4] := by
  obtain ⟨l⟩ := T
  match l, h with
  | [a, b, c, d, e], _ => exact ⟨a, b, c, d, e, rfl⟩

variable {H : Type} {enc : TypeId × Value → H} {w : World} {base : Nat} {spare : Nat → Bool} {held : Bool}

/-- Four counts. -/
theorem counts {fuel : Nat} {v1 v2 v3 v4 : Value} {x : DataW H × List MemPlace} (h : DataW.trod enc Try.prog w base spare held fuel 33 [v1, v2, v3, v4] = some x) :
    ∃ c0 c1 c2 c3 : Int, v1 = .int .u32 c0 ∧ v2 = .int .u32 c1 ∧ v3 = .int .u32 c2 ∧ v4 = .int .u32 c3 ∧ x.2 = [] ∧ (Lit.int .u32 c0).wf = true ∧ (Lit.int .u32 c1).wf = true ∧ (Lit.int .u32 c2).wf = true ∧ (Lit.int .u32 c3).wf = true := by
  obtain ⟨xs, m, _, rfl, _, hlen, hx⟩ := DataW.trod_array Try.underlying33 h
  match xs, hlen with
  | [x0, x1, x2, x3], _ =>
    have e0 := hx 0 (by decide)
    have e1 := hx 1 (by decide)
    have e2 := hx 2 (by decide)
    have e3 := hx 3 (by decide)
    rw [cells_u32] at e0 e1 e2 e3
    simp only [Nat.zero_mul, Nat.one_mul, Nat.reduceMul, List.drop_zero, List.drop_succ_cons, List.take_succ_cons, List.take_zero, List.getElem?_cons_zero, List.getElem?_cons_succ] at e0 e1 e2 e3
    obtain ⟨c0, q0, r0, w0⟩ := DataW.trod_int Try.underlying22 e0
    obtain ⟨c1, q1, r1, w1⟩ := DataW.trod_int Try.underlying22 e1
    obtain ⟨c2, q2, r2, w2⟩ := DataW.trod_int Try.underlying22 e2
    obtain ⟨c3, q3, r3, w3⟩ := DataW.trod_int Try.underlying22 e3
    simp only [List.cons.injEq, and_true] at q0 q1 q2 q3
    exact ⟨c0, c1, c2, c3, q0, q1, q2, q3, by simp [r0, r1, r2, r3], w0, w1, w2, w3⟩

theorem open_ring {r : Reach} {b0 : Nat} {v : Value} {d : DataW H} {p : List MemPlace} (hv : Value.okWide Try.prog w r b0 35 v) (h : DataW.Trod enc Try.prog w base spare held 35 v d p) :
    ∃ l c0 c1 c2 c3 : Int, v = .agg #[.int .u32 l, .int .u32 c0, .int .u32 c1, .int .u32 c2, .int .u32 c3] ∧ p = [] ∧ (Lit.int .u32 l).wf = true ∧ (Lit.int .u32 c0).wf = true ∧ (Lit.int .u32 c1).wf = true ∧ (Lit.int .u32 c2).wf = true ∧ (Lit.int .u32 c3).wf = true := by
  obtain ⟨cs, rfl, hsz⟩ := okWide_struct Try.underlying35 hv
  obtain ⟨v0, v1, v2, v3, v4, rfl⟩ := array5 cs (hsz.trans cells_ring)
  obtain ⟨fuel, hf⟩ := h
  obtain ⟨y0, y1, n, hx, _, h0, h1⟩ := trod_struct2 Try.underlying35 hf
  simp only [Value.cells] at h0 h1
  rw [cells_u32] at h0
  rw [cells_arr] at h1
  simp only [List.drop_zero, List.drop_succ_cons, List.take_succ_cons, List.take_zero] at h0 h1
  obtain ⟨l, q0, r0, w0⟩ := DataW.trod_int Try.underlying22 h0
  obtain ⟨c0, c1, c2, c3, rfl, rfl, rfl, rfl, e, w1, w2, w3, w4⟩ := counts h1
  simp only [List.cons.injEq, and_true] at q0
  subst q0
  simp only [Prod.mk.injEq] at hx
  exact ⟨l, c0, c1, c2, c3, rfl, by rw [hx.2, r0, e]; rfl, w0, w1, w2, w3, w4⟩
end Go.Proofs.Ytaoelppkognakaa.OpenRing
