/- A window state that comes in by value shows its six numbers: how the argument is opened. -/
import Derived.Test.YtaoelppkognakaaOpenRing
namespace Go.Proofs.Ytaoelppkognakaa.OpenRing
open Go.ChangeShapes Go.WideShapes Go.ChangeAt Go.RowKit
set_option linter.unusedVariables false

theorem cells_win : Try.prog.cellsOf 55 = 6 := by kernel_rfl

theorem array6 (T : Array Value) (h : T.size = 6) : ∃ v0 v1 v2 v3 v4 v5 : Value, T = #[v0, v1, v2, v3, v4, v5] := by
  obtain ⟨l⟩ := T
  match l, h with
  | [a, b, c, d, e, f], _ => exact ⟨a, b, c, d, e, f, rfl⟩

variable {H : Type} {enc : TypeId × Value → H} {w : World} {base : Nat} {spare : Nat → Bool} {held : Bool}

theorem ring_in {fuel : Nat} {v0 v1 v2 v3 v4 : Value} {x : DataW H × List MemPlace} (h : DataW.trod enc Try.prog w base spare held fuel 35 [v0, v1, v2, v3, v4] = some x) :
    ∃ l c0 c1 c2 c3 : Int, v0 = .int .u32 l ∧ v1 = .int .u32 c0 ∧ v2 = .int .u32 c1 ∧ v3 = .int .u32 c2 ∧ v4 = .int .u32 c3 ∧ x.2 = [] ∧ (Lit.int .u32 l).wf = true ∧ (Lit.int .u32 c0).wf = true ∧ (Lit.int .u32 c1).wf = true ∧ (Lit.int .u32 c2).wf = true ∧ (Lit.int .u32 c3).wf = true := by
  obtain ⟨x1, x2⟩ := x
  obtain ⟨y0, y1, n, hx, _, h0, h1⟩ := trod_struct2 Try.underlying35 h
  rw [cells_u32] at h0
  rw [cells_arr] at h1
  simp only [List.drop_zero, List.drop_succ_cons, List.take_succ_cons, List.take_zero] at h0 h1
  obtain ⟨l, q0, r0, w0⟩ := DataW.trod_int Try.underlying22 h0
  obtain ⟨c0, c1, c2, c3, rfl, rfl, rfl, rfl, e, w1, w2, w3, w4⟩ := counts h1
  simp only [List.cons.injEq, and_true] at q0
  subst q0
  simp only [Prod.mk.injEq] at hx
  exact ⟨l, c0, c1, c2, c3, rfl, rfl, rfl, rfl, rfl, by rw [hx.2, r0, e]; rfl, w0, w1, w2, w3, w4⟩

theorem open_win {r : Reach} {b0 : Nat} {v : Value} {d : DataW H} {p : List MemPlace} (hv : Value.okWide Try.prog w r b0 55 v) (h : DataW.Trod enc Try.prog w base spare held 55 v d p) :
    ∃ m l c0 c1 c2 c3 : Int, v = .agg #[.int .u32 m, .int .u32 l, .int .u32 c0, .int .u32 c1, .int .u32 c2, .int .u32 c3] ∧ p = [] ∧ (Lit.int .u32 m).wf = true ∧ (Lit.int .u32 l).wf = true ∧ (Lit.int .u32 c0).wf = true ∧ (Lit.int .u32 c1).wf = true ∧ (Lit.int .u32 c2).wf = true ∧ (Lit.int .u32 c3).wf = true := by
  obtain ⟨cs, rfl, hsz⟩ := okWide_struct Try.underlying55 hv
  obtain ⟨v0, v1, v2, v3, v4, v5, rfl⟩ := array6 cs (hsz.trans cells_win)
  obtain ⟨fuel, hf⟩ := h
  obtain ⟨y0, y1, n, hx, _, h0, h1⟩ := trod_struct2 Try.underlying55 hf
  simp only [Value.cells] at h0 h1
  rw [cells_u32] at h0
  rw [cells_ring] at h1
  simp only [List.drop_zero, List.drop_succ_cons, List.take_succ_cons, List.take_zero] at h0 h1
  obtain ⟨m, q0, r0, w0⟩ := DataW.trod_int Try.underlying22 h0
  obtain ⟨l, c0, c1, c2, c3, rfl, rfl, rfl, rfl, rfl, e, w1, w2, w3, w4, w5⟩ := ring_in h1
  simp only [List.cons.injEq, and_true] at q0
  subst q0
  simp only [Prod.mk.injEq] at hx
  exact ⟨m, l, c0, c1, c2, c3, rfl, by rw [hx.2, r0, e]; rfl, w0, w1, w2, w3, w4, w5⟩
end Go.Proofs.Ytaoelppkognakaa.OpenRing
