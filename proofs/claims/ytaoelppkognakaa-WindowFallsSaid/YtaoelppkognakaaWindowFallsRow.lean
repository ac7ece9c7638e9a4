/- WindowFalls: the row of the statement: whatever the input, the call returns true and the arguments read as before. No condition. -/
import Derived.Test.YtaoelppkognakaaRows
import Derived.WalkKit
import Derived.ProofKit
import Derived.OpenShut
import Derived.Test.YtaoelppkognakaaOpenRing
import Derived.Test.YtaoelppkognakaaWindowFalls
import Derived.Test.YtaoelppkognakaaOpenWin
namespace Go.Proofs.Ytaoelppkognakaa.windowFalls
open Go.ChangeShapes Go.WideShapes Go.ChangeAt Go.RowKit
set_option linter.unusedVariables false

theorem own : ownKnob Try.prog.godebug = none := by kernel_rfl

theorem walk (m0 l0 c0_0 c1_0 c2_0 c3_0 : Int) (wm0 : (Lit.int .u32 m0).wf = true) (wl0 : (Lit.int .u32 l0).wf = true) (w0_0 : (Lit.int .u32 c0_0).wf = true) (w1_0 : (Lit.int .u32 c1_0).wf = true) (w2_0 : (Lit.int .u32 c2_0).wf = true) (w3_0 : (Lit.int .u32 c3_0).wf = true) (a1 : Int) (w1 : (Lit.int .u32 a1).wf = true) (a2 : Int) (w2 : (Lit.int .u32 a2).wf = true) (w : World) :
    Calls Try.prog 12 #[.agg #[.int .u32 m0, .int .u32 l0, .int .u32 c0_0, .int .u32 c1_0, .int .u32 c2_0, .int .u32 c3_0], .int .u32 a1, .int .u32 a2] w fun e w' => e = .returned (.bool true) ∧ Below w.heap.size w w' :=
  Window.windowFalls_c m0 l0 c0_0 c1_0 c2_0 c3_0 a1 a2 (Num.u32 wl0).1 (Num.u32 wl0).2 (Num.u32 w0_0).1 (Num.u32 w0_0).2 (Num.u32 w1_0).1 (Num.u32 w1_0).2 (Num.u32 w2_0).1 (Num.u32 w2_0).2 (Num.u32 w3_0).1 (Num.u32 w3_0).2 (Num.u32 w1).1 (Num.u32 w1).2 (Num.u32 w2).1 (Num.u32 w2).2 w

set_option maxRecDepth 100000 in
theorem lifted (os : Os) (started : os.Started) (H : Type) (enc : TypeId × Value → H) :
    ReturnsInHanded {} Try.checked os 12 .any (Rows.windowFallsSpec.pre6 enc Try.prog Try.f12 Rows.windowFallsRow.domain false) (Rows.windowFallsSpec.post enc Try.prog Try.f12 false true false false) := by
  refine returnsInHanded_of_change (C := Try.checked) own started (by kernel_rfl) Try.func12
    (ChangeSpec.witness6 (enc := enc) (C := Try.checked) false ⟨#[], #[.agg #[.int .u32 0, .int .u32 0, .int .u32 0, .int .u32 0, .int .u32 0, .int .u32 0], .int .u32 0, .int .u32 0], []⟩ 8 (by kernel_rfl) (by kernel_rfl) (by kernel_rfl) (by kernel_rfl)) ?_
  intro W base args ds gs before hval0 hW hcnd _
  have hval : ∀ (j : Nat) t v, Try.f12.params[j]? = some t → args[j]? = some v → Value.okWide Try.prog W .any base t v := hval0
  have hW' := hW
  obtain ⟨p, q, hA0, hV, rfl, hfz, hnd⟩ := hW
  have hA : DataW.TrodAll enc Try.prog W 0 (fun _ => true) true Try.f12.params.toList args.toList ds p := hA0
  rw [Try.params12] at hA hval
  obtain ⟨v0, vs0, d0, ds0, p0, q0, hargs, rfl, rfl, h0, r0⟩ := trodAll_cons hA
  obtain ⟨v1, vs1, d1, ds1, p1, q1, rfl, rfl, rfl, h1, r1⟩ := trodAll_cons r0
  obtain ⟨v2, vs2, d2, ds2, p2, q2, rfl, rfl, rfl, h2, r2⟩ := trodAll_cons r1
  obtain ⟨rfl, rfl, rfl⟩ := trodAll_nil r2
  obtain rfl : args = #[v0, v1, v2] := by cases args; simp_all
  obtain ⟨rfl, rfl⟩ := trodVars_none hV
  have k0 := h0
  obtain ⟨m0, l0, c0_0, c1_0, c2_0, c3_0, rfl, rfl, wm0, wl0, w0_0, w1_0, w2_0, w3_0⟩ := OpenRing.open_win (hval 0 55 v0 rfl rfl) h0
  obtain ⟨a1, rfl, rfl, rfl, w1⟩ := open_int Try.underlying22 (hval 1 22 v1 rfl rfl) h1
  obtain ⟨a2, rfl, rfl, rfl, w2⟩ := open_int Try.underlying22 (hval 2 22 v2 rfl rfl) h2
  clear hA0 hval0
  refine (walk m0 l0 c0_0 c1_0 c2_0 c3_0 wm0 wl0 w0_0 w1_0 w2_0 w3_0 a1 w1 a2 w2 W).mono fun e W' ⟨he, bel⟩ => ?_
  subst he
  exact ⟨_, rfl, _, _, _, [], _, [], hW', trodAll_cons_mk (shut_bool Try.underlying4 _) trodAll_mk0, trodAll_cons_mk (Below.trod OpenRing.laidOut (by kernel_rfl) (of_decide_eq_true (by kernel_rfl)) k0 bel (fun x hx => by cases hx)) (trodAll_cons_mk (shut_int Try.underlying22 w1) (trodAll_cons_mk (shut_int Try.underlying22 w2) (trodAll_mk0))), rfl, bel.frame _, fun h => by cases h⟩

theorem over : Rows.windowFallsRow.holds Try.pinned (OpenSpec.ofChange Rows.windowFallsSpec) :=
  OpenClaim.holds_of_wide 12 Try.f12 rfl rfl rfl rfl rfl rfl rfl ⟨rfl, rfl, rfl, rfl, rfl⟩ rfl rfl rfl rfl rfl (by kernel_rfl) Try.func12 (by kernel_rfl)
    (of_decide_eq_true (by kernel_rfl)) (by unfold Func.isWrapper; first | (rw [if_pos (by decide +kernel)]; kernel_rfl) | (rw [if_neg (by decide +kernel)]; exact ⟨rfl, rfl⟩))
    (fun os started H enc _ => lifted os started H enc)

theorem proved : Rows.WindowFallsSaid :=
  over
#print axioms proved
end Go.Proofs.Ytaoelppkognakaa.windowFalls
namespace Go.Proofs.Ytaoelppkognakaa
/-- The row, under a short name, for the claim. -/
theorem windowFalls_holds : Rows.WindowFallsSaid := windowFalls.proved
end Go.Proofs.Ytaoelppkognakaa
