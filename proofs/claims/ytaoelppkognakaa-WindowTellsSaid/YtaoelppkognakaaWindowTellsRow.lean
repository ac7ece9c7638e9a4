/- WindowTells: the row of the statement: whatever the input, the call returns true and the arguments read as before. No condition. -/
import Derived.Test.YtaoelppkognakaaRows
import Derived.WalkKit
import Derived.ProofKit
import Derived.OpenShut
import Derived.Test.YtaoelppkognakaaOpenRing
import Derived.Test.YtaoelppkognakaaWindowTells
import Derived.Test.YtaoelppkognakaaOpenWin
namespace Go.Proofs.Ytaoelppkognakaa.windowTells
open Go.ChangeShapes Go.WideShapes Go.ChangeAt Go.RowKit
set_option linter.unusedVariables false

theorem own : ownKnob Try.prog.godebug = none := by kernel_rfl

theorem walk (m0 l0 c0_0 c1_0 c2_0 c3_0 : Int) (wm0 : (Lit.int .u32 m0).wf = true) (wl0 : (Lit.int .u32 l0).wf = true) (w0_0 : (Lit.int .u32 c0_0).wf = true) (w1_0 : (Lit.int .u32 c1_0).wf = true) (w2_0 : (Lit.int .u32 c2_0).wf = true) (w3_0 : (Lit.int .u32 c3_0).wf = true) (a1 : Int) (w1 : (Lit.int .u32 a1).wf = true) (w : World) :
    Calls Try.prog 10 #[.agg #[.int .u32 m0, .int .u32 l0, .int .u32 c0_0, .int .u32 c1_0, .int .u32 c2_0, .int .u32 c3_0], .int .u32 a1] w fun e w' => e = .returned (.bool true) ∧ Below w.heap.size w w' :=
  WinTells.windowTells_c m0 l0 c0_0 c1_0 c2_0 c3_0 a1 (Num.u32 wl0).1 (Num.u32 wl0).2 (Num.u32 w0_0).1 (Num.u32 w0_0).2 (Num.u32 w1_0).1 (Num.u32 w1_0).2 (Num.u32 w2_0).1 (Num.u32 w2_0).2 (Num.u32 w3_0).1 (Num.u32 w3_0).2 (Num.u32 w1).1 (Num.u32 w1).2 w

set_option maxRecDepth 100000 in
theorem lifted (os : Os) (started : os.Started) (H : Type) (enc : TypeId × Value → H) :
    ReturnsInHanded {} Try.checked os 10 .any (Rows.windowTellsSpec.pre6 enc Try.prog Try.f10 Rows.windowTellsRow.domain false) (Rows.windowTellsSpec.post enc Try.prog Try.f10 false true false false) := by
  refine returnsInHanded_of_change (C := Try.checked) own started (by kernel_rfl) Try.func10
    (ChangeSpec.witness6 (enc := enc) (C := Try.checked) false ⟨#[], #[.agg #[.int .u32 0, .int .u32 0, .int .u32 0, .int .u32 0, .int .u32 0, .int .u32 0], .int .u32 0], []⟩ 8 (by kernel_rfl) (by kernel_rfl) (by kernel_rfl) (by kernel_rfl)) ?_
  intro W base args ds gs before hval0 hW hcnd _
  have hval : ∀ (j : Nat) t v, Try.f10.params[j]? = some t → args[j]? = some v → Value.okWide Try.prog W .any base t v := hval0
  have hW' := hW
  obtain ⟨p, q, hA0, hV, rfl, hfz, hnd⟩ := hW
  have hA : DataW.TrodAll enc Try.prog W 0 (fun _ => true) true Try.f10.params.toList args.toList ds p := hA0
  rw [Try.params10] at hA hval
  obtain ⟨v0, vs0, d0, ds0, p0, q0, hargs, rfl, rfl, h0, r0⟩ := trodAll_cons hA
  obtain ⟨v1, vs1, d1, ds1, p1, q1, rfl, rfl, rfl, h1, r1⟩ := trodAll_cons r0
  obtain ⟨rfl, rfl, rfl⟩ := trodAll_nil r1
  obtain rfl : args = #[v0, v1] := by cases args; simp_all
  obtain ⟨rfl, rfl⟩ := trodVars_none hV
  have k0 := h0
  obtain ⟨m0, l0, c0_0, c1_0, c2_0, c3_0, rfl, rfl, wm0, wl0, w0_0, w1_0, w2_0, w3_0⟩ := OpenRing.open_win (hval 0 55 v0 rfl rfl) h0
  obtain ⟨a1, rfl, rfl, rfl, w1⟩ := open_int Try.underlying22 (hval 1 22 v1 rfl rfl) h1
  clear hA0 hval0
  refine (walk m0 l0 c0_0 c1_0 c2_0 c3_0 wm0 wl0 w0_0 w1_0 w2_0 w3_0 a1 w1 W).mono fun e W' ⟨he, bel⟩ => ?_
  subst he
  exact ⟨_, rfl, _, _, _, [], _, [], hW', trodAll_cons_mk (shut_bool Try.underlying4 _) trodAll_mk0, trodAll_cons_mk (Below.trod OpenRing.laidOut (by kernel_rfl) (of_decide_eq_true (by kernel_rfl)) k0 bel (fun x hx => by cases hx)) (trodAll_cons_mk (shut_int Try.underlying22 w1) (trodAll_mk0)), rfl, bel.frame _, fun h => by cases h⟩

theorem over : Rows.windowTellsRow.holds Try.pinned (OpenSpec.ofChange Rows.windowTellsSpec) :=
  OpenClaim.holds_of_wide 10 Try.f10 rfl rfl rfl rfl rfl rfl rfl ⟨rfl, rfl, rfl, rfl, rfl⟩ rfl rfl rfl rfl rfl (by kernel_rfl) Try.func10 (by kernel_rfl)
    (of_decide_eq_true (by kernel_rfl)) (by unfold Func.isWrapper; first | (rw [if_pos (by decide +kernel)]; kernel_rfl) | (rw [if_neg (by decide +kernel)]; exact ⟨rfl, rfl⟩))
    (fun os started H enc _ => lifted os started H enc)

theorem proved : Rows.WindowTellsSaid :=
  over
#print axioms proved
end Go.Proofs.Ytaoelppkognakaa.windowTells
namespace Go.Proofs.Ytaoelppkognakaa
/-- The row, under a short name, for the claim. -/
theorem windowTells_holds : Rows.WindowTellsSaid := windowTells.proved
end Go.Proofs.Ytaoelppkognakaa
