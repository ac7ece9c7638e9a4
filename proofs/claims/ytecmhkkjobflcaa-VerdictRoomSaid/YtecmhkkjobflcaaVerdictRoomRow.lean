/- VerdictRoom: the row of the statement: whatever the input, the call returns true and the arguments read as before. No condition. -/
import Derived.Test.YtecmhkkjobflcaaRows
import Derived.WalkKit
import Derived.ProofKit
import Derived.OpenShut
import Derived.Test.YtecmhkkjobflcaaOpenVer
import Derived.Test.YtecmhkkjobflcaaVerRoomC
namespace Go.Proofs.Ytecmhkkjobflcaa.verdictRoom
open Go.ChangeShapes Go.WideShapes Go.ChangeAt Go.RowKit
set_option linter.unusedVariables false

theorem own : ownKnob Try.prog.godebug = none := by kernel_rfl

theorem walk (a0 : Int) (w0 : (Lit.int .i64 a0).wf = true) (a1 : Option Addr) (len1 cap1 : Nat) (h2_ : List Int) (H2_ : Ver.IsHash h2_) (w : World) (f1 : Ver.Acts w a1 len1) :
    Calls Try.prog 7 #[.int .i64 a0, .slice a1 len1 cap1, .agg (Ver.cs h2_).toArray] w fun e w' => e = .returned (.bool true) ∧ Below w.heap.size w w' :=
  Ver.verRoom_c a0 a1 len1 cap1 h2_ H2_ w f1

set_option maxRecDepth 100000 in
theorem lifted (os : Os) (started : os.Started) (H : Type) (enc : TypeId × Value → H) :
    ReturnsInHanded {} Try.checked os 7 .any (Rows.verdictRoomSpec.pre6 enc Try.prog Try.f7 Rows.verdictRoomRow.domain false) (Rows.verdictRoomSpec.post enc Try.prog Try.f7 false true false false) := by
  refine returnsInHanded_of_change (C := Try.checked) own started (by kernel_rfl) Try.func7
    (ChangeSpec.witness6 (enc := enc) (C := Try.checked) false ⟨#[], #[.int .i64 0, .slice none 0 0, .agg #[.int .u8 0, .int .u8 0, .int .u8 0, .int .u8 0, .int .u8 0, .int .u8 0, .int .u8 0, .int .u8 0, .int .u8 0, .int .u8 0, .int .u8 0, .int .u8 0, .int .u8 0, .int .u8 0, .int .u8 0, .int .u8 0, .int .u8 0, .int .u8 0, .int .u8 0, .int .u8 0, .int .u8 0, .int .u8 0, .int .u8 0, .int .u8 0, .int .u8 0, .int .u8 0, .int .u8 0, .int .u8 0, .int .u8 0, .int .u8 0, .int .u8 0, .int .u8 0]], []⟩ 8 (by kernel_rfl) (by kernel_rfl) (by kernel_rfl) (by kernel_rfl)) ?_
  intro W base args ds gs before hval0 hW hcnd _
  have hval : ∀ (j : Nat) t v, Try.f7.params[j]? = some t → args[j]? = some v → Value.okWide Try.prog W .any base t v := hval0
  have hW' := hW
  obtain ⟨p, q, hA0, hV, rfl, hfz, hnd⟩ := hW
  have hA : DataW.TrodAll enc Try.prog W 0 (fun _ => true) true Try.f7.params.toList args.toList ds p := hA0
  rw [Try.params7] at hA hval
  obtain ⟨v0, vs0, d0, ds0, p0, q0, hargs, rfl, rfl, h0, r0⟩ := trodAll_cons hA
  obtain ⟨v1, vs1, d1, ds1, p1, q1, rfl, rfl, rfl, h1, r1⟩ := trodAll_cons r0
  obtain ⟨v2, vs2, d2, ds2, p2, q2, rfl, rfl, rfl, h2, r2⟩ := trodAll_cons r1
  obtain ⟨rfl, rfl, rfl⟩ := trodAll_nil r2
  obtain rfl : args = #[v0, v1, v2] := by cases args; simp_all
  obtain ⟨rfl, rfl⟩ := trodVars_none hV
  obtain ⟨a0, rfl, rfl, rfl, w0⟩ := open_int Try.underlying3 (hval 0 3 v0 rfl rfl) h0
  have k1 := h1
  have hlt1 : ∀ x ∈ p1, x.block < W.heap.size := fun x hx => by simpa using hW'.lt x (by simp [hx])
  obtain ⟨a1, len1, cap1, rfl, f1_⟩ := Ver.open_any (fun vs => ∃ y : Ver.ActV, vs = Ver.ac y ∧ Ver.IsHash y.h ∧ (Lit.int .i64 y.doo).wf = true) Try.underlying39 Ver.cellsAct (by decide) Ver.trod_act (hval 1 39 v1 rfl rfl) h1 hlt1
  have f1 := Ver.acts_of f1_
  have k2 := h2
  obtain ⟨h2_, rfl, rfl, H2_⟩ := Ver.open_hash (hval 2 48 v2 rfl rfl) h2
  clear hA0 hval0
  refine (walk a0 w0 a1 len1 cap1 h2_ H2_ W f1).mono fun e W' ⟨he, bel⟩ => ?_
  subst he
  exact ⟨_, rfl, _, _, _, [], _, [], hW', trodAll_cons_mk (shut_bool Try.underlying4 _) trodAll_mk0, trodAll_cons_mk (shut_int Try.underlying3 w0) (trodAll_cons_mk (Below.trod Ver.laidOut (by kernel_rfl) (of_decide_eq_true (by kernel_rfl)) k1 bel hlt1) (trodAll_cons_mk (Below.trod Ver.laidOut (by kernel_rfl) (of_decide_eq_true (by kernel_rfl)) k2 bel (fun x hx => by cases hx)) (trodAll_mk0))), rfl, bel.frame _, fun h => by cases h⟩

theorem over : Rows.verdictRoomRow.holds Try.pinned (OpenSpec.ofChange Rows.verdictRoomSpec) :=
  OpenClaim.holds_of_wide 7 Try.f7 rfl rfl rfl rfl rfl rfl rfl ⟨rfl, rfl, rfl, rfl, rfl⟩ rfl rfl rfl rfl rfl (by kernel_rfl) Try.func7 (by kernel_rfl)
    (of_decide_eq_true (by kernel_rfl)) (by unfold Func.isWrapper; first | (rw [if_pos (by decide +kernel)]; kernel_rfl) | (rw [if_neg (by decide +kernel)]; exact ⟨rfl, rfl⟩))
    (fun os started H enc _ => lifted os started H enc)

theorem proved : Rows.VerdictRoomSaid :=
  over
#print axioms proved
end Go.Proofs.Ytecmhkkjobflcaa.verdictRoom
namespace Go.Proofs.Ytecmhkkjobflcaa
/-- The row, under a short name, for the claim. -/
theorem verdictRoom_holds : Rows.VerdictRoomSaid := verdictRoom.proved
end Go.Proofs.Ytecmhkkjobflcaa
