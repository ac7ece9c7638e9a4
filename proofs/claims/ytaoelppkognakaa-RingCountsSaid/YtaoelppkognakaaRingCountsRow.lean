/- RingCounts: the row of the statement: whatever the input, the call returns true and the arguments read as before. No condition. -/
import Derived.Test.YtaoelppkognakaaRows
import Derived.WalkKit
import Derived.ProofKit
import Derived.OpenShut
import Derived.Test.YtaoelppkognakaaOpenRing
import Derived.Test.YtaoelppkognakaaRingCounts
namespace Go.Proofs.Ytaoelppkognakaa.ringCounts
open Go.ChangeShapes Go.WideShapes Go.ChangeAt Go.RowKit
set_option linter.unusedVariables false

theorem own : ownKnob Try.prog.godebug = none := by kernel_rfl

theorem walk (xs0 : List Int) (a0 : Option Addr) (len0 cap0 : Nat) (a1 : Int) (w1 : (Lit.int .u32 a1).wf = true) (w : World) (f0 : 0 < len0 → ∃ b off, a0 = some ⟨b, off, none⟩ ∧ b < w.heap.size ∧ (∀ j, j < len0 → 0 ≤ xs0[j]?.getD 0 ∧ xs0[j]?.getD 0 < 4294967296) ∧ (∀ j, j < len0 → w.cell? ⟨b, off + j, none⟩ = some (.int .u32 (xs0[j]?.getD 0)))) :
    Calls Try.prog 7 #[.slice a0 len0 cap0, .int .u32 a1] w fun e w' => e = .returned (.bool true) ∧ Below w.heap.size w w' :=
  RingCts.ringCounts_c xs0 a0 len0 cap0 a1 (Num.u32 w1).1 (Num.u32 w1).2 w f0

set_option maxRecDepth 100000 in
theorem lifted (os : Os) (started : os.Started) (H : Type) (enc : TypeId × Value → H) :
    ReturnsInHanded {} Try.checked os 7 .any (Rows.ringCountsSpec.pre6 enc Try.prog Try.f7 Rows.ringCountsRow.domain false) (Rows.ringCountsSpec.post enc Try.prog Try.f7 false true false false) := by
  refine returnsInHanded_of_change (C := Try.checked) own started (by kernel_rfl) Try.func7
    (ChangeSpec.witness6 (enc := enc) (C := Try.checked) false ⟨#[], #[.slice none 0 0, .int .u32 0], []⟩ 8 (by kernel_rfl) (by kernel_rfl) (by kernel_rfl) (by kernel_rfl)) ?_
  intro W base args ds gs before hval0 hW hcnd _
  have hval : ∀ (j : Nat) t v, Try.f7.params[j]? = some t → args[j]? = some v → Value.okWide Try.prog W .any base t v := hval0
  have hW' := hW
  obtain ⟨p, q, hA0, hV, rfl, hfz, hnd⟩ := hW
  have hA : DataW.TrodAll enc Try.prog W 0 (fun _ => true) true Try.f7.params.toList args.toList ds p := hA0
  rw [Try.params7] at hA hval
  obtain ⟨v0, vs0, d0, ds0, p0, q0, hargs, rfl, rfl, h0, r0⟩ := trodAll_cons hA
  obtain ⟨v1, vs1, d1, ds1, p1, q1, rfl, rfl, rfl, h1, r1⟩ := trodAll_cons r0
  obtain ⟨rfl, rfl, rfl⟩ := trodAll_nil r1
  obtain rfl : args = #[v0, v1] := by cases args; simp_all
  obtain ⟨rfl, rfl⟩ := trodVars_none hV
  obtain ⟨a0, len0, cap0, rfl⟩ := okWide_slice Try.underlying50 (hval 0 50 v0 rfl rfl)
  have k0 := h0
  have hlt0 : ∀ x ∈ p0, x.block < W.heap.size := fun x hx => by simpa using hW'.lt x (by simp [hx])
  obtain ⟨fuel0, hf0⟩ := h0
  obtain ⟨xs0, f0⟩ : ∃ xs : List Int, 0 < len0 → ∃ b off, a0 = some ⟨b, off, none⟩ ∧ b < W.heap.size ∧ (∀ j, j < len0 → 0 ≤ xs[j]?.getD 0 ∧ xs[j]?.getD 0 < 4294967296) ∧ (∀ j, j < len0 → W.cell? ⟨b, off + j, none⟩ = some (.int .u32 (xs[j]?.getD 0))) := by
    rcases open_ints Try.underlying50 Try.underlying22 OpenRing.cells_u32 hf0 with ⟨hcs, hx⟩ | ⟨a, len', cap', zs, hcs, _, hl, hm, hz, hx, hcell, hwz⟩
    · simp [Value.cells] at hcs
      obtain ⟨rfl, rfl, rfl⟩ := hcs
      exact ⟨[], fun h => absurd h (by decide)⟩
    · simp [Value.cells] at hcs
      obtain ⟨rfl, rfl, rfl⟩ := hcs
      simp only [Prod.mk.injEq] at hx
      obtain ⟨rfl, rfl⟩ := hx
      simp only [if_true] at hz
      refine ⟨zs, fun h0 => ?_⟩
      obtain ⟨b, off, spot⟩ := a
      have hspot : spot = none := by simpa [Addr.add] using World.cell?_spot (hcell 0 (by omega))
      subst hspot
      refine ⟨b, off, rfl, hlt0 (.cell b off) (MemPlace.mem_row.2 ⟨0, by omega, by simp⟩), fun j hj => ?_, fun j hj => ?_⟩
      · rw [List.getElem?_eq_getElem (by omega)]
        exact Num.u32 (hwz _ (List.getElem_mem _))
      · rw [← add_plain]; exact hcell j (by omega)
  obtain ⟨a1, rfl, rfl, rfl, w1⟩ := open_int Try.underlying22 (hval 1 22 v1 rfl rfl) h1
  clear hA0 hval0
  refine (walk xs0 a0 len0 cap0 a1 w1 W f0).mono fun e W' ⟨he, bel⟩ => ?_
  subst he
  exact ⟨_, rfl, _, _, _, [], _, [], hW', trodAll_cons_mk (shut_bool Try.underlying4 _) trodAll_mk0, trodAll_cons_mk (Below.trod OpenRing.laidOut (by kernel_rfl) (of_decide_eq_true (by kernel_rfl)) k0 bel hlt0) (trodAll_cons_mk (shut_int Try.underlying22 w1) (trodAll_mk0)), rfl, bel.frame _, fun h => by cases h⟩

theorem over : Rows.ringCountsRow.holds Try.pinned (OpenSpec.ofChange Rows.ringCountsSpec) :=
  OpenClaim.holds_of_wide 7 Try.f7 rfl rfl rfl rfl rfl rfl rfl ⟨rfl, rfl, rfl, rfl, rfl⟩ rfl rfl rfl rfl rfl (by kernel_rfl) Try.func7 (by kernel_rfl)
    (of_decide_eq_true (by kernel_rfl)) (by unfold Func.isWrapper; first | (rw [if_pos (by decide +kernel)]; kernel_rfl) | (rw [if_neg (by decide +kernel)]; exact ⟨rfl, rfl⟩))
    (fun os started H enc _ => lifted os started H enc)

theorem proved : Rows.RingCountsSaid :=
  over
#print axioms proved
end Go.Proofs.Ytaoelppkognakaa.ringCounts
namespace Go.Proofs.Ytaoelppkognakaa
/-- The row, under a short name, for the claim. -/
theorem ringCounts_holds : Rows.RingCountsSaid := ringCounts.proved
end Go.Proofs.Ytaoelppkognakaa
